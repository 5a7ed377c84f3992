/- Texts of this claim, joined: Base Mix Gb Ab1 Ab2 Ab3 Ab4 Ab5 Ab6 Ab7 Ab8 Ab33 Bas2 Ab9 -/
import Derived.WalkKit
import Derived.WalkSpells
import Derived.WalkLawsBesides
import Derived.Lib.Hide
import Derived.Laws.AppendOwnNone
import Derived.BigQuiet
import Derived.Deep.QuietTactic
import Derived.OrdersHeld
import Derived.RegionTactic
import Derived.Lib.ItoaNum
import Derived.Deep.MidRow
import Derived.Lib.SliceRun
import Derived.Laws.StructEq
import Derived.Laws.MakeOwn
import Derived.MapKept
set_option linter.unusedVariables false
set_option linter.unusedSimpArgs false
namespace Go.Proofs.YtmfamhoopjeaiaaDoor
section
open Go.RowKit
variable {S : Nat → Prop}
def Ext (w w' : World) : Prop := Below w.heap.size w w' ∧ w.drawn ≤ w'.drawn
theorem Ext.refl (w : World) : Ext w w := ⟨Below.refl _ _, Nat.le_refl _⟩
theorem Ext.size {w w' : World} (h : Ext w w') : w.heap.size ≤ w'.heap.size := Below.size h.1
theorem zX3 {α : Type} : ∀ (x : Ask α) (w : World), w.drawn ≤ (w.ask x).2.drawn
 | .done a, w => Nat.le_refl _
 | .ask what range k, w => by
  simp only [World.ask]
  split
  ·exact zX3 _ _
  ·exact Nat.le_trans (Nat.le_succ w.drawn) (zX3 (k _) { w with drawn := w.drawn + 1 })
theorem sys_dr (w : World) (c : Sys) : w.drawn ≤ (w.sys c).2.drawn := by
 unfold World.sys
 have h := zX3 (Kernel.perform c w.os) w
 split
 ·exact Nat.le_refl _
 ·rename_i e
  rw [e] at h; exact h
theorem view_dr {P : Program} {w : World} {a k : Addr} {u : TypeId} {v : Value} {at_ : Bool} {r : World × List Addr} (h : w.viewStore P a u k v at_ = .ok r) : r.1.drawn = w.drawn := by
 unfold World.viewStore at h
 simp only [bind, Except.bind, pure, Except.pure, throw, throwThe, MonadExceptOf.throw] at h
 (repeat' split at h) <;> first | cases h; done | (cases h; rfl)
theorem far_dr {P : Program} {w : World} {a : Addr} {v : Value} {at_ : Bool} {r : World × List Addr} (h : w.farStore P a v at_ = .ok r) : r.1.drawn = w.drawn := by
 unfold World.farStore at h
 split at h
 ·split at h
  ·rename_i e
   cases h
   exact view_dr e
  ·cases h
 ·cases h
theorem zBu {P : Program} {α : Type} : ∀ (s : Sem α) (w : World) {a : α} {w' : World}, s.run P w = .ok a w' → w.drawn ≤ w'.drawn
 | .pure a, w, _, _, h => by simp only [Sem.run] at h; cases h; exact Nat.le_refl _
 | .load m a k, w, _, _, h => by
  simp only [Sem.run] at h
  (repeat' split at h) <;> first | cases h; done | exact zBu _ _ h
 | .store m a v k, w, _, _, h => by
  cases v <;> simp only [Sem.run] at h <;> first | cases h; done | skip
  all_goals
   split at h
   ·split at h
    ·cases h
    ·have := zBu k _ h
     exact this
   ·split at h
    ·rename_i e
     have := zBu k _ h
     rw [← far_dr e]; exact this
    ·cases h
 | .new o k, w, _, _, h => by
  simp only [Sem.run] at h
  have := zBu (k _) _ h
  exact this
 | .shape r k, w, _, _, h => by simp only [Sem.run] at h; exact zBu (k _) _ h
 | .freeze a n k, w, _, _, h => by
  simp only [Sem.run] at h
  have := zBu k _ h
  unfold World.freeze at this
  split at this <;> exact this
 | .frozen a k, w, _, _, h => by simp only [Sem.run] at h; exact zBu (k _) _ h
 | .getObj r k, w, _, _, h => by
  simp only [Sem.run] at h
  (repeat' split at h) <;> first | cases h; done | exact zBu (k _) _ h
 | .setObj r o k, w, _, _, h => by
  simp only [Sem.run] at h
  (repeat' split at h) <;> first | cases h; done | (have := zBu k _ h; exact this)
 | .choose q k, w, _, _, h => by
  simp only [Sem.run] at h
  split at h
  ·exact zBu (k 0) _ h
  ·exact Nat.le_trans (Nat.le_succ w.drawn) (zBu (k _) { w with drawn := w.drawn + 1 } h)
 | .sys c k, w, _, _, h => by simp only [Sem.run] at h; exact Nat.le_trans (sys_dr w c) (zBu (k _) _ h)
 | .program k, w, _, _, h => by simp only [Sem.run] at h; exact zBu (k _) _ h
 | .mark m k, w, _, _, h => by simp only [Sem.run] at h; exact zBu k _ h
 | .halt h', w, _, _, h => by simp only [Sem.run] at h; cases h
theorem Ext.trans {a b c : World} (h : Ext a b) (k : Ext b c) : Ext a c :=
 ⟨Go.RowKit.Below.trans h.1 (Go.RowKit.Below.mono k.1 h.size), Nat.le_trans h.2 k.2⟩
theorem Ext.cell {w w' : World} (h : Ext w w') {a : Addr} {v : Value} (hc : w.cell? a = some v) : w'.cell? a = some v := by
 rw [Below.cell h.1 (World.block_lt_of_cell? w a hc)]; exact hc
theorem Ext.alloc (w : World) (o : Obj) : Ext w (w.alloc o) := ⟨(Below.refl _ _).alloc (Nat.le_refl _) o, Nat.le_refl _⟩
theorem Ext.drew (w : World) : Ext w w.drew := ⟨(Below.refl _ _).drew, Nat.le_succ _⟩
def RowAt (S : Nat → Prop) (w : World) (a : Option Addr) (cs : List Value) : Prop :=
 cs = [] ∨ ∃ b o, a = some ⟨b, o, none⟩ ∧ S b ∧ ∀ i, i < cs.length → w.cell? ⟨b, o + i, none⟩ = cs[i]?
def nval : List Nat → Nat
 | [] => 0
 | x :: l => x + 4294967296 * nval l
def Normal (l : List Nat) : Prop := l = [] ∨ l.getD (l.length - 1) 0 ≠ 0
def Digs (l : List Nat) : Prop := ∀ i, l.getD i 0 < 4294967296
theorem Digs.nil : Digs [] := fun i => by simp
theorem Digs.cons {x : Nat} {l : List Nat} (h : Digs (x :: l)) : x < 4294967296 ∧ Digs l := ⟨by simpa using h 0, fun i => by simpa using h (i + 1)⟩
theorem Digs.mk {x : Nat} {l : List Nat} (hx : x < 4294967296) (h : Digs l) : Digs (x :: l) := fun i => by
 cases i with
 | zero => simpa using hx
 | succ i => simpa using h i
theorem Digs.take {l : List Nat} (h : Digs l) (n : Nat) : Digs (l.take n) := fun i => by
 have := h i
 simp only [List.getD_eq_getElem?_getD, List.getElem?_take] at *
 split
 ·exact this
 ·simp
def zBl (l : List Nat) : Nat → Nat
 | 0 => 0
 | n + 1 => if l.getD n 0 = 0 then zBl l n else n + 1
theorem zLk (l : List Nat) : ∀ n, zBl l n ≤ n
 | 0 => Nat.le_refl _
 | n + 1 => by unfold zBl; split; exact Nat.le_succ_of_le (zLk l n); exact Nat.le_refl _
theorem zEh (a b : List Nat) : nval (a ++ b) = nval a + 4294967296 ^ a.length * nval b := by
 induction a with
 | nil => simp [nval]
 | cons x a ih =>
  have e : 4294967296 ^ (a.length + 1) * nval b = 4294967296 * (4294967296 ^ a.length * nval b) := by
   rw [Nat.pow_succ, Nat.mul_comm (4294967296 ^ a.length), Nat.mul_assoc]
  rw [List.cons_append, nval, ih, nval, List.length_cons, e, Nat.mul_add]
  omega
theorem zJw (l : List Nat) (n : Nat) (h : n < l.length) : l.take (n + 1) = l.take n ++ [l.getD n 0] := by
 rw [List.take_succ_eq_append_getElem h, List.getD_eq_getElem?_getD, List.getElem?_eq_getElem h]; rfl
theorem zPk (l : List Nat) : ∀ n, n ≤ l.length → nval (l.take (zBl l n)) = nval (l.take n)
 | 0, _ => by simp [zBl]
 | n + 1, h => by
  unfold zBl
  split
  ·rename_i h0
   rw [zPk l n (by omega), zJw l n (by omega), zEh, h0]
   simp [nval]
  ·rfl
theorem zF3 (l : List Nat) : ∀ n, n ≤ l.length → Normal (l.take (zBl l n))
 | 0, _ => .inl (by simp [zBl])
 | n + 1, h => by
  unfold zBl
  split
  ·exact zF3 l n (by omega)
  ·rename_i h0
   right
   rw [List.length_take, Nat.min_eq_left h, Nat.add_sub_cancel, List.getD_eq_getElem?_getD, List.getElem?_take, if_pos (by omega), ← List.getD_eq_getElem?_getD]
   exact h0
theorem zWr (l : List Nat) (h : Digs l) : nval l < 4294967296 ^ l.length := by
 induction l with
 | nil => simp [nval]
 | cons x l ih =>
  obtain ⟨h1, h2⟩ := h.cons
  have := ih h2
  rw [nval, List.length_cons, Nat.pow_succ]
  omega
theorem Normal.ge {l : List Nat} (h : Normal l) (hne : l ≠ []) : 4294967296 ^ (l.length - 1) ≤ nval l := by
 rcases h with h | h
 ·exact absurd h hne
 ·have hl : 0 < l.length := List.length_pos_iff.2 hne
  have e : l = l.take (l.length - 1) ++ [l.getD (l.length - 1) 0] := by
   rw [← zJw l (l.length - 1) (by omega), Nat.sub_add_cancel hl, List.take_length]
  have h1 : (l.take (l.length - 1)).length = l.length - 1 := by simp
  have h2 : nval l = nval (l.take (l.length - 1)) + 4294967296 ^ (l.length - 1) * nval [l.getD (l.length - 1) 0] := by
   conv => lhs; rw [e]
   rw [zEh, h1]
  rw [h2]
  have h3 : nval [l.getD (l.length - 1) 0] = l.getD (l.length - 1) 0 := by simp [nval]
  rw [h3]
  have := Nat.le_mul_of_pos_right (4294967296 ^ (l.length - 1)) (Nat.pos_of_ne_zero h)
  omega
theorem Normal.zero {l : List Nat} (h : Normal l) : nval l = 0 ↔ l = [] := by
 constructor
 ·intro h0
  rcases Classical.em (l = []) with h1 | h1
  ·exact h1
  ·have := h.ge h1
   have := Nat.pow_pos (n := l.length - 1) (show 0 < 4294967296 by omega)
   omega
 ·intro h0; subst h0; rfl
theorem Normal.lt_of_length {a b : List Nat} (ha : Digs a) (hb : Normal b) (h : a.length < b.length) : nval a < nval b := by
 have h1 := zWr a ha
 have h2 := hb.ge (by intro e; subst e; simp at h)
 have h3 : 4294967296 ^ a.length ≤ 4294967296 ^ (b.length - 1) := Nat.pow_le_pow_right (by omega) (by omega)
 omega
theorem zK0 (l : List Nat) (k : Nat) (h : k < l.length) : l.drop k = l.getD k 0 :: l.drop (k + 1) := by
 rw [List.drop_eq_getElem_cons h, List.getD_eq_getElem?_getD, List.getElem?_eq_getElem h]; rfl
theorem zLw (l : List Nat) (k : Nat) (h : k < l.length) : nval l = nval (l.take k) + 4294967296 ^ k * (l.getD k 0 + 4294967296 * nval (l.drop (k + 1))) := by
 have e : nval (l.take k ++ l.drop k) = nval l := by rw [List.take_append_drop]
 rw [← e, zEh, zK0 l k h, nval, List.length_take, Nat.min_eq_left (by omega)]
theorem zEr {a b : List Nat} {k : Nat} (ha : Digs a) (hk : k < a.length) (hk' : k < b.length) (hd : a.drop (k + 1) = b.drop (k + 1)) (hx : a.getD k 0 < b.getD k 0) : nval a < nval b := by
 rw [zLw a k hk, zLw b k hk', hd]
 have h1 := zWr (a.take k) (ha.take k)
 rw [List.length_take, Nat.min_eq_left (by omega)] at h1
 generalize nval (b.drop (k + 1)) = r at *
 have h2 : 4294967296 ^ k * (a.getD k 0 + 4294967296 * r) + 4294967296 ^ k ≤ 4294967296 ^ k * (b.getD k 0 + 4294967296 * r) := by
  rw [← Nat.mul_succ]
  exact Nat.mul_le_mul_left _ (by omega)
 omega
theorem zA0 (l : List Nat) (k : Nat) : nval (l.take (k + 1)) = nval (l.take k) + 4294967296 ^ k * l.getD k 0 := by
 rcases Nat.lt_or_ge k l.length with h | h
 ·rw [zJw l k h, zEh, List.length_take, Nat.min_eq_left (by omega)]; simp [nval]
 ·rw [List.take_of_length_le (by omega), List.take_of_length_le h, List.getD_eq_getElem?_getD, List.getElem?_eq_none h]; simp
theorem take_set (l : List Nat) (k v : Nat) : (l.set k v).take k = l.take k := by
 apply List.ext_getElem?
 intro i
 simp only [List.getElem?_take, List.getElem?_set]
 split
 ·rw [if_neg (by omega)]
 ·rfl
theorem zFk (l : List Nat) (k v i : Nat) (h : k < l.length) : (l.set k v).getD i 0 = if i = k then v else l.getD i 0 := by
 simp only [List.getD_eq_getElem?_getD, List.getElem?_set]
 by_cases e : i = k
 ·subst e; simp [h]
 ·rw [if_neg (fun x => e x.symm), if_neg e]
theorem Digs.set {l : List Nat} (h : Digs l) (k v : Nat) (hk : k < l.length) (hv : v < 4294967296) : Digs (l.set k v) := fun i => by
 rw [zFk l k v i hk]
 split
 ·exact hv
 ·exact h i
theorem Digs.replicate (n : Nat) : Digs (List.replicate n 0) := fun i => by
 rw [List.getD_eq_getElem?_getD, List.getElem?_replicate]
 split <;> simp
theorem zLg (n : Nat) : nval (List.replicate n 0) = 0 := by
 induction n with
 | zero => rfl
 | succ n ih => rw [List.replicate_succ, nval, ih]
theorem zJq {la lb cur : List Nat} {k c : Nat} (hk : k < cur.length) (hc : c ≤ 1) (ha : Digs la) (hb : Digs lb)
  (h : nval (cur.take k) + 4294967296 ^ k * c = nval (la.take k) + nval (lb.take k)) :
  (c + la.getD k 0 + lb.getD k 0) / 4294967296 ≤ 1 ∧
   nval ((cur.set k ((c + la.getD k 0 + lb.getD k 0) % 4294967296)).take (k + 1)) + 4294967296 ^ (k + 1) * ((c + la.getD k 0 + lb.getD k 0) / 4294967296) = nval (la.take (k + 1)) + nval (lb.take (k + 1)) := by
 have h1 := ha k
 have h2 := hb k
 refine ⟨by omega, ?_⟩
 rw [zA0, zA0, zA0, take_set, zFk _ _ _ _ hk, if_pos rfl]
 generalize la.getD k 0 = x at *
 generalize lb.getD k 0 = y at *
 have e := Nat.div_add_mod (c + x + y) 4294967296
 have e2 : 4294967296 ^ k * ((c + x + y) % 4294967296) + 4294967296 ^ (k + 1) * ((c + x + y) / 4294967296) = 4294967296 ^ k * (c + x + y) := by
  rw [Nat.pow_succ, Nat.mul_assoc, ← Nat.mul_add, Nat.add_comm, e]
 rw [Nat.mul_add, Nat.mul_add] at e2
 omega
theorem zSq (l : List Nat) (k v : Nat) (h : k < l.length) : nval (l.set k v) + 4294967296 ^ k * l.getD k 0 = nval l + 4294967296 ^ k * v := by
 induction l generalizing k with
 | nil => simp at h
 | cons x l ih =>
  cases k with
  | zero => simp [nval]; omega
  | succ k =>
   have := ih k (by simpa using h)
   simp only [List.set_cons_succ, nval, List.getD_cons_succ, Nat.pow_succ]
   rw [Nat.mul_comm (4294967296 ^ k) 4294967296, Nat.mul_assoc, Nat.mul_assoc]
   omega
def zQp (A B : List Nat) (i j c : Nat) (cur : List Nat) : Prop :=
 cur.length = A.length + B.length ∧ Digs cur ∧ (∀ t, i + B.length ≤ t → cur.getD t 0 = 0) ∧
  nval cur + 4294967296 ^ (i + j) * c = nval (A.take i) * nval B + 4294967296 ^ i * (A.getD i 0 * nval (B.take j))
theorem zWz {A B cur : List Nat} {i : Nat} (h1 : cur.length = A.length + B.length) (h2 : Digs cur) (h3 : ∀ t, i + B.length ≤ t → cur.getD t 0 = 0) (h4 : nval cur = nval (A.take i) * nval B) : zQp A B i 0 0 cur :=
 ⟨h1, h2, h3, by simp [nval, h4]⟩
theorem zW0 {x y c o : Nat} (hx : x < 4294967296) (hy : y < 4294967296) (hc : c < 4294967296) (ho : o < 4294967296) : x * y ≤ 18446744065119617025 ∧ c + (x * y + o) < 18446744073709551616 ∧ (c + (x * y + o)) / 4294967296 < 4294967296 := by
 have h : x * y ≤ 4294967295 * 4294967295 := Nat.mul_le_mul (by omega) (by omega)
 omega
theorem zZu {A B cur : List Nat} {i j c : Nat} (hi : i < A.length) (hj : j < B.length) (h : zQp A B i j c cur) :
  zQp A B i (j + 1) ((c + (A.getD i 0 * B.getD j 0 + cur.getD (i + j) 0)) / 4294967296) (cur.set (i + j) ((c + (A.getD i 0 * B.getD j 0 + cur.getD (i + j) 0)) % 4294967296)) := by
 obtain ⟨h1, h2, h3, h4⟩ := h
 have hlt : i + j < cur.length := by omega
 refine ⟨by rw [List.length_set]; exact h1, h2.set _ _ hlt (by omega), fun t ht => ?_, ?_⟩
 ·rw [zFk _ _ _ _ hlt, if_neg (by omega)]; exact h3 t ht
 ·have e := zSq cur (i + j) ((c + (A.getD i 0 * B.getD j 0 + cur.getD (i + j) 0)) % 4294967296) hlt
  rw [zA0]
  generalize cur.getD (i + j) 0 = o at *
  generalize A.getD i 0 = x at *
  generalize B.getD j 0 = y at *
  generalize nval (cur.set (i + j) ((c + (x * y + o)) % 4294967296)) = N at *
  have d := Nat.div_add_mod (c + (x * y + o)) 4294967296
  have e2 : 4294967296 ^ (i + j) * ((c + (x * y + o)) % 4294967296) + 4294967296 ^ (i + (j + 1)) * ((c + (x * y + o)) / 4294967296) = 4294967296 ^ (i + j) * (c + (x * y + o)) := by
   rw [show i + (j + 1) = (i + j) + 1 from rfl, Nat.pow_succ, Nat.mul_assoc, ← Nat.mul_add, Nat.add_comm (_ % _), d]
  have e3 : 4294967296 ^ i * (x * (nval (B.take j) + 4294967296 ^ j * y)) = 4294967296 ^ i * (x * nval (B.take j)) + 4294967296 ^ (i + j) * (x * y) := by
   rw [Nat.mul_add, Nat.mul_add, Nat.pow_add]
   congr 1
   rw [Nat.mul_assoc]
   congr 1
   rw [← Nat.mul_assoc, ← Nat.mul_assoc, Nat.mul_comm x]
  rw [e3]
  rw [Nat.mul_add, Nat.mul_add] at e2
  omega
theorem mul_end {A B cur : List Nat} {i c : Nat} (hi : i < A.length) (hc : c < 4294967296) (h : zQp A B i B.length c cur) :
  (cur.set (i + B.length) c).length = A.length + B.length ∧ Digs (cur.set (i + B.length) c) ∧ (∀ t, i + 1 + B.length ≤ t → (cur.set (i + B.length) c).getD t 0 = 0) ∧ nval (cur.set (i + B.length) c) = nval (A.take (i + 1)) * nval B := by
 obtain ⟨h1, h2, h3, h4⟩ := h
 have hlt : i + B.length < cur.length := by omega
 refine ⟨by rw [List.length_set]; exact h1, h2.set _ _ hlt hc, fun t ht => ?_, ?_⟩
 ·rw [zFk _ _ _ _ hlt, if_neg (by omega)]; exact h3 t (by omega)
 ·have e := zSq cur (i + B.length) c hlt
  rw [h3 _ (Nat.le_refl _), Nat.mul_zero, Nat.add_zero, h4, List.take_length] at e
  rw [e, zA0, Nat.add_mul, Nat.mul_assoc]
end
section
open Go.RowKit
structure Grows (R : World → World → Prop) : Prop where
 refl : ∀ w, R w w
 trans : ∀ {a b c : World}, R a b → R b c → R a c
section
variable {G S : Nat → Prop}
end
section
variable {P : Program} {ops : Array Oper} {Q : Exit → Act → World → Prop} {md : Region.Mode} {tl : Nat → Bool} {R : World → World → Prop}
def Closed (md : Region.Mode) (ops : Array Oper) (listed : Array Bool) : Prop :=
 ∀ k ok, ops[k]? = some ok → listed.getD k false = true → ∀ e ∈ ok.after, Region.binds md e = true → listed.getD e.on false = true
theorem Closed.set {listed : Array Bool} (h : Closed md ops listed) {j : Nat} (hj : j ∈ Region.ready md ops listed) : Closed md ops (listed.setIfInBounds j true) := by
 intro k ok hk hl e he hb
 by_cases hkj : j = k
 ·subst hkj
  obtain ⟨_, oj, hoj, hall⟩ := mem_ready.1 hj
  rw [hk] at hoj
  cases hoj
  exact getD_set_true (hall e he hb)
 ·rw [getD_set_ne false hkj] at hl
  exact getD_set_true (h k ok hk hl e he hb)
end
section
variable {P : Program} {y : Array Value → Nat → Option Bool} {Q : Exit → Act → World → Prop} {R : World → World → Prop}
end
end
section
def globT : List (Nat × List Value) := [
 (1, Lib.pow10Tab.map fun z => Value.int .u64 z)
  ]
end
section
open Go.RowKit
inductive D where
 | unk
 | val (v : Value)
 | agg (cs : List D)
 | tup (cs : List D)
 | row (cs : List D) (n : Nat)
 | ptr (cs : List D)
 | clo (f : Fn) (first cap : List D)
 | ifc (t : TypeId) (d : D)
 | own (k off : Nat)
 | osl (k off n m : Nat) (whole : Bool)
 | mref (k : Nat)
 | mfz (ks : List Value) (cs : List D)
 | fx (d : D)
 | osr (k off n m : Nat) (whole : Bool) (cs : List D)
 deriving Inhabited
inductive Kd where
 | plain
 | sh
 | map (ks : List Value)
 deriving Inhabited
structure Bk where
 cells : List D
 ty : TypeId
 sz : Nat
 arr : Bool
 fz : Bool
 kd : Kd
 deriving Inhabited
def Kd.isMap : Kd → Bool
 | .map _ => true
 | _ => false
def Kd.isSh : Kd → Bool
 | .sh => true
 | _ => false
def Bk.nob (e : Bk) : Bool := e.arr && !e.kd.isSh
def MapIs (w : World) (b : Nat) (ks vs : List Value) : Prop := ∃ (es : Array MapEntry) (clock : Nat), w.heap[b]? = some (.map es clock) ∧ es.toList.map (·.key) = ks ∧ es.toList.map (·.val) = vs ∧ (∀ e ∈ es.toList, e.born < clock) ∧ (es.toList.map (·.born)).Nodup
theorem MapIs.of_heap {w w' : World} {b : Nat} {ks vs : List Value} (h : MapIs w b ks vs) (hh : w'.heap[b]? = w.heap[b]?) : MapIs w' b ks vs := by
 obtain ⟨es, c, h1, h2⟩ := h
 exact ⟨es, c, hh.trans h1, h2⟩
theorem MapIs.lt {w : World} {b : Nat} {ks vs : List Value} (h : MapIs w b ks vs) : b < w.heap.size := by
 obtain ⟨es, c, h1, h2⟩ := h
 exact (Array.getElem?_eq_some_iff.1 h1).1
theorem MapIs.no_cells {w : World} {b : Nat} {ks vs : List Value} (h : MapIs w b ks vs) {c : Array Value} {t : TypeId} {f : Nat × Nat} (hh : w.heap[b]? = some (.cells c t f)) : False := by
 obtain ⟨es, k, h1, h2⟩ := h
 rw [hh] at h1; cases h1
abbrev Be := Nat → Option (Nat × Nat)
abbrev Im := Nat → Nat → Prop
def noB : Be := fun _ => none
section
variable {I I' : Im} {w w' : World}
mutual
def Rel (I : Im) (w : World) : Be → D → Value → Prop
 | _, .unk, _ => True
 | _, .val u, v => v = u
 | β, .agg cs, v => ∃ vs : List Value, v = .agg vs.toArray ∧ RelL I w β cs vs
 | β, .tup cs, v => ∃ vs : List Value, v = .tuple vs.toArray ∧ RelT I w β cs vs
 | _, .row cs n, v => ∃ a cap, v = .slice a n cap ∧ n ≤ cap ∧ cap ≤ maxLen ∧ (a = none → cap = 0) ∧ (cs = [] ∨ ∃ b o, a = some ⟨b, o, none⟩ ∧ RelC I w cs b o)
 | _, .ptr cs, v => ∃ b o, v = .pointer (some ⟨b, o, none⟩) ∧ RelC I w cs b o
 | β, .clo f x y, v => ∃ vs us : List Value, v = .func f vs.toArray us.toArray ∧ RelT I w β x vs ∧ RelT I w β y us
 | β, .ifc t d, v => ∃ u, v = .iface t u ∧ Rel I w β d u
 | β, .own k off, v => ∃ b c, β k = some (b, c) ∧ v = .pointer (some ⟨b, off, none⟩)
 | β, .osl k off n m whole, v => (n = 0 ∧ m = 0 ∧ v = .slice none 0 0) ∨ (n = 0 ∧ m = 0 ∧ whole = false ∧ ∃ a c, v = .slice a 0 c ∧ c ≤ maxLen ∧ (a = none → c = 0)) ∨ ∃ b c cap, β k = some (b, c) ∧ v = .slice (some ⟨b, off, none⟩) n cap ∧ n ≤ cap ∧ cap ≤ maxLen ∧ (whole = true → off = 0 ∧ cap = c)
 | β, .mref k, v => ∃ b c, β k = some (b, c) ∧ v = .map (some b)
 | _, .mfz ks cs, v => ∃ b vs, v = .map (some b) ∧ I b 0 ∧ MapIs w b ks vs ∧ RelT I w noB cs vs
 | _, .fx d, v => v.oneCell' = true ∧ Rel I w noB d v
 | β, .osr k off n m whole cs, v => ((n = 0 ∧ m = 0 ∧ v = .slice none 0 0) ∨ (n = 0 ∧ m = 0 ∧ whole = false ∧ ∃ a c, v = .slice a 0 c ∧ c ≤ maxLen ∧ (a = none → c = 0)) ∨ ∃ b c cap, β k = some (b, c) ∧ v = .slice (some ⟨b, off, none⟩) n cap ∧ n ≤ cap ∧ cap ≤ maxLen ∧ (whole = true → off = 0 ∧ cap = c)) ∧ ∃ a cap, v = .slice a n cap ∧ n ≤ cap ∧ cap ≤ maxLen ∧ (a = none → cap = 0) ∧ (cs = [] ∨ ∃ b o, a = some ⟨b, o, none⟩ ∧ RelC I w cs b o)
def RelL (I : Im) (w : World) : Be → List D → List Value → Prop
 | _, [], vs => vs = []
 | β, d :: ds, vs => ∃ v us, vs = v :: us ∧ v.oneCell' = true ∧ Rel I w β d v ∧ RelL I w β ds us
def RelT (I : Im) (w : World) : Be → List D → List Value → Prop
 | _, [], vs => vs = []
 | β, d :: ds, vs => ∃ v us, vs = v :: us ∧ Rel I w β d v ∧ RelT I w β ds us
def RelC (I : Im) (w : World) : List D → Nat → Nat → Prop
 | [], _, _ => True
 | d :: ds, b, o => (I b o ∧ ∃ v, w.cell? ⟨b, o, none⟩ = some v ∧ v.oneCell' = true ∧ Rel I w noB d v) ∧ RelC I w ds b (o + 1)
end
def Fix (I : Im) (w : World) (I' : Im) (w' : World) : Prop := ∀ b o, I b o → I' b o ∧ (∀ v, w.cell? ⟨b, o, none⟩ = some v → w'.cell? ⟨b, o, none⟩ = some v) ∧ ∀ ks vs, MapIs w b ks vs → MapIs w' b ks vs
theorem Fix.refl (I : Im) (w : World) : Fix I w I w := fun _ _ h => ⟨h, fun _ h => h, fun _ _ h => h⟩
theorem Fix.trans {I'' : Im} {w'' : World} (h : Fix I w I' w') (k : Fix I' w' I'' w'') : Fix I w I'' w'' := fun b o hi => ⟨(k b o (h b o hi).1).1, fun v hv => (k b o (h b o hi).1).2.1 v ((h b o hi).2.1 v hv), fun ks vs hv => (k b o (h b o hi).1).2.2 ks vs ((h b o hi).2.2 ks vs hv)⟩
def BeLe (β β' : Be) : Prop := ∀ k x, β k = some x → β' k = some x
theorem BeLe.refl (β : Be) : BeLe β β := fun _ _ h => h
theorem BeLe.no (β : Be) : BeLe noB β := fun _ _ h => by cases h
mutual
theorem Rel.mono (hf : Fix I w I' w') : ∀ (β β' : Be) (_ : BeLe β β') (d : D) (v : Value), Rel I w β d v → Rel I' w' β' d v
 | _, _, _, .unk, _, _ => by simp only [Rel]
 | _, _, _, .val u, v, h => by simp only [Rel] at h ⊢; exact h
 | β, β', hb, .agg cs, v, h => by
  simp only [Rel] at h ⊢
  obtain ⟨vs, h1, h2⟩ := h
  exact ⟨vs, h1, RelL.mono hf β β' hb cs vs h2⟩
 | β, β', hb, .tup cs, v, h => by
  simp only [Rel] at h ⊢
  obtain ⟨vs, h1, h2⟩ := h
  exact ⟨vs, h1, RelT.mono hf β β' hb cs vs h2⟩
 | _, _, _, .row cs n, v, h => by
  simp only [Rel] at h ⊢
  obtain ⟨a, cap, h1, h2, h3, h4, h5⟩ := h
  refine ⟨a, cap, h1, h2, h3, h4, ?_⟩
  rcases h5 with h5 | ⟨b, o, h5, h6⟩
  ·exact .inl h5
  ·exact .inr ⟨b, o, h5, RelC.mono hf cs b o h6⟩
 | _, _, _, .ptr cs, v, h => by
  simp only [Rel] at h ⊢
  obtain ⟨b, o, h1, h2⟩ := h
  exact ⟨b, o, h1, RelC.mono hf cs b o h2⟩
 | β, β', hb, .clo f x y, v, h => by
  simp only [Rel] at h ⊢
  obtain ⟨vs, us, h1, h2, h3⟩ := h
  exact ⟨vs, us, h1, RelT.mono hf β β' hb x vs h2, RelT.mono hf β β' hb y us h3⟩
 | β, β', hb, .ifc t d, v, h => by
  simp only [Rel] at h ⊢
  obtain ⟨u, h1, h2⟩ := h
  exact ⟨u, h1, Rel.mono hf β β' hb d u h2⟩
 | β, β', hb, .own k off, v, h => by
  simp only [Rel] at h ⊢
  obtain ⟨b, c, h1, h2⟩ := h
  exact ⟨b, c, hb _ _ h1, h2⟩
 | β, β', hb, .osl k off n m wh, v, h => by
  simp only [Rel] at h ⊢
  rcases h with h | h | ⟨b, c, cap, h1, h2⟩
  ·exact .inl h
  ·exact .inr (.inl h)
  ·exact .inr (.inr ⟨b, c, cap, hb _ _ h1, h2⟩)
 | β, β', hb, .mref k, v, h => by
  simp only [Rel] at h ⊢
  obtain ⟨b, c, h1, h2⟩ := h
  exact ⟨b, c, hb _ _ h1, h2⟩
 | _, _, _, .mfz ks cs, v, h => by
  simp only [Rel] at h ⊢
  obtain ⟨b, vs, h1, h2, h3, h4⟩ := h
  exact ⟨b, vs, h1, (hf b 0 h2).1, (hf b 0 h2).2.2 ks vs h3, RelT.mono hf noB noB (BeLe.refl _) cs vs h4⟩
 | _, _, _, .fx d, v, h => by
  simp only [Rel] at h ⊢
  exact ⟨h.1, Rel.mono hf noB noB (BeLe.refl _) d v h.2⟩
 | β, β', hb, .osr k off n m wh cs, v, h => by
  simp only [Rel] at h ⊢
  obtain ⟨h, a, cap, h1, h2, h3, h4, h5⟩ := h
  refine ⟨?_, a, cap, h1, h2, h3, h4, ?_⟩
  ·rcases h with h | h | ⟨b, c, cap, h1, h2⟩
   ·exact .inl h
   ·exact .inr (.inl h)
   ·exact .inr (.inr ⟨b, c, cap, hb _ _ h1, h2⟩)
  ·rcases h5 with h5 | ⟨b, o, h5, h6⟩
   ·exact .inl h5
   ·exact .inr ⟨b, o, h5, RelC.mono hf cs b o h6⟩
theorem RelL.mono (hf : Fix I w I' w') : ∀ (β β' : Be) (_ : BeLe β β') (ds : List D) (vs : List Value), RelL I w β ds vs → RelL I' w' β' ds vs
 | _, _, _, [], vs, h => by simp only [RelL] at h ⊢; exact h
 | β, β', hb, d :: ds, vs, h => by
  simp only [RelL] at h ⊢
  obtain ⟨v, us, h1, h2, h3, h4⟩ := h
  exact ⟨v, us, h1, h2, Rel.mono hf β β' hb d v h3, RelL.mono hf β β' hb ds us h4⟩
theorem RelT.mono (hf : Fix I w I' w') : ∀ (β β' : Be) (_ : BeLe β β') (ds : List D) (vs : List Value), RelT I w β ds vs → RelT I' w' β' ds vs
 | _, _, _, [], vs, h => by simp only [RelT] at h ⊢; exact h
 | β, β', hb, d :: ds, vs, h => by
  simp only [RelT] at h ⊢
  obtain ⟨v, us, h1, h3, h4⟩ := h
  exact ⟨v, us, h1, Rel.mono hf β β' hb d v h3, RelT.mono hf β β' hb ds us h4⟩
theorem RelC.mono (hf : Fix I w I' w') : ∀ (ds : List D) (b o : Nat), RelC I w ds b o → RelC I' w' ds b o
 | [], _, _, _ => by simp only [RelC]
 | d :: ds, b, o, h => by
  simp only [RelC] at h ⊢
  obtain ⟨⟨h1, v, h2, h3, h4⟩, h5⟩ := h
  exact ⟨⟨(hf b o h1).1, v, (hf b o h1).2.1 v h2, h3, Rel.mono hf noB noB (BeLe.refl _) d v h4⟩, RelC.mono hf ds b (o + 1) h5⟩
end
theorem Rel.no {β : Be} {d : D} {v : Value} (h : Rel I w noB d v) : Rel I w β d v := Rel.mono (Fix.refl I w) noB β (BeLe.no β) d v h
theorem RelL.length {β : Be} : ∀ {ds : List D} {vs : List Value}, RelL I w β ds vs → ds.length = vs.length
 | [], vs, h => by simp only [RelL] at h; subst h; rfl
 | d :: ds, vs, h => by simp only [RelL] at h; obtain ⟨v, us, rfl, _, _, h4⟩ := h; simp [RelL.length h4]
theorem RelT.length {β : Be} : ∀ {ds : List D} {vs : List Value}, RelT I w β ds vs → ds.length = vs.length
 | [], vs, h => by simp only [RelT] at h; subst h; rfl
 | d :: ds, vs, h => by simp only [RelT] at h; obtain ⟨v, us, rfl, _, h4⟩ := h; simp [RelT.length h4]
theorem RelL.get {β : Be} : ∀ {ds : List D} {vs : List Value}, RelL I w β ds vs → ∀ (i : Nat) (d : D), ds[i]? = some d → ∃ v, vs[i]? = some v ∧ v.oneCell' = true ∧ Rel I w β d v
 | [], vs, h, i, d, hd => by simp at hd
 | c :: ds, vs, h, i, d, hd => by
  simp only [RelL] at h
  obtain ⟨v, us, rfl, h2, h3, h4⟩ := h
  cases i with
  | zero => simp at hd; subst hd; exact ⟨v, by simp, h2, h3⟩
  | succ i => simpa using RelL.get h4 i d (by simpa using hd)
theorem RelT.get {β : Be} : ∀ {ds : List D} {vs : List Value}, RelT I w β ds vs → ∀ (i : Nat) (d : D), ds[i]? = some d → ∃ v, vs[i]? = some v ∧ Rel I w β d v
 | [], vs, h, i, d, hd => by simp at hd
 | c :: ds, vs, h, i, d, hd => by
  simp only [RelT] at h
  obtain ⟨v, us, rfl, h3, h4⟩ := h
  cases i with
  | zero => simp at hd; subst hd; exact ⟨v, by simp, h3⟩
  | succ i => simpa using RelT.get h4 i d (by simpa using hd)
theorem RelL.of_get {β : Be} : ∀ {ds : List D} {vs : List Value}, ds.length = vs.length → (∀ (i : Nat) d v, ds[i]? = some d → vs[i]? = some v → v.oneCell' = true ∧ Rel I w β d v) → RelL I w β ds vs
 | [], vs, hl, h => by simp only [RelL]; exact List.eq_nil_of_length_eq_zero (by simpa using hl.symm)
 | d :: ds, [], hl, h => by simp at hl
 | d :: ds, v :: vs, hl, h => by
  simp only [RelL]
  exact ⟨v, vs, rfl, (h 0 d v rfl rfl).1, (h 0 d v rfl rfl).2, RelL.of_get (by simpa using hl) (fun i d v h1 h2 => h (i + 1) d v (by simpa using h1) (by simpa using h2))⟩
theorem RelT.of_get {β : Be} : ∀ {ds : List D} {vs : List Value}, ds.length = vs.length → (∀ (i : Nat) d v, ds[i]? = some d → vs[i]? = some v → Rel I w β d v) → RelT I w β ds vs
 | [], vs, hl, h => by simp only [RelT]; exact List.eq_nil_of_length_eq_zero (by simpa using hl.symm)
 | d :: ds, [], hl, h => by simp at hl
 | d :: ds, v :: vs, hl, h => by
  simp only [RelT]
  exact ⟨v, vs, rfl, h 0 d v rfl rfl, RelT.of_get (by simpa using hl) (fun i d v h1 h2 => h (i + 1) d v (by simpa using h1) (by simpa using h2))⟩
theorem RelC.get : ∀ {ds : List D} {b o : Nat}, RelC I w ds b o → ∀ (i : Nat) (d : D), ds[i]? = some d → I b (o + i) ∧ ∃ v, w.cell? ⟨b, o + i, none⟩ = some v ∧ v.oneCell' = true ∧ Rel I w noB d v
 | [], b, o, h, i, d, hd => by simp at hd
 | c :: ds, b, o, h, i, d, hd => by
  simp only [RelC] at h
  cases i with
  | zero => simp at hd; subst hd; exact h.1
  | succ i =>
   have := RelC.get h.2 i d (by simpa using hd)
   rw [show o + (i + 1) = o + 1 + i by omega]
   exact this
theorem RelC.of_get : ∀ {ds : List D} {b o : Nat}, (∀ (i : Nat) (d : D), ds[i]? = some d → I b (o + i) ∧ ∃ v, w.cell? ⟨b, o + i, none⟩ = some v ∧ v.oneCell' = true ∧ Rel I w noB d v) → RelC I w ds b o
 | [], b, o, h => by simp only [RelC]
 | c :: ds, b, o, h => by
  simp only [RelC]
  refine ⟨h 0 c rfl, RelC.of_get fun i d hd => ?_⟩
  have := h (i + 1) d (by simpa using hd)
  rw [show o + (i + 1) = o + 1 + i by omega] at this
  exact this
theorem RelC.drop {ds : List D} {b o : Nat} (h : RelC I w ds b o) (j : Nat) : RelC I w (ds.drop j) b (o + j) :=
 RelC.of_get fun i d hd => by
  rw [List.getElem?_drop] at hd
  have := h.get (j + i) d hd
  rw [show o + (j + i) = o + j + i by omega] at this
  exact this
theorem RelC.take {ds : List D} {b o : Nat} (h : RelC I w ds b o) (j : Nat) : RelC I w (ds.take j) b o :=
 RelC.of_get fun i d hd => by
  rw [List.getElem?_take] at hd
  split at hd
  ·exact h.get i d hd
  ·cases hd
theorem RelC.list {ds : List D} {b o : Nat} (h : RelC I w ds b o) : ∃ vs : List Value, w.rangeAt b o vs ∧ RelL I w noB ds vs ∧ vs.length = ds.length := by
 induction ds generalizing o with
 | nil => exact ⟨[], fun j v hv => by simp at hv, by simp only [RelL], rfl⟩
 | cons d ds ih =>
  simp only [RelC] at h
  obtain ⟨⟨h1, v, h2, h3, h4⟩, h5⟩ := h
  obtain ⟨vs, k1, k2, k3⟩ := ih h5
  refine ⟨v :: vs, fun j u hu => ?_, by simp only [RelL]; exact ⟨v, vs, rfl, h3, h4, k2⟩, by simp [k3]⟩
  cases j with
  | zero => simp at hu; subst hu; simpa using h2
  | succ j =>
   have := k1 j u (by simpa using hu)
   rw [show o + (j + 1) = o + 1 + j by omega]
   exact this
theorem RelL.ones {β : Be} : ∀ {ds : List D} {vs : List Value}, RelL I w β ds vs → ∀ v ∈ vs, v.oneCell' = true
 | [], vs, h => by simp only [RelL] at h; subst h; simp
 | d :: ds, vs, h => by
  simp only [RelL] at h
  obtain ⟨v, us, rfl, h2, _, h4⟩ := h
  intro u hu
  rcases List.mem_cons.1 hu with rfl | hu
  ·exact h2
  ·exact RelL.ones h4 u hu
end
end
section
open Go.RowKit
structure Par where
 imp : FuncId → Bool
 meth : TypeId → String → Option FuncId
 keep : Nat → Bool
 hv : Op → Bool := fun _ => false
 sh : TypeId → Bool := fun _ => false
inductive Eff where
 | bad
 | lit (p : Prop) (d : D)
 | get (p : Prop) (d : D)
 | new (p : Prop) (b : Bk) (d : D) (fz : List Nat)
 | call (f : FuncId) (args : List D) (fz : List Nat)
 | put (p : Prop) (k : Nat) (b : Bk) (fz : List Nat)
 | app (p : Prop) (k : Nat) (b : Bk) (d : D)
 | act (f : FuncId) (args : List D)
def cellsOf : D → List D
 | .agg cs => cs
 | d => [d]
def zE4 : D → Bool
 | .val v => v.oneCell'
 | .unk | .agg _ | .tup _ => false
 | _ => true
def zEl : D → Bool
 | .agg _ => true
 | d => zE4 d
mutual
def refs (k : Nat) : D → Bool
 | .own j _ => j == k
 | .osl j _ _ _ _ => j == k
 | .osr j _ _ _ _ _ => j == k
 | .mref j => j == k
 | .agg cs => zCv k cs
 | .tup cs => zCv k cs
 | .clo _ x y => zCv k x || zCv k y
 | .ifc _ d => refs k d
 | _ => false
def zCv (k : Nat) : List D → Bool
 | [] => false
 | d :: ds => refs k d || zCv k ds
end
def zA5 (k : Nat) (d : D) : D := if refs k d then (match d with
 | .osr _ _ n _ _ cs => .row cs n
 | _ => .unk) else d
def unB : D → D
 | .osr k off n m wh _ => .osl k off n m wh
 | d => d
def mapF (f : D → Option (D × List Nat)) : List D → Option (List D × List Nat)
 | [] => some ([], [])
 | d :: ds => match f d with
  | none => none
  | some (x, ks) => match mapF f ds with
   | none => none
   | some (xs, ls) => some (x :: xs, ks ++ ls)
def frz (kn : Bool) (st : List Bk) : Nat → D → Option (D × List Nat)
 | 0, _ => some (.unk, [])
 | n + 1, d => match d with
  | .val v => match v with
   | .slice none 0 0 => if kn then some (.val (.slice none 0 0), []) else some (.row [] 0, [])
   | v => some (.val v, [])
  | .unk => some (.unk, [])
  | .row cs m => some (.row cs m, [])
  | .ptr cs => some (.ptr cs, [])
  | .mfz ks cs => some (.mfz ks cs, [])
  | .fx d => some (.fx d, [])
  | .osr _ _ l _ _ cs => some (.row cs l, [])
  | .agg cs => (mapF (frz kn st n) cs).map fun x => (.agg x.1, x.2)
  | .tup cs => (mapF (frz kn st n) cs).map fun x => (.tup x.1, x.2)
  | .clo f x y => match mapF (frz kn st n) x with
   | none => none
   | some (a, ks) => (mapF (frz kn st n) y).map fun z => (.clo f a z.1, ks ++ z.2)
  | .ifc t d => (frz kn st n d).map fun x => (.ifc t x.1, x.2)
  | .own k off => match st[k]? with
   | none => none
   | some e => if e.kd.isMap then none else if e.nob then some (.ptr (e.cells.drop off), [k]) else (mapF (frz kn st n) e.cells).map fun x => (.ptr (x.1.drop off), k :: x.2)
  | .osl k off l m _ => match st[k]? with
   | none => none
   | some e => if e.kd.isMap then none else if e.nob then some (.row ((e.cells.drop off).take m) l, [k]) else (mapF (frz kn st n) e.cells).map fun x => (.row ((x.1.drop off).take m) l, k :: x.2)
  | .mref k => match st[k]? with
   | none => none
   | some e => match e.kd with
    | .map ks => if e.nob then some (.mfz ks e.cells, [k]) else (mapF (frz kn st n) e.cells).map fun x => (.mfz ks x.1, k :: x.2)
    | _ => none
def zAl : Nat := 9
def zAe (st : List Bk) (ks : List Nat) : List Bk := ks.foldl (fun s k => s.modify k fun e => { e with fz := true }) st
mutual
def zA2 (n : Nat) : D → D
 | .osl k off l m wh => .osl (n + k) off l m wh
 | .osr k off l m wh cs => .osr (n + k) off l m wh cs
 | .own k off => .own (n + k) off
 | .mref k => .mref (n + k)
 | .agg cs => .agg (zEw n cs)
 | .tup cs => .tup (zEw n cs)
 | .clo f x y => .clo f (zEw n x) (zEw n y)
 | .ifc t d => .ifc t (zA2 n d)
 | d => d
def zEw (n : Nat) : List D → List D
 | [] => []
 | d :: ds => zA2 n d :: zEw n ds
end
def setAt (cs : List D) (off : Nat) : List D → List D
 | [] => cs
 | d :: ds => setAt (cs.set off d) (off + 1) ds
section
variable (P : Program)
def zDr (t : TypeId) : Bool := match P.underlying t with
 | some (.struct _) | some (.array _ _) => true
 | _ => false
def tySz (t : TypeId) : Option Nat := match P.underlying t with
 | none => none
 | some _ => (P.info? t).map (·.size)
def ldP (t : TypeId) (cs : List D) (mk : Prop → D → Eff) : Eff := match tySz P t with
 | none => .bad
 | some s => if zDr P t then mk (s ≤ cs.length) (.agg (cs.take s)) else mk (0 < cs.length) (cs.headD .unk)
def aInt (op : BinOp) (k : IntKind) (a b : Int) : Eff := match op with
 | .add => .lit True (.val (.int k (k.wrap (a + b))))
 | .sub => .lit True (.val (.int k (k.wrap (a - b))))
 | .mul => .lit True (.val (.int k (k.wrap (a * b))))
 | .quo => .lit (b ≠ 0) (.val (.int k (k.wrap (a.tdiv b))))
 | .rem => .lit (b ≠ 0) (.val (.int k (a.tmod b)))
 | .and => .lit True (.val (.int k (k.wrap (BitVec.ofInt k.bits a &&& BitVec.ofInt k.bits b).toNat)))
 | .or => .lit True (.val (.int k (k.wrap (BitVec.ofInt k.bits a ||| BitVec.ofInt k.bits b).toNat)))
 | .xor => .lit True (.val (.int k (k.wrap (BitVec.ofInt k.bits a ^^^ BitVec.ofInt k.bits b).toNat)))
 | .andNot => .lit True (.val (.int k (k.wrap (BitVec.ofInt k.bits a &&& ~~~ BitVec.ofInt k.bits b).toNat)))
 | .eql => .lit True (.val (.bool (a == b)))
 | .neq => .lit True (.val (.bool (a != b)))
 | .lss => .lit True (.val (.bool (a < b)))
 | .leq => .lit True (.val (.bool (a ≤ b)))
 | .gtr => .lit True (.val (.bool (a > b)))
 | .geq => .lit True (.val (.bool (a ≥ b)))
 | _ => .bad
def aStr (op : BinOp) (x y : ByteArray) : Eff := match op with
 | .add => .lit (((x.size + y.size : Nat) : Int) ≤ 9223372036854775807) (.val (.string (x ++ y)))
 | .eql => .lit True (.val (.bool (x.toList == y.toList)))
 | .neq => .lit True (.val (.bool (!(x.toList == y.toList))))
 | .lss => .lit True (.val (.bool (Op.bytesLess x.toList y.toList)))
 | .leq => .lit True (.val (.bool (Op.bytesLess x.toList y.toList || x.toList == y.toList)))
 | .gtr => .lit True (.val (.bool (!(Op.bytesLess x.toList y.toList || x.toList == y.toList))))
 | .geq => .lit True (.val (.bool (!Op.bytesLess x.toList y.toList)))
 | _ => .bad
def aNil (op : BinOp) (t : TypeId) (n : Nat) : Eff := match op, P.underlying t with
 | .eql, some (.slice _) => .lit (0 < n) (.val (.bool false))
 | .neq, some (.slice _) => .lit (0 < n) (.val (.bool true))
 | _, _ => .bad
inductive NK where
 | ptr
 | map
 | func
 | slice
def nkOf : TypeDesc → Option NK
 | .pointer _ => some .ptr
 | .map _ _ => some .map
 | .func _ _ _ => some .func
 | .slice _ => some .slice
 | _ => none
def zJg (op : BinOp) (t : TypeId) (nk : NK) (b : Bool) : Eff := match (P.underlying t).bind nkOf, nk with
 | some .ptr, .ptr | some .map, .map | some .func, .func | some .slice, .slice => match op with
   | .eql => .lit True (.val (.bool b))
   | .neq => .lit True (.val (.bool (!b)))
   | _ => .bad
 | _, _ => .bad
def zZn (t : TypeId) (xs : List D) (o : Nat) : Option D := match tySz P t with
 | none => none
 | some s => if zDr P t then (if o + s ≤ xs.length then some (.agg ((xs.drop o).take s)) else none) else if o < xs.length then some (xs.getD o .unk) else none
def eqF (rec : TypeId → D → D → Option Bool) (xs ys : List D) : List Field → Option Bool
 | [] => some true
 | f :: fs => if f.name == "_" then none else match zZn P f.type xs f.offset, zZn P f.type ys f.offset with
  | some a, some b => match rec f.type a b, eqF rec xs ys fs with
   | some r, some q => some (r && q)
   | _, _ => none
  | _, _ => none
def eqD : Nat → TypeId → D → D → Option Bool
 | 0, _, _, _ => none
 | n + 1, t, x, y => match P.underlying t, x, y with
  | some .bool, .val (.bool a), .val (.bool b) => some (a == b)
  | some (.int _), .val (.int k a), .val (.int k' b) => if k = k' then some (a == b) else none
  | some .string, .val (.string a), .val (.string b) => some (a.toList == b.toList)
  | some (.struct fs), .agg xs, .agg ys => if P.stoodInHeld t then none else eqF P (eqD n) xs ys fs.toList
  | _, _, _ => none
def aEqS (op : BinOp) (t : TypeId) (x y : D) : Eff := if P.eqGuardType P.depth t then .bad else match op, eqD P 6 t x y with
 | .eql, some b => .lit True (.val (.bool b))
 | .neq, some b => .lit True (.val (.bool (!b)))
 | _, _ => .bad
def aBin (op : BinOp) (t : TypeId) (x y : D) : Eff := match x, y with
 | .val (.int k a), .val (.int k' b) => match op with
  | .shl => .lit (0 ≤ b) (.val (.int k (k.wrap (a * 2 ^ (min b.toNat k.bits)))))
  | .shr => .lit (0 ≤ b) (.val (.int k (a.fdiv (2 ^ (min b.toNat k.bits)))))
  | op => if k = k' then aInt op k a b else .bad
 | .val (.string a), .val (.string b) => aStr op a b
 | .val (.bool a), .val (.bool b) => match op, P.underlying t with
  | .eql, some .bool => .lit True (.val (.bool (a == b)))
  | .neq, some .bool => .lit True (.val (.bool (!(a == b))))
  | _, _ => .bad
 | .row _ n, .val (.slice none 0 0) => aNil P op t n
 | .osl _ _ n _ _, .val (.slice none 0 0) => aNil P op t n
 | .val (.slice none 0 0), .val (.slice none 0 0) => zJg P op t .slice true
 | .own _ _, .val (.pointer none) => zJg P op t .ptr false
 | .ptr _, .val (.pointer none) => zJg P op t .ptr false
 | .val (.pointer none), .val (.pointer none) => zJg P op t .ptr true
 | .mref _, .val (.map none) => zJg P op t .map false
 | .mfz _ _, .val (.map none) => zJg P op t .map false
 | .val (.map none), .val (.map none) => zJg P op t .map true
 | .clo _ _ _, .val .nilFunc => zJg P op t .func false
 | .val .nilFunc, .val .nilFunc => zJg P op t .func true
 | .agg xs, .agg ys => aEqS P op t (.agg xs) (.agg ys)
 | _, _ => .bad
def aUn (op : UnOp) (x : D) : Eff := match op, x with
 | .not, .val (.bool b) => .lit True (.val (.bool (!b)))
 | .neg, .val (.int k n) => .lit True (.val (.int k (k.wrap (0 - n))))
 | _, _ => .bad
def asRow : D → Option (List D × Nat)
 | .row cs n => some (cs, n)
 | .val (.slice none 0 0) => some ([], 0)
 | _ => none
def zG1 (x : Option D) (y : Nat) : Option (Prop × Nat) := match x with
 | none => some (True, y)
 | some (.val (.int _ i)) => some (0 ≤ i, i.toNat)
 | _ => none
def zYk (t : TypeId) (x : D) (lo hi mx : Option D) : Eff := match zG1 lo 0 with
 | none => .bad
 | some (pl, l) => match P.underlying t, x with
  | some .string, .val (.string s) => match zG1 hi s.size, mx with
   | some (ph, h), none => .lit (pl ∧ ph ∧ l ≤ h ∧ h ≤ s.size) (.val (.string (s.extract l h)))
   | _, _ => .bad
  | some (.slice e), .osl k off n m wh => match zG1 hi n, tySz P e with
   | some (ph, h), some sz => match zG1 mx h with
    | some (pm, c) => .lit (pl ∧ ph ∧ pm ∧ 0 < sz ∧ l ≤ h ∧ h ≤ n ∧ c = h) (.osl k (off + l * sz) (h - l) ((h - l) * sz) (wh && mx.isNone && lo.isNone))
    | none => .bad
   | _, _ => .bad
  | some (.slice e), x => match asRow x, tySz P e with
   | some (cs, n), some sz => match zG1 hi n with
    | some (ph, h) => match zG1 mx h with
     | some (pm, c) => .lit (pl ∧ ph ∧ pm ∧ 0 < sz ∧ l ≤ h ∧ h ≤ n ∧ c = h) (.row ((cs.drop (l * sz)).take ((h - l) * sz)) (h - l))
     | none => .bad
    | none => .bad
   | _, _ => .bad
  | some (.array n e), .own k off => match tySz P e, zG1 hi n, lo, mx with
   | some sz, some (ph, h), none, none => .lit (pl ∧ ph ∧ 0 < sz ∧ h ≤ n ∧ n ≤ maxLen) (.osl k off h (h * sz) false)
   | _, _, _, _ => .bad
  | _, _ => .bad
def zHs (t : TypeId) (x i : D) : Eff := match i with
 | .val (.int _ i) => match P.underlying t with
  | some (.slice e) => match x, tySz P e with
   | .osl k off n m wh, some sz => .lit (0 ≤ i ∧ i < n) (.own k (off + i.toNat * sz))
   | .row cs n, some sz => .lit (0 ≤ i ∧ i < n ∧ cs ≠ []) (.ptr (cs.drop (i.toNat * sz)))
   | _, _ => .bad
  | some (.array n e) => match x, tySz P e with
   | .own k off, some sz => .lit (0 ≤ i ∧ i < n) (.own k (off + i.toNat * sz))
   | .ptr cs, some sz => .lit (0 ≤ i ∧ i < n) (.ptr (cs.drop (i.toNat * sz)))
   | _, _ => .bad
  | _ => .bad
 | _ => .bad
def zYl (t : TypeId) (x i : D) : Eff := match i with
 | .val (.int _ i) => match P.underlying t, x with
  | some (.array n e), .agg cs => match tySz P e with
   | some sz => if zDr P e then .lit (0 ≤ i ∧ i < n ∧ i.toNat * sz + sz ≤ cs.length) (.agg ((cs.drop (i.toNat * sz)).take sz)) else .lit (0 ≤ i ∧ i < n ∧ i.toNat * sz < cs.length) (cs.getD (i.toNat * sz) .unk)
   | none => .bad
  | some .string, .val (.string s) => .lit (0 ≤ i ∧ i < s.size) (.val (.int .u8 (s.data.getD i.toNat 0).toNat))
  | _, _ => .bad
 | _ => .bad
def zM8 (t : TypeId) (f : Nat) : Option (Nat × TypeId) := match P.underlying t with
 | some (.struct fs) => (fs[f]?).map fun x => (x.offset, x.type)
 | _ => none
def zYm (t : TypeId) (x : D) (f : Nat) : Eff := match x, zM8 P t f with
 | .agg cs, some (o, ft) => match tySz P ft with
  | some sz => if zDr P ft then .lit (o + sz ≤ cs.length) (.agg ((cs.drop o).take sz)) else .lit (o < cs.length) (cs.getD o .unk)
  | none => .bad
 | _, _ => .bad
def zHt (t : TypeId) (x : D) (f : Nat) : Eff := match zM8 P t f with
 | some (o, ft) => match tySz P ft, x with
  | some (s + 1), .own k off => .lit True (.own k (off + o))
  | some (s + 1), .ptr cs => .lit True (.ptr (cs.drop o))
  | _, _ => .bad
 | none => .bad
def zG0 (place : Nat → Option (Nat × Nat)) : List (Nat × D) → List D → Option (Prop × List D)
 | [], cs => some (True, cs)
 | (i, d) :: r, cs => match place i with
  | none => none
  | some (off, sz) => if zEl d then match zG0 place r (setAt cs off (cellsOf d)) with
    | none => none
    | some (p, x) => some ((cellsOf d).length = sz ∧ off + sz ≤ cs.length ∧ p, x)
   else none
def zDq (t : TypeId) : Option (List D) := match P.info? t with
 | none => none
 | some i => match i.zero with
  | none => none
  | some z => if z.cells.toList.all (·.oneCell') then some (z.cells.toList.map .val) else none
def zYn (t : TypeId) (parts : List (Nat × D)) : Eff := match zDq P t, P.underlying t with
 | some z, some (.struct fs) => match zG0 (fun i => (fs[i]?).bind fun f => (tySz P f.type).map fun s => (f.offset, s)) parts z with
  | some (p, cs) => .lit (p ∧ fs.all (fun f => (tySz P f.type).isSome) = true) (.agg cs)
  | none => .bad
 | some z, some (.array _ e) => match tySz P e with
  | some sz => match zG0 (fun i => some (i * sz, sz)) parts z with
   | some (p, cs) => .lit p (.agg cs)
   | none => .bad
  | none => .bad
 | _, _ => .bad
def repL (n : Nat) (z : List D) : List D := (List.replicate n z).flatten
def zFl (st : List Bk) : List (Nat × D) → Option (List (Nat × D) × List Nat)
 | [] => some ([], [])
 | (i, d) :: r => match frz false st zAl d with
  | none => none
  | some (x, ks) => match zFl st r with
   | none => none
   | some (xs, ls) => some ((i, x) :: xs, ks ++ ls)
def zCd (t : TypeId) (len : Nat) (parts : List (Nat × D)) (st : List Bk) : Eff := match P.underlying t with
 | some (.slice e) => match tySz P e, zDq P e, zFl st parts with
  | some sz, some z, some (ps, ks) => match zG0 (fun i => some (i * sz, sz)) ps (repL len z) with
   | some (p, cs) => .new (p ∧ 0 < sz ∧ z.length = sz ∧ len * sz ≤ 16777216 ∧ len ≤ 9223372036854775807) ⟨cs, e, sz, true, false, .plain⟩ (.osl st.length 0 len (len * sz) true) ks
   | none => .bad
  | _, _, _ => .bad
 | _ => .bad
def zCo (t : TypeId) (len : Nat) (parts : List (Nat × D)) (st : List Bk) : Eff := match P.underlying t with
 | some (.slice e) => match tySz P e, zDq P e with
  | some sz, some z => match zG0 (fun i => some (i * sz, sz)) parts (repL len z) with
   | some (p, cs) => .new (p ∧ 0 < sz ∧ z.length = sz ∧ len * sz ≤ 16777216 ∧ len ≤ 9223372036854775807) ⟨cs, e, sz, true, false, .sh⟩ (.osl st.length 0 len (len * sz) true) []
   | none => .bad
  | _, _ => .bad
 | _ => .bad
def zFx (T : Par) (t : TypeId) : Bool := match P.underlying t with
 | some (.slice e) => T.sh e
 | some (.map _ e) => T.sh e
 | _ => false
def kdOf (sh : Bool) : Kd := if sh then .sh else .plain
def zD2 (sh : Bool) (t : TypeId) (l c : D) (st : List Bk) : Eff := match P.underlying t, l, c with
 | some (.slice e), .val (.int _ L), .val (.int _ C) => match P.info? e, zDq P e with
  | some i, some z => .new (0 ≤ L ∧ L ≤ C ∧ (i.bytes : Int) * C ≤ 281474976710656 ∧ C ≤ 281474976710656 ∧ 0 < i.size ∧ z.length = i.size) ⟨repL L.toNat z, e, i.size, true, false, kdOf sh⟩ (.osl st.length 0 L.toNat (L.toNat * i.size) true) []
  | _, _ => .bad
 | _, _, _ => .bad
def zT (l : List UInt8) : List D := l.map fun b => .val (.int .u8 b.toNat)
def zH7 : D → D
 | .val v => .val v
 | _ => .unk
def zD8 (sh : Bool) (st : List Bk) (x : D) : Option (List D × Nat) := match x with
 | .osl k off n m _ => match st[k]? with
  | some e => if !e.kd.isMap then (if e.nob || sh then some ((e.cells.drop off).take m, n) else some (((e.cells.drop off).take m).map zH7, n)) else none
  | none => none
 | x => asRow x
def aApp (sh : Bool) (e e' : TypeId) (i : TypeInfo) (z xs : List D) (m : Nat) (s : D) (st : List Bk) : Eff := match s with
   | .val (.slice none 0 0) => .new (xs.length = m * i.size ∧ 0 < i.size ∧ 0 < i.bytes ∧ e = e' ∧ m * i.bytes ≤ 140737488355328 ∧ z.length = i.size) ⟨xs, e, i.size, true, false, kdOf sh⟩ (.osl st.length 0 m (m * i.size) true) []
   | .osl k 0 n mm true => match st[k]? with
    | some b => .app (b.arr = true ∧ b.cells.length = n * i.size ∧ mm = n * i.size ∧ b.ty = e ∧ b.sz = i.size ∧ xs.length = m * i.size ∧ 0 < i.size ∧ 0 < i.bytes ∧ e = e' ∧ (n + m) * i.bytes ≤ 140737488355328 ∧ z.length = i.size ∧ b.kd.isMap = false ∧ (sh = false ∨ b.kd.isSh = true))
      k { b with cells := if b.nob then b.cells ++ xs else (b.cells ++ xs).map (zA5 k) } (.osl k 0 (n + m) ((n + m) * i.size) true)
    | none => .bad
   | _ => .bad
def zS1 (i : TypeInfo) : Bool := i.size == 1 && i.bytes == 1 && match i.zero with
 | some (.int .u8 0) => true
 | _ => false
def zFd (sh : Bool) (t u : TypeId) (s x : D) (st : List Bk) : Eff := match P.underlying t, P.underlying u with
 | some (.slice e), some (.slice e') => match P.info? e, zDq P e, zD8 sh st x with
  | some i, some z, some (xs, m) => aApp sh e e' i z xs m s st
  | _, _, _ => .bad
 | some (.slice e), some .string => match P.info? e, zDq P e, x with
  | some i, some z, .val (.string b) => if zS1 i then aApp false e e i z (zT b.data.toList) b.data.toList.length s st else .bad
  | _, _, _ => .bad
 | _, _ => .bad
def aCopy (t u : TypeId) (s x : D) (st : List Bk) : Eff := match P.underlying t, P.underlying u, s with
 | some (.slice e), some (.slice e'), .osl k off n m _ => match st[k]?, tySz P e, zD8 false st x with
  | some b, some sz, some (xs, l) => .put (b.fz = false ∧ b.kd.isMap = false ∧ 0 < sz ∧ e = e' ∧ xs.length = l * sz ∧ off + n * sz ≤ b.cells.length) k { b with cells := setAt b.cells off (xs.take (min l n * sz)) } []
  | _, _, _ => .bad
 | _, _, _ => .bad
def zTl (t : TypeId) (x : D) (st : List Bk) : Eff := match P.underlying t, x with
 | some (.slice e), .osl k off n m _ => match st[k]?, zDq P e with
  | some b, some z => .put (b.fz = false ∧ b.kd.isMap = false ∧ 0 < z.length ∧ off + n * z.length ≤ b.cells.length) k { b with cells := setAt b.cells off (repL n z) } []
  | _, _ => .bad
 | _, _ => .bad
def vEq : Value → Value → Bool
 | .int _ a, .int _ b => a == b
 | .string a, .string b => a.data.toList == b.data.toList
 | .bool a, .bool b => a == b
 | _, _ => false
def zX : TypeDesc → Value → Bool
 | .int k, .int k' _ => k == k'
 | .string, .string _ => true
 | .bool, .bool _ => true
 | _, _ => false
def zE1 (ks : List Value) (k : Value) : Option Nat := ks.findIdx? (vEq k)
def zYq (t : TypeId) : Option D := match P.info? t with
 | none => none
 | some i => match i.zero with
  | none => none
  | some (.agg cs) => if cs.toList.all (·.oneCell') then some (.agg (cs.toList.map .val)) else none
  | some v => some (.val v)
def ctD (ok : Bool) (d : D) (found : Bool) : D := if ok then .tup [d, .val (.bool found)] else d
def zHd (ok : Bool) (z : D) (ks : List Value) (cs : List D) (key : Value) : D := match zE1 ks key with
 | some i => ctD ok (cs.getD i .unk) true
 | none => ctD ok z false
def zFc (ok : Bool) (kt e : TypeId) (key : Value) (ks : List Value) (cs : List D) : Eff := match P.underlying kt, zYq P e with
 | some d, some z => .get (zX d key = true ∧ ks.all (zX d) = true) (zHd ok z ks cs key)
 | _, _ => .bad
def zHr (t : TypeId) (x i : D) (ok : Bool) (st : List Bk) : Eff := match P.underlying t, i with
 | some (.map kt e), .val key => match x with
  | .val (.map none) => zFc P ok kt e key [] []
  | .mfz ks cs => zFc P ok kt e key ks cs
  | .mref k => match st[k]? with
   | some b => match b.kd with
    | .map ks => zFc P ok kt e key ks b.cells
    | _ => .bad
   | none => .bad
  | _ => .bad
 | _, _ => .bad
def mput (b : Bk) (ks : List Value) (key : Value) (d : D) : Bk := match zE1 ks key with
 | some i => { b with cells := b.cells.set i d }
 | none => { b with cells := b.cells ++ [d], kd := .map (ks ++ [key]) }
def zCc (t : TypeId) (x i v : D) (st : List Bk) : Eff := match P.underlying t, x, i with
 | some (.map kt e), .mref k, .val key => match st[k]?, P.underlying kt with
  | some b, some d => match b.kd with
   | .map ks => if b.nob then match frz false st zAl v with
     | some (y, fs) => .put (b.fz = false ∧ zX d key = true ∧ ks.all (zX d) = true ∧ k ∉ fs) k (mput b ks key y) fs
     | none => .bad
    else .put (b.fz = false ∧ zX d key = true ∧ ks.all (zX d) = true) k (mput b ks key v) []
   | _ => .bad
  | _, _ => .bad
 | _, _, _ => .bad
def zEm : List D → Option (List UInt8)
 | [] => some []
 | .val (.int .u8 n) :: ds => (zEm ds).map (UInt8.ofNat n.toNat :: ·)
 | _ => none
def zVr (t : TypeId) (x : D) (st : List Bk) : Eff := match P.underlying t, x with
 | some (.map _ _), .val (.map none) => .get True (.val (.int .i64 0))
 | some (.map _ _), .mfz ks _ => .get True (.val (.int .i64 ks.length))
 | some (.map _ _), .mref k => match st[k]? with
  | some b => match b.kd with
   | .map ks => .get True (.val (.int .i64 ks.length))
   | _ => .bad
  | none => .bad
 | _, _ => .bad
def byteG : D → UInt8
 | .val (.int .u8 n) => UInt8.ofNat n.toNat
 | _ => 0
def zMb (l : List D) : List UInt8 := l.map byteG
def zQo (src dst : TypeId) (x : D) (st : List Bk) : Eff := match P.underlying src, P.underlying dst, zD8 false st x with
 | some (.slice e), some .string, some (xs, n) => .get (zEm xs = some (zMb xs) ∧ xs.length = n ∧ P.underlying e = some (.int .u8)) (.val (.string ⟨(zMb xs).toArray⟩))
 | _, _, _ => .bad
def aLen (t : TypeId) (x : D) : Eff := match P.underlying t, x with
 | some (.slice _), .row _ n => .lit True (.val (.int .i64 n))
 | some (.slice _), .osl _ _ n _ _ => .lit True (.val (.int .i64 n))
 | some (.slice _), .val (.slice none 0 0) => .lit True (.val (.int .i64 0))
 | some .string, .val (.string s) => .lit True (.val (.int .i64 s.size))
 | some (.array n _), _ => .lit True (.val (.int .i64 n))
 | some (.pointer arr), _ => match P.underlying arr with
  | some (.array n _) => .lit True (.val (.int .i64 n))
  | _ => .bad
 | _, _ => .bad
def zHu (imp : FuncId → Bool) (f : FuncId) (args : List D) (st : List Bk) : Eff :=
 match P.funcs[f]? with
 | none => .bad
 | some fn => if fn.name == "runtime.NumGoroutine" || fn.body.isNone then .bad else
  if imp f then .act f args else match mapF (frz true st zAl) args with
   | none => .bad
   | some (xs, ks) => .call f xs ks
def aConv (src dst : TypeId) (x : D) : Eff := match P.underlying src, P.underlying dst, x with
 | some (.int _), some (.int k), .val (.int _ n) => .lit True (.val (.int k (k.wrap n)))
 | some .string, some .string, .val (.string s) => .lit True (.val (.string s))
 | _, _, _ => .bad
def zZ4 : TypeDesc → Bool
 | .pointer _ => true
 | _ => false
def zKk (t : TypeId) (name : String) : Option FuncId := match P.info? t, P.underlying t with
 | some i, some u => match i.methods.find? (·.name == name) with
  | some m => if m.path.isEmpty then match m.func with
    | some (f, p) => if p == zZ4 u then some f else none
    | none => none
   else none
  | none => none
 | _, _ => none
def aeff (T : Par) (o : Op) (ty : TypeId) (ρ : Operand → D) (st : List Bk) : Eff := match o with
 | .move x => .lit True (ρ x)
 | .assign x => .lit True (ρ x)
 | .pick c a b => match ρ c with
  | .val (.bool t) => .lit True (if t then ρ a else ρ b)
  | _ => .bad
 | .alloc e => match zDq P e with
  | some z => .new True ⟨z, e, 0, false, false, .plain⟩ (.own st.length 0) []
  | none => .bad
 | .box e x => if zEl (ρ x) then .new True ⟨cellsOf (ρ x), e, 0, false, false, .plain⟩ (.own st.length 0) [] else .bad
 | .build t parts => zYn P t (parts.toList.map fun p => (p.1, ρ p.2))
 | .buildSlice t len parts => if zFx P T t then zCo P t len (parts.toList.map fun p => (p.1, ρ p.2)) st else zCd P t len (parts.toList.map fun p => (p.1, ρ p.2)) st
 | .makeMap t r => match P.underlying t, r.map ρ with
  | some (.map _ _), none | some (.map _ _), some (.val (.int _ _)) => .new True ⟨[], t, 0, !zFx P T t, false, .map []⟩ (.mref st.length) []
  | _, _ => .bad
 | .lookup t x i ok => zHr P t (ρ x) (ρ i) ok st
 | .mapUpdate t m k x => zCc P t (ρ m) (ρ k) (ρ x) st
 | .insert t m k x => zCc P t (ρ m) (ρ k) (ρ x) st
 | .load t a => match ρ a with
  | .ptr cs => ldP P t cs .get
  | .own k off => match st[k]? with
   | some e => if e.kd.isMap then .bad else ldP P t (e.cells.drop off) .get
   | none => .bad
  | _ => .bad
 | .store t a x => match ρ a, tySz P t with
  | .own k off, some sz => match st[k]? with
   | none => .bad
   | some e => if e.kd.isMap then .bad else if e.nob then match frz false st zAl (ρ x) with
     | some (d, ks) => .put (e.fz = false ∧ zEl d = true ∧ (cellsOf d).length = sz ∧ off + sz ≤ e.cells.length ∧ k ∉ ks) k { e with cells := setAt e.cells off (cellsOf d) } ks
     | none => .bad
    else .put (e.fz = false ∧ zEl (ρ x) = true ∧ (cellsOf (ρ x)).length = sz ∧ off + sz ≤ e.cells.length) k { e with cells := setAt e.cells off (cellsOf (ρ x)) } []
  | _, _ => .bad
 | .nilCheck x => match ρ x with
  | .ptr cs => .lit True (.ptr cs)
  | .own k off => .lit True (.own k off)
  | .ifc t d => .lit True (.ifc t d)
  | .clo (.func f) x y => .lit True (.clo (.func f) x y)
  | .clo (.method n) (.ifc t d :: x) y => if (zKk P t n).isSome then .lit True (.clo (.method n) (.ifc t d :: x) y) else .bad
  | _ => .bad
 | .binOp op t x y _ => aBin P op t (ρ x) (ρ y)
 | .unOp op _ x => aUn op (ρ x)
 | .convert src dst x => if T.hv (.convert src dst x) then zQo P src dst (ρ x) st else aConv P src dst (ρ x)
 | .makeInterface t x => match P.underlying t with
  | some (.interface _) => .bad
  | some _ => .lit True (.ifc t (ρ x))
  | none => .bad
 | .makeFunc fn first cap => .lit True (.clo fn (first.toList.map ρ) (cap.toList.map ρ))
 | .makeSlice t l c => zD2 P (zFx P T t) t (ρ l) (ρ c) st
 | .slice t x lo hi mx => if mx.isSome && hi.isNone then .bad else zYk P t (ρ x) (lo.map ρ) (hi.map ρ) (mx.map ρ)
 | .fieldAddr t x f => zHt P t (ρ x) f
 | .field t x f => zYm P t (ρ x) f
 | .indexAddr t x i => zHs P t (ρ x) (ρ i)
 | .index t x i => zYl P t (ρ x) (ρ i)
 | .extract t i => match ρ t with
  | .tup cs => .lit (i < cs.length) (cs.getD i .unk)
  | _ => .bad
 | .call c => match c.callee with
  | .builtin .len => match c.argTypes.toList, c.args.toList with
   | t :: _, x :: _ => if T.hv (.call c) then zVr P t (ρ x) st else aLen P t (ρ x)
   | _, _ => .bad
  | .builtin .min => match c.args.toList.map ρ with
   | [.val (.int k x), .val (.int _ y)] => .lit True (.val (.int k (if y < x then y else x)))
   | _ => .bad
  | .builtin .max => match c.args.toList.map ρ with
   | [.val (.int k x), .val (.int _ y)] => .lit True (.val (.int k (if y > x then y else x)))
   | _ => .bad
  | .builtin .append => match c.argTypes.toList, c.args.toList with
   | [t, u], [s, x] => zFd P (zFx P T t) t u (unB (ρ s)) (ρ x) st
   | _, _ => .bad
  | .builtin .copy => match c.argTypes.toList, c.args.toList with
   | [t, u], [s, x] => aCopy P t u (ρ s) (ρ x) st
   | _, _ => .bad
  | .builtin .clear => match c.argTypes.toList, c.args.toList with
   | [t], [x] => zTl P t (ρ x) st
   | _, _ => .bad
  | .builtin _ => .bad
  | .value f => match ρ f with
   | .clo (.func f) [] cap => zHu P T.imp f (c.args.toList.map ρ ++ cap) st
   | _ => .bad
  | .invoke r name => match ρ r with
   | .ifc t d => match T.meth t name with
    | some f => zHu P T.imp f (d :: c.args.toList.map ρ) st
    | none => .bad
   | _ => .bad
 | _ => .bad
end
end
section
open Go.RowKit
def OwnC (I : Im) (w : World) (β : Be) (b cap : Nat) (e : Bk) : Prop :=
 ∃ cur : List Value, w.heap[b]? = some (.cells cur.toArray e.ty (0, 0)) ∧ e.cells.length ≤ cur.length ∧ RelL I w (if e.nob then noB else β) e.cells (cur.take e.cells.length) ∧ (e.arr = true → cur.length = cap * e.sz) ∧ cap ≤ maxLen
def OwnM (I : Im) (w : World) (β : Be) (b : Nat) (e : Bk) (ks : List Value) : Prop := ∃ vs, MapIs w b ks vs ∧ RelT I w (if e.nob then noB else β) e.cells vs
def OwnRel (I : Im) (w : World) (β : Be) (b cap : Nat) (e : Bk) : Prop := match e.kd with
 | .map ks => OwnM I w β b e ks
 | _ => OwnC I w β b cap e
theorem OwnRel.c {I : Im} {w : World} {β : Be} {b cap : Nat} {e : Bk} (h : OwnRel I w β b cap e) (hk : e.kd.isMap = false) : OwnC I w β b cap e := by
 unfold OwnRel at h
 split at h
 ·rename_i ks hm
  rw [hm] at hk; cases hk
 ·exact h
theorem OwnC.r {I : Im} {w : World} {β : Be} {b cap : Nat} {e : Bk} (h : OwnC I w β b cap e) (hk : e.kd.isMap = false) : OwnRel I w β b cap e := by
 unfold OwnRel
 split
 ·rename_i ks hm
  rw [hm] at hk; cases hk
 ·exact h
theorem OwnRel.m {I : Im} {w : World} {β : Be} {b cap : Nat} {e : Bk} {ks : List Value} (h : OwnRel I w β b cap e) (hk : e.kd = .map ks) : OwnM I w β b e ks := by
 unfold OwnRel at h
 rw [hk] at h; exact h
theorem OwnM.r {I : Im} {w : World} {β : Be} {b cap : Nat} {e : Bk} {ks : List Value} (h : OwnM I w β b e ks) (hk : e.kd = .map ks) : OwnRel I w β b cap e := by
 unfold OwnRel
 rw [hk]; exact h
theorem Kd.cases (k : Kd) : k.isMap = false ∨ ∃ ks, k = .map ks := by
 cases k with
 | plain => exact .inl rfl
 | sh => exact .inl rfl
 | map ks => exact .inr ⟨ks, rfl⟩
def SR (β : Be) (I : Im) (w : World) (st : List Bk) : Prop := ∀ k b cap, β k = some (b, cap) → ∃ e, st[k]? = some e ∧ OwnRel I w β b cap e
def Inj (β : Be) : Prop := ∀ k k' b c c', β k = some (b, c) → β k' = some (b, c') → k = k'
def FZ (β : Be) (I : Im) (st : List Bk) : Prop := ∀ k b c j (e : Bk), β k = some (b, c) → st[k]? = some e → I b j → e.fz = true ∧ (e.kd.isMap = true ∨ j < e.cells.length)
structure Stp (β : Be) (I : Im) (w : World) (β' : Be) (I' : Im) (w' : World) : Prop where
 fix : Fix I w I' w'
 size : w.heap.size ≤ w'.heap.size
 out : ∀ b, b < w.heap.size → (∀ k c, β k ≠ some (b, c)) → w'.heap[b]? = w.heap[b]?
 os : w'.os = w.os
 tape : w'.tape = w.tape
 output : w'.output = w.output
 dr : w.drawn ≤ w'.drawn
 be : ∀ k b c, β' k = some (b, c) → (∃ k' c', β k' = some (b, c')) ∨ w.heap.size ≤ b
 im : ∀ b o, I' b o → I b o ∨ w.heap.size ≤ b ∨ ∃ k c, β k = some (b, c)
theorem Stp.refl (β : Be) (I : Im) (w : World) : Stp β I w β I w := ⟨Fix.refl _ _, Nat.le_refl _, fun _ _ _ => rfl, rfl, rfl, rfl, Nat.le_refl _, fun k b c h => .inl ⟨k, c, h⟩, fun _ _ h => .inl h⟩
theorem Stp.trans {β β' β'' : Be} {I I' I'' : Im} {w w' w'' : World} (h : Stp β I w β' I' w') (k : Stp β' I' w' β'' I'' w'') : Stp β I w β'' I'' w'' := by
 refine ⟨h.fix.trans k.fix, Nat.le_trans h.size k.size, fun b hb hn => ?_, k.os.trans h.os, k.tape.trans h.tape, k.output.trans h.output, Nat.le_trans h.dr k.dr, fun i b c hi => ?_, fun b o hi => ?_⟩
 ·rw [k.out b (Nat.lt_of_lt_of_le hb h.size) (fun i c hi => ?_), h.out b hb hn]
  rcases h.be i b c hi with ⟨k', c', hk⟩ | hk
  ·exact hn k' c' hk
  ·omega
 ·rcases k.be i b c hi with ⟨k', c', hk⟩ | hk
  ·exact h.be k' b c' hk
  ·exact .inr (Nat.le_trans h.size hk)
 ·rcases k.im b o hi with hi | hi | ⟨i, c, hi⟩
  ·exact h.im b o hi
  ·exact .inr (.inl (Nat.le_trans h.size hi))
  ·rcases h.be i b c hi with ⟨k', c', hk⟩ | hk
   ·exact .inr (.inr ⟨k', c', hk⟩)
   ·exact .inr (.inl hk)
def ImB (I : Im) (w : World) : Prop := ∀ b o, I b o → b < w.heap.size
def Gl (I : Im) (w : World) : Prop := ∀ t ∈ globT, ∀ (j : Nat) v, t.2[j]? = some v → I t.1 j ∧ w.cell? ⟨t.1, j, none⟩ = some v
theorem Gl.mono {I I' : Im} {w w' : World} (h : Gl I w) (hf : Fix I w I' w') : Gl I' w' := fun t ht j v hv => ⟨(hf _ _ (h t ht j v hv).1).1, (hf _ _ (h t ht j v hv).1).2.1 v (h t ht j v hv).2⟩
structure Sim (β : Be) (I : Im) (w : World) (sl : List D) (st : List Bk) (tm : List Value) : Prop where
 rel : RelT I w β sl tm
 sr : SR β I w st
 inj : Inj β
 fz : FZ β I st
 dom : ∀ k x, β k = some x → k < st.length
 imb : ImB I w
 gl : Gl I w
def Pure (P : Program) (f : FuncId) (args : List D) (news : List Bk) (x : D) : Prop :=
 ∀ (I : Im) (w : World) (vs : List Value), RelT I w noB args vs → ImB I w → Gl I w → Calls P f vs.toArray w fun e w' => ∃ v I' γ, e = .returned v ∧ Ext w w' ∧ ImB I' w' ∧ Fix I w I' w' ∧ (∀ b o, I' b o → I b o ∨ w.heap.size ≤ b) ∧
  (∀ k b c, γ k = some (b, c) → w.heap.size ≤ b) ∧ SR γ I' w' news ∧ Inj γ ∧ FZ γ I' news ∧ (∀ k y, γ k = some y → k < news.length) ∧ Rel I' w' γ x v ∧ (∀ e ∈ news, e.arr = true ∧ e.kd = .plain)
def Acts (P : Program) (f : FuncId) (args : List D) (st : List Bk) (ch : List Nat) (x : D) (st' : List Bk) : Prop :=
 ∀ (β : Be) (I : Im) (w : World) (vs : List Value), RelT I w β args vs → SR β I w st → Inj β → FZ β I st → (∀ k y, β k = some y → k < st.length) → ImB I w → Gl I w → Calls P f vs.toArray w fun e w' => ∃ v β' I', e = .returned v ∧ ImB I' w' ∧ Stp β I w β' I' w' ∧
  (∀ k y, k ∉ ch → β k = some y → β' k = some y) ∧ SR β' I' w' st' ∧ Inj β' ∧ FZ β' I' st' ∧ (∀ k y, β' k = some y → k < st'.length) ∧ Rel I' w' β' x v
def evD (sl : List D) : Operand → D
 | .tmp t => sl.getD t .unk
 | .const v => .val v
 | .global g => .val (.pointer (some ⟨g, 0, none⟩))
 | .func f => .clo (.func f) [] []
def putD (sl : List D) (dst : Option Nat) (d : D) : List D := match dst with
 | some i => sl.set i d
 | none => sl
def zV (T : Par) : Op → Bool
 | .convert s d x => !T.hv (.convert s d x)
 | .move _ | .assign _ | .pick .. | .build .. | .nilCheck _ | .binOp .. | .unOp .. | .makeInterface .. | .makeFunc .. | .slice .. | .fieldAddr .. | .field .. | .indexAddr .. | .index .. | .extract .. => true
 | .call { callee := .builtin .len, args := a, argTypes := t } => !T.hv (.call { callee := .builtin .len, args := a, argTypes := t })
 | .call { callee := .builtin .min, .. } | .call { callee := .builtin .max, .. } => true
 | _ => false
def isE (T : Par) : Op → Bool
 | .store .. | .mapUpdate .. | .insert .. => true
 | .call { callee := .builtin .append, .. } => true
 | .call { callee := .builtin .copy, .. } => true
 | .call { callee := .builtin .clear, .. } => true
 | .call { callee := .value (.func f), .. } => T.imp f
 | .call { callee := .value (.tmp i), args := a, argTypes := t } => T.hv (.call { callee := .value (.tmp i), args := a, argTypes := t })
 | _ => false
def zB6 (ch : List Nat) (d : D) : D := if ch.any (refs · d) then .unk else d
def zBy (k : Nat) (e : Bk) : Bk := if e.nob then e else { e with cells := e.cells.map (zA5 k) }
def Kp (T : Par) (β β' : Be) : Prop := ∀ k x, T.keep k = true → β k = some x → β' k = some x
theorem Kp.refl (T : Par) (β : Be) : Kp T β β := fun _ _ _ h => h
theorem Kp.trans {T : Par} {a b c : Be} (h : Kp T a b) (k : Kp T b c) : Kp T a c := fun i x hk hx => k i x hk (h i x hk hx)
theorem BeLe.kp {T : Par} {a b : Be} (h : BeLe a b) : Kp T a b := fun i x _ hx => h i x hx
section
variable (P : Program) (T : Par)
def seqW (ops : Array Oper) (dr : Bool) : List Oper → List D → List Bk → (List D → List Bk → Prop) → Prop
 | [], sl, st, K => K sl st
 | o :: r, sl, st, K =>
  let go : Prop := match aeff P T o.op o.type (evD sl) st with
   | .bad => False
   | .lit p d => zV T o.op = true ∧ p ∧ seqW ops dr r (putD sl o.dst d) st K
   | .get p d => zV T o.op = false ∧ p ∧ seqW ops dr r (putD sl o.dst d) st K
   | .new p b d fz => zV T o.op = false ∧ p ∧ seqW ops dr r (putD sl o.dst d) (zAe st fz ++ [b]) K
   | .call f args fz => zV T o.op = false ∧ ∃ news x, Pure P f args news x ∧ seqW ops dr r (putD sl o.dst (if news.isEmpty then x else zA2 st.length x)) (zAe st fz ++ news) K
   | .put p k b fz => isE T o.op = true ∧ p ∧ seqW ops dr r (putD sl o.dst .unk) ((zAe st fz).set k b) K
   | .app p k b d => isE T o.op = true ∧ (T.keep k = false ∧ p) ∧ seqW ops dr r (putD (sl.map (zA5 k)) o.dst d) ((st.map (zBy k)).set k b) K
   | .act f args => zV T o.op = false ∧ (dr = false ∨ isE T o.op = true) ∧ ∃ ch x st', (Acts P f args st ch x st' ∧ ∀ k ∈ ch, T.keep k = false) ∧ seqW ops dr r (putD (sl.map (zB6 ch)) o.dst x) st' K
  match o.guard with
  | none => go
  | some (j, want) => match ((ops[j]?).bind (·.dst)).map (fun t => sl.getD t .unk) with
   | some (.val (.bool b)) => (b = want → go) ∧ (b = !want → seqW ops dr r (putD sl o.dst (.val undef)) st K)
   | some (.val (.tuple _)) => seqW ops dr r (putD sl o.dst (.val undef)) st K
   | _ => False
def Weak (sl : List D) (st : List Bk) (sl' : List D) (st' : List Bk) : Prop :=
 ∀ β I w tm, Sim β I w sl st tm → ∃ β' I', Sim β' I' w sl' st' tm ∧ Stp β I w β' I' w ∧ Kp T β β'
def deps (o : Oper) : List Nat := o.after.toList.filterMap fun e => if Region.binds .any e then some e.on else none
def ancs (ops : List Oper) : List Nat := ops.foldl (fun A o => A ++ [(deps o).foldl (fun m d => m ||| 2 ^ d ||| A.getD d 0) 0]) []
def pos (ord : List Nat) (i : Nat) : Nat := ord.findIdx (· == i)
def zNj (ops : Array Oper) : List Nat → List Nat → List Nat
 | [], A => A
 | i :: r, A => zNj ops r (A.set i ((deps (ops.getD i default)).foldl (fun m d => m ||| 2 ^ d ||| A.getD d 0) 0))
def zTt (ops : Array Oper) (ord : List Nat) : Bool :=
 let A := zNj ops ord (List.replicate ops.size 0)
 let wt (i x : Nat) : Bool := (A.getD i 0).testBit x
 let Z := ops.toList.zipIdx
 ord.length == ops.size && ord.all (· < ops.size) && decide ord.Nodup && (List.range ops.size).all (fun i => ord.contains i) && Region.noSelect ops &&
 decide (ops.toList.filterMap (·.dst)).Nodup &&
 Z.all (fun p => (deps p.1).all (fun d => d < ops.size && pos ord d < pos ord p.2) &&
  (p.1.looksAt ops).all (fun s => Z.all fun q => q.1.dst != some s || p.2 == q.2 || ((wt p.2 q.2 || wt q.2 p.2) && (!zV T p.1.op || wt p.2 q.2 || (deps q.1).contains p.2) && (!zV T q.1.op || (deps p.1).contains q.2 || wt q.2 p.2))) &&
  (!isE T p.1.op || Z.all fun q => p.2 == q.2 || if pos ord q.2 < pos ord p.2 then zV T q.1.op || wt p.2 q.2 else (deps q.1).any fun d => pos ord p.2 ≤ pos ord d))
def gv (ops : Array Oper) (o : Oper) (sl : List D) : Option Bool := match o.guard with
 | none => some true
 | some (j, want) => match ((ops[j]?).bind (·.dst)).map (fun t => sl.getD t .unk) with
  | some (.val (.bool b)) => some (b == want)
  | some (.val (.tuple _)) => some false
  | _ => none
def SameB (e e' : Bk) : Prop := e'.cells = e.cells ∧ e'.ty = e.ty ∧ e'.sz = e.sz ∧ e'.arr = e.arr ∧ e'.kd = e.kd ∧ (e.fz = true → e'.fz = true)
def zGt (ops : Array Oper) (o : Oper) (n : Nat) (sl : List D) (st : List Bk) : Prop := match gv ops o sl with
 | some true => match aeff P T o.op o.type (evD sl) (st.take n) with
  | .lit p d => zV T o.op = true ∧ p ∧ ∀ x, o.dst = some x → sl[x]? = some d
  | .get p d => zV T o.op = false ∧ p ∧ ∀ x, o.dst = some x → sl[x]? = some d
  | .new p b d fz => zV T o.op = false ∧ p ∧ fz = [] ∧ (∃ x, o.dst = some x ∧ sl[x]? = some d) ∧ ∃ e, st[n]? = some e ∧ SameB b e
  | _ => False
 | some false => ∀ x, o.dst = some x → sl[x]? = some (.val undef)
 | none => False
def zW5 (ops : Array Oper) (c : List (Nat × Nat)) (sl : List D) (st : List Bk) : Prop := ∀ x ∈ c, zGt P T ops (ops.getD x.1 default) x.2 sl st
def zPz (o : Oper) (n : Nat) (sl : List D) : Prop := ∀ y ∈ o.op.operands, refs n (evD sl y) = false
abbrev zHv := Nat × List (Nat × Nat) × List Nat
def zW4 (ops : Array Oper) (c : List (Nat × Nat)) (n : Nat) (sl : List D) (st : List Bk) : Prop := n ≤ st.length ∧ zW5 P T ops c sl st
def seqI (ops : Array Oper) : List zHv → List D → List Bk → (List D → List Bk → Prop) → Prop
 | [], sl, st, K => K sl st
 | (e, c, l) :: r, sl, st, K => (∀ x ∈ c, x.2 < st.length → zPz (ops.getD e default) x.2 sl) ∧ seqW P T ops true [ops.getD e default] sl st fun sl' st' => zW4 P T ops c st.length sl' st' ∧
   seqW P T ops true (l.map fun i => ops.getD i default) sl' st' fun sl st => seqI ops r sl st K
def seqF (ops : Array Oper) (l0 : List Nat) (its : List zHv) (sl : List D) (st : List Bk) (K : List D → List Bk → Prop) : Prop :=
 seqW P T ops true (l0.map fun i => ops.getD i default) sl st fun sl st => seqI P T ops its sl st K
def zAk (its : List zHv) : List Nat := its.flatMap fun x => x.1 :: x.2.2
def zDw (l0 : List Nat) (its : List zHv) : List Nat := l0 ++ zAk its
def zL0 (its : List zHv) (e : Nat) : List Nat := match its.find? fun x => x.1 == e with
 | some x => x.2.1.map (·.1)
 | none => []
def zC6 : Op → Bool
 | .call { callee := .value _, .. } => true
 | .call { callee := .invoke .., .. } => true
 | _ => false
def zZr (o : Op) : Bool := zV T o || match o with
 | .load .. | .lookup .. => true
 | _ => false
def zJ4 (ops : Array Oper) (l0 : List Nat) (its : List zHv) : Bool :=
 let ord := zDw l0 its
 let A := zNj ops ord (List.replicate ops.size 0)
 let wt (i x : Nat) : Bool := (A.getD i 0).testBit x
 let Z := ops.toList.zipIdx
 ord.length == ops.size && ord.all (· < ops.size) && decide ord.Nodup && (List.range ops.size).all (fun i => ord.contains i) && Region.noSelect ops &&
 decide (ops.toList.filterMap (·.dst)).Nodup &&
 Z.all (fun p => (deps p.1).all (fun d => d < ops.size && pos ord d < pos ord p.2) &&
  (p.1.looksAt ops).all (fun s => Z.all fun q => q.1.dst != some s || p.2 == q.2 || ((wt p.2 q.2 || wt q.2 p.2) && (!zV T p.1.op || wt p.2 q.2 || (deps q.1).contains p.2) && (!zV T q.1.op || (deps p.1).contains q.2 || wt q.2 p.2))) &&
  (!isE T p.1.op || (let L := zL0 its p.2
   (!zC6 p.1.op || L.all fun q => zZr T (ops.getD q default).op) && Z.all fun q => p.2 == q.2 || if pos ord q.2 < pos ord p.2 then wt p.2 q.2 || L.contains q.2 || (zV T q.1.op && (deps q.1).all fun d => !L.contains d) else (deps q.1).any fun d => pos ord p.2 ≤ pos ord d))) &&
 its.all fun s => s.2.1.all fun x => let o := ops.getD x.1 default
  x.1 < ops.size && !isE T o.op && !zC6 o.op && o.guard.isNone && (o.looksAt ops).all fun y => o.dst != some y && Z.all fun q => q.1.dst != some y || x.1 == q.2 || wt x.1 q.2
structure Lc where
 j : Nat
 i : Nat
 x : Nat
 e : TypeId
 t : TypeId
 v : Operand
def zNl : Op → Option TypeId
 | .alloc e => some e
 | _ => none
def zJx : Op → Option (TypeId × Nat × Operand)
 | .store t (.tmp x) v => some (t, x, v)
 | _ => none
def isTmp (x : Nat) : Operand → Bool
 | .tmp y => x == y
 | _ => false
def lcOf (ops : Array Oper) (p : Nat × Nat) : Lc :=
 let oj := ops.getD p.1 default
 let oi := ops.getD p.2 default
 ⟨p.1, p.2, oj.dst.getD 0, (zNl oj.op).getD 0, ((zJx oi.op).map (·.1)).getD 0, ((zJx oi.op).map (·.2.2)).getD (.tmp 0)⟩
def zR7 (ops : Array Oper) (ord : List Nat) (m : Nat) (ps : List (Nat × Nat)) : Bool :=
 let A := ancs ops.toList
 let wt (i x : Nat) : Bool := (A.getD i 0).testBit x
 let Z := ops.toList.zipIdx
 ord.length == ops.size && ord.all (· < ops.size) && decide ord.Nodup && (List.range ops.size).all (fun i => ord.contains i) && Region.noSelect ops &&
 decide (ops.toList.filterMap (·.dst)).Nodup &&
 Z.all (fun p => (deps p.1).all (fun d => d < p.2 && (decide (pos ord d < pos ord p.2) || (decide (m ≤ pos ord d) && decide (m ≤ pos ord p.2)))) &&
  (p.1.looksAt ops).all (fun s => Z.all fun q => q.1.dst != some s || p.2 == q.2 || ((wt p.2 q.2 || wt q.2 p.2) && (!zV T p.1.op || wt p.2 q.2 || (deps q.1).contains p.2) && (!zV T q.1.op || (deps p.1).contains q.2 || wt q.2 p.2))) &&
  (decide (m ≤ pos ord p.2) || !isE T p.1.op)) &&
 decide (ops.size = m + 2 * ps.length) &&
 ps.zipIdx.all (fun p =>
  let oj := ops.getD p.1.1 default
  let oi := ops.getD p.1.2 default
  let c := lcOf ops p.1
  decide (p.1.1 < ops.size) && decide (p.1.2 < ops.size) && decide (ord[m + 2 * p.2]? = some p.1.1) && decide (ord[m + 2 * p.2 + 1]? = some p.1.2) &&
  (zNl oj.op).isSome && oj.guard.isNone && oj.dst.isSome && (match zJx oi.op with | some (_, x, _) => x == c.x | none => false) && oi.guard.isNone && oi.dst.isNone && (deps oi).contains p.1.1 && !isTmp c.x c.v &&
  Z.all fun q => q.2 == p.1.2 || !(q.1.looksAt ops).contains c.x)
def isUnk : D → Bool
 | .unk => true
 | _ => false
def unkAt (ops : Array Oper) (ps : List (Nat × Nat)) (sl : List D) : Bool := ps.all fun p => isUnk (sl.getD (lcOf ops p).x .unk) && decide ((lcOf ops p).x < sl.length)
def zAf (K : List D → List Bk → Prop) (Q : Exit → List D → List Bk → Prop) : Exit → List D → List Bk → Prop
 | .normal => K
 | e => Q e
def zAg (id : Nat) (Q : Exit → List D → List Bk → Prop) : Exit → List D → List Bk → Prop
 | .exit j => if j = id then Q .normal else Q (.exit j)
 | e => Q e
def awp : Code → (Exit → List D → List Bk → Prop) → List D → List Bk → Prop
 | .skip, Q, sl, st => Q .normal sl st
 | .region _ ops dr, Q, sl, st => if dr then (∃ ord, (zTt T ops ord = true ∨ ∃ m ps, zR7 T ops ord m ps = true ∧ unkAt ops ps sl = true) ∧ seqW P T ops true (ord.map fun i => ops.getD i default) sl st (Q .normal)) ∨ ∃ l0 its, zJ4 T ops l0 its = true ∧ seqF P T ops l0 its sl st (Q .normal) else seqW P T ops false ops.toList sl st (Q .normal)
 | .seq a b, Q, sl, st => awp a (zAf (fun sl st => ∃ sl' st', Weak T sl st sl' st' ∧ awp b Q sl' st') Q) sl st
 | .cond c x y, Q, sl, st => match evD sl c with
  | .val (.bool t) => (t = true → awp x Q sl st) ∧ (t = false → awp y Q sl st)
  | _ => False
 | .block id b, Q, sl, st => awp b (zAg id Q) sl st
 | .loop b, Q, sl, st => ∀ X : List D → List Bk → Prop, (∀ (Y : List D → List Bk → Prop) sl st, (∀ sl' st', Y sl' st' → ∃ sl'' st'', Weak T sl' st' sl'' st'' ∧ X sl'' st'') → awp b (zAf Y Q) sl st → X sl st) → ∃ sl' st', Weak T sl st sl' st' ∧ X sl' st'
 | .exit id, Q, sl, st => Q (.exit id) sl st
 | .label _, Q, sl, st => Q .normal sl st
 | .ret, Q, sl, st => Q .ret sl st
 | _, _, _, _ => False
end
end
section
open Go.RowKit
section
variable {P : Program} {T : Par} {I : Im} {w : World} {β : Be} {sl : List D} {st : List Bk} {a : Act}
theorem zAb (h : RelT I w β sl a.tmps.toList) (x : Operand) : Rel I w β (evD sl x) (a.eval x) := by
 cases x with
 | tmp t =>
  simp only [evD, Act.eval, List.getD_eq_getElem?_getD]
  cases ht : sl[t]? with
  | none => simp only [Option.getD_none, Rel]
  | some d =>
   obtain ⟨v, h1, h2⟩ := h.get t d ht
   have : a.tmps[t]? = some v := by simpa using h1
   simpa [this] using h2
 | const v => simp only [evD, Act.eval, Rel]
 | global g => simp only [evD, Act.eval, Rel]
 | func f =>
  simp only [evD, Act.eval, Rel, RelT]
  exact ⟨[], [], rfl, rfl, rfl⟩
theorem zHm (h : RelT I w β sl a.tmps.toList) : ∀ (xs : List Operand), RelT I w β (xs.map (evD sl)) (xs.map a.eval)
 | [] => by simp only [List.map_nil, RelT]
 | x :: xs => by simp only [List.map_cons, RelT]; exact ⟨_, _, rfl, zAb h x, zHm h xs⟩
theorem RelT.append {β : Be} : ∀ {x y : List D} {u v : List Value}, RelT I w β x u → RelT I w β y v → RelT I w β (x ++ y) (u ++ v)
 | [], y, u, v, h, k => by simp only [RelT] at h; subst h; simpa using k
 | d :: x, y, u, v, h, k => by
  simp only [RelT] at h
  obtain ⟨a, us, rfl, h1, h2⟩ := h
  simp only [List.cons_append, RelT]
  exact ⟨a, us ++ v, rfl, h1, h2.append k⟩
theorem zKj {t : TypeId} {name : String} {f : FuncId} (h : zKk P t name = some f) : ∃ i u m, P.info? t = some i ∧ P.underlying t = some u ∧ i.methods.find? (·.name == name) = some m ∧ m.path = #[] ∧ m.func = some (f, zZ4 u) := by
 unfold zKk at h
 split at h
 ·rename_i i u hi hu
  split at h
  ·rename_i m hm
   split at h
   ·rename_i hp
    split at h
    ·rename_i g p hf
     split at h
     ·rename_i hpp
      simp only [Option.some.injEq] at h
      subst h
      rw [beq_iff_eq] at hpp
      exact ⟨i, u, m, hi, hu, hm, by simpa using hp, by rw [hf, hpp]⟩
     ·cases h
    ·cases h
   ·cases h
  ·cases h
 ·cases h
theorem zT4 {t : TypeId} {name : String} {f : FuncId} (h : zKk P t name = some f) (n : Nat) (v : Value) (W : World) : (method (n + 1) t v name).run P W = .ok (f, v) W := by
 obtain ⟨i, u, m, h1, h2, h3, h4, h5⟩ := zKj h
 simp only [method, typeInfo, Sem.run_bind]
 rw [show (program : Sem Program).run P W = .ok P W from rfl]
 simp only [Result.andThen_ok, h1, h3, h4, h5, Sem.run_pure, follow, Sem.run_bind]
 simp only [receiverAt, Sem.run_bind, run_underlying h2 W, Result.andThen_ok]
 cases u <;> simp [zZ4, Place.get]
theorem zPn {t : TypeId} {name : String} {f : FuncId} (h : zKk P t name = some f) (n : Nat) (v : Value) (W : World) : (nilAhead (n + 1) t v name).run P W = .ok (some false) W := by
 obtain ⟨i, u, m, h1, h2, h3, h4, h5⟩ := zKj h
 simp only [nilAhead, typeInfo, Sem.run_bind]
 rw [show (program : Sem Program).run P W = .ok P W from rfl]
 simp only [Result.andThen_ok, h1, h3, h4, h5, Sem.run_pure, followBlind, Sem.run_bind]
 cases u <;> simp [zZ4, run_underlying h2 W]
theorem zJt {t : TypeId} {s : Nat} (h : tySz P t = some s) : ∃ i d, P.info? t = some i ∧ i.size = s ∧ P.underlying t = some d := by
 unfold tySz at h
 cases hu : P.underlying t with
 | none => simp [hu] at h
 | some d =>
  simp only [hu] at h
  cases hi : P.info? t with
  | none => simp [hi] at h
  | some i => simp [hi] at h; exact ⟨i, d, rfl, h, rfl⟩
theorem zB3 {t : TypeId} {s : Nat} (h : tySz P t = some s) (W : World) : (sizeOf t).run P W = .ok s W := by
 obtain ⟨i, d, h1, h2, _⟩ := zJt h
 simp [sizeOf, typeInfo, h1, h2]
theorem zQv {t : TypeId} {s : Nat} (h : tySz P t = some s) (W : World) : (isAgg t).run P W = .ok (zDr P t) W := by
 obtain ⟨i, d, h1, h2, h3⟩ := zJt h
 unfold isAgg zDr
 rw [Sem.run_bind, run_underlying h3 W]
 cases d <;> simp [h3]
theorem zVv {d : D} {v : Value} (h : Rel I w β d v) : Rel I w β (unB d) v := by
 unfold unB
 split
 ·simp only [Rel] at h ⊢; exact h.1
 ·exact h
theorem zY8 (k : Nat) (d : D) : refs k (unB d) = refs k d := by
 unfold unB
 split
 ·simp only [refs]
 ·rfl
theorem zDa {d : D} {v : Value} (hv : zEl d = true) (h : Rel I w β d v) : RelL I w β (cellsOf d) v.cells.toList := by
 have one : zE4 d = true → cellsOf d = [d] → RelL I w β (cellsOf d) v.cells.toList := by
  intro hc he
  have h1 : v.oneCell' = true := by
   cases d <;> simp only [zE4, Rel, Bool.false_eq_true] at hc h
   ·subst h; exact hc
   ·obtain ⟨_, _, rfl, _⟩ := h; rfl
   ·obtain ⟨_, _, rfl, _⟩ := h; rfl
   ·obtain ⟨_, _, rfl, _⟩ := h; rfl
   ·obtain ⟨_, rfl, _⟩ := h; rfl
   ·obtain ⟨_, _, _, rfl⟩ := h; rfl
   ·rcases h with ⟨_, _, rfl⟩ | ⟨_, _, _, _, _, rfl, _⟩ | ⟨_, _, _, _, rfl, _⟩ <;> rfl
   ·obtain ⟨_, _, _, rfl⟩ := h; rfl
   ·obtain ⟨_, _, rfl, _⟩ := h; rfl
   ·exact h.1
   ·obtain ⟨_, _, _, rfl, _⟩ := h; rfl
  have h2 : v.cells.toList = [v] := by cases v <;> simp_all [Value.cells, Value.oneCell']
  rw [he, h2]
  simp only [RelL]
  exact ⟨v, [], rfl, h1, h, rfl⟩
 cases d with
 | agg cs =>
  simp only [Rel] at h
  obtain ⟨vs, rfl, h⟩ := h
  simpa [cellsOf, Value.cells] using h
 | unk => simp [zEl, zE4] at hv
 | tup cs => simp [zEl, zE4] at hv
 | _ => exact one (by simpa [zEl] using hv) rfl
theorem RelL.set {β : Be} {cs : List D} {vs : List Value} (h : RelL I w β cs vs) {d : D} {v : Value} (hd : Rel I w β d v) (h1 : v.oneCell' = true) (i : Nat) : RelL I w β (cs.set i d) (vs.set i v) := by
 refine RelL.of_get (by simp [h.length]) fun j x y hx hy => ?_
 rw [List.getElem?_set] at hx hy
 have hl := h.length
 split at hx
 ·subst_vars
  split at hx
  ·rw [if_pos rfl, if_pos (by omega)] at hy
   cases hx; cases hy
   exact ⟨h1, hd⟩
  ·cases hx
 ·rename_i hne
  rw [if_neg hne] at hy
  obtain ⟨y', k1, k2, k3⟩ := h.get j x hx
  rw [hy] at k1; cases k1
  exact ⟨k2, k3⟩
def zCj (cs : List Value) (off : Nat) : List Value → List Value
 | [] => cs
 | d :: ds => zCj (cs.set off d) (off + 1) ds
theorem RelL.setAt {β : Be} : ∀ {ds : List D} {us : List Value} {cs : List D} {vs : List Value} (off : Nat), RelL I w β ds us → RelL I w β cs vs → RelL I w β (setAt cs off ds) (zCj vs off us)
 | [], us, cs, vs, off, h, k => by simp only [RelL] at h; subst h; simpa [Proofs.YtmfamhoopjeaiaaDoor.setAt, zCj] using k
 | d :: ds, us, cs, vs, off, h, k => by
  simp only [RelL] at h
  obtain ⟨u, us', rfl, h1, h2, h3⟩ := h
  simp only [Proofs.YtmfamhoopjeaiaaDoor.setAt, zCj]
  exact RelL.setAt (off + 1) h3 (k.set h2 h1 off)
theorem zXi (us : List Value) : ∀ (cs : List Value) (off j : Nat), ((us.zipIdx j).foldl (fun (c : Array Value) (x : Value × Nat) => c.setIfInBounds (off + x.2) x.1) cs.toArray) = (zCj cs (off + j) us).toArray := by
 induction us with
 | nil => intro cs off j; rfl
 | cons u us ih =>
  intro cs off j
  simp only [List.zipIdx_cons, List.foldl_cons, zCj, List.setIfInBounds_toArray]
  rw [ih, Nat.add_assoc]
theorem zEk : ∀ (us cs : List Value) (off : Nat), (zCj cs off us).length = cs.length
 | [], _, _ => rfl
 | u :: us, cs, off => by rw [zCj, zEk us]; simp
theorem zDj : ∀ (us cs : List D) (off : Nat), (setAt cs off us).length = cs.length
 | [], _, _ => rfl
 | u :: us, cs, off => by rw [setAt, zDj us]; simp
theorem zFn {place place' : Nat → Option (Nat × Nat)} (hpl : ∀ i x, place i = some x → place' i = some x) : ∀ (ps : List (Nat × D)) (vs : List (Nat × Value)) (cs : List D) (us : List Value) (p : Prop) (x : List D), ps.length = vs.length →
  (∀ (j : Nat) i d i' v, ps[j]? = some (i, d) → vs[j]? = some (i', v) → i' = i ∧ Rel I w β d v) → RelL I w β cs us → zG0 place ps cs = some (p, x) → p → ∃ ys, Instr.fill place' us.toArray vs = some ys.toArray ∧ RelL I w β x ys
 | [], vs, cs, us, p, x, hl, hr, hc, hf, hp => by
  have : vs = [] := List.eq_nil_of_length_eq_zero (by simpa using hl.symm)
  subst this
  simp only [zG0, Option.some.injEq, Prod.mk.injEq] at hf
  obtain ⟨_, rfl⟩ := hf
  exact ⟨us, rfl, hc⟩
 | (i, d) :: ps, [], cs, us, p, x, hl, hr, hc, hf, hp => by simp at hl
 | (i, d) :: ps, (i', v) :: vs, cs, us, p, x, hl, hr, hc, hf, hp => by
  obtain ⟨rfl, hd⟩ := hr 0 i d i' v rfl rfl
  simp only [zG0] at hf
  cases hpi : place i' with
  | none => simp [hpi] at hf
  | some os =>
   obtain ⟨off, sz⟩ := os
   simp only [hpi] at hf
   split at hf
   ·rename_i hv
    cases hr' : zG0 place ps (setAt cs off (cellsOf d)) with
    | none => simp [hr'] at hf
    | some px =>
     obtain ⟨p', x'⟩ := px
     simp only [hr', Option.some.injEq, Prod.mk.injEq] at hf
     obtain ⟨rfl, rfl⟩ := hf
     obtain ⟨hp1, hp2, hp3⟩ := hp
     have hcl := zDa hv hd
     have hlen : v.cells.size = sz := by rw [← hp1, hcl.length]; simp
     have hlu : us.length = cs.length := hc.length.symm
     obtain ⟨ys, k1, k2⟩ := zFn hpl ps vs (setAt cs off (cellsOf d)) (zCj us off v.cells.toList) p' x' (by simpa using hl) (fun j => by simpa using hr (j + 1)) (RelL.setAt off hcl hc) hr' hp3
     refine ⟨ys, ?_, k2⟩
     simp only [Instr.fill, hpl _ _ hpi]
     rw [if_neg (by simp [hlen]; omega)]
     have := zXi v.cells.toList us off 0
     rw [Nat.add_zero] at this
     rw [← k1, ← this]
     congr 1
     rw [← Array.foldl_toList, Array.toList_zipIdx]
   ·cases hf
end
end
section
open Go.RowKit
section
variable {P : Program} {T : Par} {I : Im} {w : World} {β : Be} {sl : List D} {st : List Bk} {a : Act}
def Yl (P : Program) (I : Im) (w : World) (β : Be) (s : Sem Value) (d : D) : Prop := ∃ v, (∀ W : World, s.run P W = .ok v W) ∧ Rel I w β d v
theorem Yl.mk {s : Sem Value} {d : D} {v : Value} (h : ∀ W : World, s.run P W = .ok v W) (hr : Rel I w β d v) : Yl P I w β s d := ⟨v, h, hr⟩
theorem Rel.valI (v : Value) : Rel I w β (.val v) v := by simp only [Rel]
theorem yl_int {op : BinOp} {k : IntKind} {x y : Int} {p : Prop} {d : D} (hs : op ≠ .shl ∧ op ≠ .shr) (he : aInt op k x y = .lit p d) (hp : p) (t : TypeId) : Yl P I w β (binOp op t (.int k x) (.int k y)) d := by
  cases op <;> simp only [aInt, Eff.lit.injEq, reduceCtorEq, ne_eq, not_true_eq_false, false_and, and_false] at he hs <;> obtain ⟨rfl, rfl⟩ := he <;>
    first
    | (refine Yl.mk (fun W => ?_) (Rel.valI _); simp [binOp, Op.intArith, Op.intBits, Op.intCmp]; done)
    | (refine Yl.mk (fun W => ?_) (Rel.valI _); simp [binOp, Op.intArith, Op.intBits, Op.intCmp]; rfl)
    | (refine Yl.mk (fun W => ?_) (Rel.valI _); simp [binOp, Op.intDiv, hp]; done)
theorem yl_str {op : BinOp} {x y : ByteArray} {p : Prop} {d : D} (he : aStr op x y = .lit p d) (hp : p) (t : TypeId) : Yl P I w β (binOp op t (.string x) (.string y)) d := by
  cases op <;> simp only [aStr, Eff.lit.injEq, reduceCtorEq] at he <;> obtain ⟨rfl, rfl⟩ := he <;>
    first
    | (refine Yl.mk (fun W => ?_) (Rel.valI _)
       have : ¬ (((x.size + y.size : Nat) : Int) > IntKind.i64.max) := by
          have : IntKind.i64.max = 9223372036854775807 := rfl
          omega
       simp only [binOp, Op.stringOp]
       rw [if_neg this]; rfl)
    | (refine Yl.mk (fun W => ?_) (Rel.valI _); simp [binOp, Op.stringOp]; done)
    | (refine Yl.mk (fun W => ?_) (Rel.valI _); simp [binOp, Op.stringOp]; rfl)
theorem zWc {t : TypeId} (hu : P.underlying t = some .bool) (x y : Bool) (W : World) : (Op.equal t (.bool x) (.bool y)).run P W = .ok (x == y) W := by
  show (Op.equalIn (9999 + 1) t (.bool x) (.bool y)).run P W = _
  rw [Op.equalIn, Sem.run_bind, run_underlying hu W]
  rfl
theorem yl_un {op : UnOp} {x : D} {u : Value} {p : Prop} {d : D} (hx : Rel I w β x u) (he : aUn op x = .lit p d) : Yl P I w β (Op.unary op u) d := by
  unfold aUn at he
  split at he
  · simp only [Rel] at hx; subst hx
    simp only [Eff.lit.injEq] at he
    obtain ⟨rfl, rfl⟩ := he
    exact Yl.mk (fun W => by simp [Op.unary]) (Rel.valI _)
  · simp only [Rel] at hx; subst hx
    simp only [Eff.lit.injEq] at he
    obtain ⟨rfl, rfl⟩ := he
    exact Yl.mk (fun W => by simp [Op.unary, Op.intArith]) (Rel.valI _)
  · cases he
theorem yl_conv {src dst : TypeId} {x : D} {u : Value} {p : Prop} {d : D} (hx : Rel I w β x u) (he : aConv P src dst x = .lit p d) : Yl P I w β (convert src dst u) d := by
  unfold aConv at he
  split at he
  · rename_i h1 h2
    simp only [Rel] at hx; subst hx
    simp only [Eff.lit.injEq] at he
    obtain ⟨rfl, rfl⟩ := he
    exact Yl.mk (fun W => by simp [convert, Sem.run_bind, run_underlying h1, run_underlying h2, Conv.intToInt]) (Rel.valI _)
  · rename_i h1 h2
    simp only [Rel] at hx; subst hx
    simp only [Eff.lit.injEq] at he
    obtain ⟨rfl, rfl⟩ := he
    exact Yl.mk (fun W => by simp [convert, Sem.run_bind, run_underlying h1, run_underlying h2]) (Rel.valI _)
  · cases he
theorem zKx {t : TypeId} {f o : Nat} {ft : TypeId} (h : zM8 P t f = some (o, ft)) : ∃ fs fl, P.underlying t = some (.struct fs) ∧ fs[f]? = some fl ∧ fl.offset = o ∧ fl.type = ft := by
  unfold zM8 at h
  split at h
  · rename_i fs hu
    cases hf : fs[f]? with
    | none => simp [hf] at h
    | some fl => simp [hf] at h; exact ⟨fs, fl, hu, hf, h.1, h.2⟩
  · cases h
theorem RelL.sub {β : Be} {cs : List D} {vs : List Value} (h : RelL I w β cs vs) (o n : Nat) : RelL I w β ((cs.drop o).take n) ((vs.drop o).take n) := by
  refine RelL.of_get (by simp [h.length]) fun j x y hx hy => ?_
  rw [List.getElem?_take] at hx hy
  split at hx
  · rename_i hj
    rw [if_pos hj] at hy
    rw [List.getElem?_drop] at hx hy
    obtain ⟨y', k1, k2, k3⟩ := h.get _ x hx
    rw [hy] at k1; cases k1
    exact ⟨k2, k3⟩
  · cases hx
theorem RelL.getD {β : Be} {cs : List D} {vs : List Value} (h : RelL I w β cs vs) {o : Nat} (ho : o < cs.length) : ∃ v, vs[o]? = some v ∧ v.oneCell' = true ∧ Rel I w β (cs.getD o .unk) v := by
  obtain ⟨v, h1, h2, h3⟩ := h.get o cs[o] (by simp [ho])
  refine ⟨v, h1, h2, ?_⟩
  rw [List.getD_eq_getElem?_getD, List.getElem?_eq_getElem ho]
  exact h3
theorem zQr {t : TypeId} {s : Nat} {cs : List D} {vs : List Value} (o : Nat) (hs : tySz P t = some s) (h : RelL I w β cs vs) :
    (zDr P t = true → o + s ≤ cs.length → Yl P I w β (part t vs.toArray o) (.agg ((cs.drop o).take s))) ∧ (zDr P t = false → o < cs.length → Yl P I w β (part t vs.toArray o) (cs.getD o .unk)) := by
  constructor
  · intro ha hl
    refine Yl.mk (v := .agg ((vs.drop o).take s).toArray) (fun W => ?_) ?_
    · simp only [part, Sem.run_bind, zQv hs, ha, Result.andThen_ok, if_true, zB3 hs, Sem.run_pure]
      congr 2
      apply Array.ext'
      simp
    · simp only [Rel]; exact ⟨_, rfl, h.sub o s⟩
  · intro ha hl
    obtain ⟨v, h1, h2, h3⟩ := h.getD hl
    refine Yl.mk (v := v) (fun W => ?_) h3
    simp [part, Sem.run_bind, zQv hs, ha, h1]
theorem zKc {t : TypeId} {cs : List D} {vs : List Value} {o : Nat} {d : D} (h : RelL I w β cs vs) (hp : zZn P t cs o = some d) : Yl P I w β (part t vs.toArray o) d := by
  unfold zZn at hp
  split at hp
  · cases hp
  · rename_i s hs
    have hq := zQr (P := P) (I := I) (w := w) (β := β) o hs h
    split at hp
    · rename_i ha
      split at hp
      · cases hp; exact hq.1 ha (by assumption)
      · cases hp
    · rename_i ha
      split at hp
      · cases hp; exact hq.2 (by simpa using ha) (by assumption)
      · cases hp
theorem zP4 {rec : TypeId → D → D → Option Bool} {d : Nat} (ih : ∀ t x y b u v, Rel I w β x u → Rel I w β y v → rec t x y = some b → ∀ W, (Op.equalIn d t u v).run P W = .ok b W) {xs ys : List D} {vs us : List Value} (hx : RelL I w β xs vs) (hy : RelL I w β ys us) :
    ∀ (fs : List Field) (b : Bool), eqF P rec xs ys fs = some b → ∀ W, (Op.eqFields d vs.toArray us.toArray fs).run P W = .ok b W
  | [], b, h, W => by simp only [eqF, Option.some.injEq] at h; subst h; simp [Op.eqFields]
  | f :: fs, b, h, W => by
    simp only [eqF] at h
    split at h
    · cases h
    rename_i hn
    have hn' : f.name ≠ "_" := by simpa using hn
    split at h
    · rename_i a c h1 h2
      split at h
      · rename_i r q h3 h4
        simp only [Option.some.injEq] at h
        subst h
        obtain ⟨v1, r1, k1⟩ := zKc hx h1
        obtain ⟨v2, r2, k2⟩ := zKc hy h2
        have e := ih _ _ _ _ _ _ k1 k2 h3
        have e2 := zP4 ih hx hy fs q h4
        simp only [Op.eqFields, if_pos hn', Sem.run_bind, r1, r2, e, Result.andThen_ok]
        cases r
        · simp
        · simp [e2]
      · cases h
    · cases h
theorem zKy : ∀ (n : Nat) (t : TypeId) (x y : D) (b : Bool) (u v : Value), Rel I w β x u → Rel I w β y v → eqD P n t x y = some b → ∀ d, n ≤ d → ∀ W, (Op.equalIn d t u v).run P W = .ok b W
  | 0, t, x, y, b, u, v, hx, hy, h => by simp [eqD] at h
  | n + 1, t, x, y, b, u, v, hx, hy, h => by
    intro d hd W
    obtain ⟨d, rfl⟩ : ∃ e, d = e + 1 := ⟨d - 1, by omega⟩
    unfold eqD at h
    split at h
    · rename_i hu
      simp only [Rel] at hx hy
      subst hx; subst hy
      cases h
      exact run_equalIn_bool' W d t _ _ hu
    · rename_i hu
      simp only [Rel] at hx hy
      subst hx; subst hy
      split at h
      · subst_vars
        cases h
        exact run_equalIn_int W d t _ _ _ _ hu
      · cases h
    · rename_i hu
      simp only [Rel] at hx hy
      subst hx; subst hy
      cases h
      exact run_equalIn_string W d t _ _ hu
    · rename_i fs xs ys hu
      simp only [Rel] at hx hy
      obtain ⟨vs, rfl, hx⟩ := hx
      obtain ⟨us, rfl, hy⟩ := hy
      split at h
      · cases h
      rename_i hs
      have hf : P.fieldsOf t = fs := by simp [Program.fieldsOf, hu]
      rw [run_equalIn_struct W d t _ _ (by rw [hf]; exact hu) (by simpa using hs), hf]
      exact zP4 (fun t x y b u v h1 h2 h3 W => zKy n t x y b u v h1 h2 h3 d (by omega) W) hx hy _ _ h W
    · cases h
theorem yl_eqS {op : BinOp} {t : TypeId} {xs ys : List D} {u v : Value} {p : Prop} {d : D} (hx : Rel I w β (.agg xs) u) (hy : Rel I w β (.agg ys) v) (he : aEqS P op t (.agg xs) (.agg ys) = .lit p d) (ox oy : Operand) :
    Yl P I w β (do eqGuard op t ox oy u v; binOp op t u v) d := by
  unfold aEqS at he
  split at he
  · cases he
  rename_i hm
  have hx' := hx
  have hy' := hy
  simp only [Rel] at hx hy
  obtain ⟨vs, rfl, _⟩ := hx
  obtain ⟨us, rfl, _⟩ := hy
  split at he
  · rename_i b hb
    cases he
    refine Yl.mk (fun W => ?_) (Rel.valI _)
    rw [Sem.run_bind, run_eqGuard_agg W _ t ox oy _ _ (by simpa using hm), Result.andThen_ok, run_eql_struct, zKy 6 t _ _ b _ _ hx' hy' hb 10000 (by decide) W]
    rfl
  · rename_i b hb
    cases he
    refine Yl.mk (fun W => ?_) (Rel.valI _)
    rw [Sem.run_bind, run_eqGuard_agg W _ t ox oy _ _ (by simpa using hm), Result.andThen_ok, run_neq_struct, zKy 6 t _ _ b _ _ hx' hy' hb 10000 (by decide) W]
    rfl
  · cases he
def zNo : NK → Value → Value → Bool → Prop
  | .ptr, u, v, b => ∃ a, u = .pointer a ∧ v = .pointer none ∧ b = a.isNone
  | .map, u, v, b => ∃ a, u = .map a ∧ v = .map none ∧ b = a.isNone
  | .slice, u, v, b => ∃ a n c, u = .slice a n c ∧ v = .slice none 0 0 ∧ b = a.isNone
  | .func, u, v, b => v = .nilFunc ∧ ((u = .nilFunc ∧ b = true) ∨ ∃ f x y, u = .func f x y ∧ b = false)
theorem nilEq {t : TypeId} {nk : NK} {u v : Value} {b : Bool} (hk : (P.underlying t).bind nkOf = some nk) (h : zNo nk u v b) (W : World) : (Op.equal t u v).run P W = .ok b W := by
  obtain ⟨d, hd, hn⟩ := Option.bind_eq_some_iff.1 hk
  have key : ∀ n, (Op.equalIn (n + 1) t u v).run P W = .ok b W := by
    intro n
    cases nk <;> cases d <;> simp only [nkOf, Option.some.injEq, reduceCtorEq] at hn
    · obtain ⟨a, rfl, rfl, rfl⟩ := h
      rw [Op.equalIn, Sem.run_bind, run_underlying hd W, Result.andThen_ok]
      cases a <;> rfl
    · obtain ⟨a, rfl, rfl, rfl⟩ := h
      rw [Op.equalIn, Sem.run_bind, run_underlying hd W, Result.andThen_ok]
      cases a <;> rfl
    · obtain ⟨rfl, ⟨rfl, rfl⟩ | ⟨f, x, y, rfl, rfl⟩⟩ := h <;> rw [Op.equalIn, Sem.run_bind, run_underlying hd W, Result.andThen_ok] <;> rfl
    · obtain ⟨a, m, c, rfl, rfl, rfl⟩ := h
      rw [Op.equalIn, Sem.run_bind, run_underlying hd W, Result.andThen_ok]
      cases a <;> rfl
  exact key 9999
theorem zSr {op : BinOp} {t : TypeId} {nk : NK} {u v : Value} {b : Bool} (h : zNo nk u v b) (ox oy : Operand) (W : World) : (eqGuard op t ox oy u v).run P W = .ok () W := by
  cases nk
  · obtain ⟨a, rfl, rfl, rfl⟩ := h; cases op <;> simp [eqGuard]
  · obtain ⟨a, rfl, rfl, rfl⟩ := h; cases op <;> simp [eqGuard]
  · obtain ⟨rfl, ⟨rfl, rfl⟩ | ⟨f, x, y, rfl, rfl⟩⟩ := h <;> cases op <;> simp [eqGuard]
  · obtain ⟨a, n, c, rfl, rfl, rfl⟩ := h; cases op <;> simp [eqGuard]
theorem zWu {t : TypeId} {nk : NK} {u v : Value} {b : Bool} (hk : (P.underlying t).bind nkOf = some nk) (h : zNo nk u v b) (W : World) : (binOp .eql t u v).run P W = .ok (.bool b) W ∧ (binOp .neq t u v).run P W = .ok (.bool (!b)) W := by
  have := nilEq hk h W
  cases nk
  · obtain ⟨x, rfl, rfl, rfl⟩ := h; constructor <;> simp [binOp, this]
  · obtain ⟨x, rfl, rfl, rfl⟩ := h; constructor <;> simp [binOp, this]
  · obtain ⟨rfl, ⟨rfl, rfl⟩ | ⟨f, x, y, rfl, rfl⟩⟩ := h <;> constructor <;> simp [binOp, this]
  · obtain ⟨x, m, c, rfl, rfl, rfl⟩ := h; constructor <;> simp [binOp, this]
theorem zD3 {op : BinOp} {t : TypeId} {nk : NK} {u v : Value} {b : Bool} {p : Prop} {d : D} (he : zJg P op t nk b = .lit p d) (h : zNo nk u v b) (ox oy : Operand) :
    Yl P I w β (do eqGuard op t ox oy u v; binOp op t u v) d := by
  have key : (P.underlying t).bind nkOf = some nk → (match op with | .eql => Eff.lit True (.val (.bool b)) | .neq => .lit True (.val (.bool (!b))) | _ => .bad) = .lit p d → Yl P I w β (do eqGuard op t ox oy u v; binOp op t u v) d := by
    intro hk he
    split at he
    · simp only [Eff.lit.injEq] at he
      obtain ⟨rfl, rfl⟩ := he
      exact Yl.mk (fun W => by rw [Sem.run_bind, zSr h, Result.andThen_ok, (zWu hk h W).1]) (Rel.valI _)
    · simp only [Eff.lit.injEq] at he
      obtain ⟨rfl, rfl⟩ := he
      exact Yl.mk (fun W => by rw [Sem.run_bind, zSr h, Result.andThen_ok, (zWu hk h W).2]) (Rel.valI _)
    · cases he
  unfold zJg at he
  split at he
  · rename_i hk; exact key hk he
  · rename_i hk; exact key hk he
  · rename_i hk; exact key hk he
  · rename_i hk; exact key hk he
  · cases he
theorem zRq {op : BinOp} {t : TypeId} {a : Option Addr} {n c : Nat} {p : Prop} {d : D} {ox oy : Operand} (he : aNil P op t n = .lit p d) (hp : p) (ha : a = none → n ≤ 0) :
    Yl P I w β (do eqGuard op t ox oy (.slice a n c) (.slice none 0 0); binOp op t (.slice a n c) (.slice none 0 0)) d := by
  unfold aNil at he
  split at he
  · rename_i e hu
    simp only [Eff.lit.injEq] at he
    obtain ⟨rfl, rfl⟩ := he
    have hn : a.isNone = false := by
      cases a with
      | none => have := ha rfl; omega
      | some _ => rfl
    refine Yl.mk (fun W => ?_) (Rel.valI _)
    have hg : (eqGuard .eql t ox oy (.slice a n c) (.slice none 0 0)).run P W = .ok () W := by simp [eqGuard]
    rw [Sem.run_bind, hg]
    have := Lib.run_eql_slice_nil (P := P) W t e a n c 0 0 hu
    rw [hn] at this
    exact this
  · rename_i e hu
    simp only [Eff.lit.injEq] at he
    obtain ⟨rfl, rfl⟩ := he
    have hn : a.isNone = false := by
      cases a with
      | none => have := ha rfl; omega
      | some _ => rfl
    refine Yl.mk (fun W => ?_) (Rel.valI _)
    have hg : (eqGuard .neq t ox oy (.slice a n c) (.slice none 0 0)).run P W = .ok () W := by simp [eqGuard]
    rw [Sem.run_bind, hg]
    have := (zWu (P := P) (t := t) (nk := .slice) (u := .slice a n c) (v := .slice none 0 0) (b := false) (by rw [hu]; rfl) ⟨a, n, c, rfl, rfl, hn.symm⟩ W).2
    exact this
  · cases he
theorem yl_bin {op : BinOp} {t : TypeId} {x y : D} {u v : Value} {p : Prop} {d : D} (hx : Rel I w β x u) (hy : Rel I w β y v) (he : aBin P op t x y = .lit p d) (hp : p) (ox oy : Operand) :
    Yl P I w β (do eqGuard op t ox oy u v; binOp op t u v) d := by
  unfold aBin at he
  split at he
  · rename_i k x k' y
    simp only [Rel] at hx hy
    subst hx; subst hy
    have hg : ∀ W : World, (eqGuard op t ox oy (.int k x) (.int k' y)).run P W = .ok () W := fun W => by cases op <;> simp [eqGuard]
    have lift : Yl P I w β (binOp op t (.int k x) (.int k' y)) d → Yl P I w β (do eqGuard op t ox oy (.int k x) (.int k' y); binOp op t (.int k x) (.int k' y)) d := by
      rintro ⟨v, h1, h2⟩
      exact ⟨v, fun W => by rw [Sem.run_bind, hg]; exact h1 W, h2⟩
    refine lift ?_
    split at he
    · simp only [Eff.lit.injEq] at he
      obtain ⟨rfl, rfl⟩ := he
      exact Yl.mk (fun W => by simp [binOp, Op.shift, Int.not_lt.2 hp]) (Rel.valI _)
    · simp only [Eff.lit.injEq] at he
      obtain ⟨rfl, rfl⟩ := he
      exact Yl.mk (fun W => by simp [binOp, Op.shift, Int.not_lt.2 hp]) (Rel.valI _)
    · rename_i h1 h2
      split at he
      · subst_vars
        exact yl_int ⟨h1, h2⟩ he hp t
      · cases he
  · simp only [Rel] at hx hy
    subst hx; subst hy
    rename_i x y
    obtain ⟨v, h1, h2⟩ := yl_str (P := P) (I := I) (w := w) (β := β) he hp t
    exact ⟨v, fun W => by rw [Sem.run_bind, show (eqGuard op t ox oy (.string x) (.string y)).run P W = .ok () W by cases op <;> simp [eqGuard]]; exact h1 W, h2⟩
  · simp only [Rel] at hx hy
    subst hx; subst hy
    rename_i x y
    split at he
    · rename_i hu
      simp only [Eff.lit.injEq] at he
      obtain ⟨rfl, rfl⟩ := he
      exact Yl.mk (fun W => by simp only [eqGuard, binOp, Sem.run_bind, zWc hu]; rfl) (Rel.valI _)
    · rename_i hu
      simp only [Eff.lit.injEq] at he
      obtain ⟨rfl, rfl⟩ := he
      exact Yl.mk (fun W => by simp only [eqGuard, binOp, Sem.run_bind, zWc hu]; rfl) (Rel.valI _)
    · cases he
  · simp only [Rel] at hx hy
    obtain ⟨a, cap, rfl, h1, h2, h3, _⟩ := hx
    subst hy
    exact zRq he hp (fun h => by have := h3 h; omega)
  · simp only [Rel] at hx hy
    subst hy
    rcases hx with ⟨rfl, _, rfl⟩ | ⟨rfl, _, _, a, c, rfl, _, _⟩ | ⟨b, c, cap, _, rfl, _⟩
    · exact zRq he hp (fun _ => Nat.le_refl _)
    · exact zRq he hp (fun _ => Nat.le_refl _)
    · exact zRq he hp (fun h => by cases h)
  · simp only [Rel] at hx hy
    subst hx; subst hy
    exact zD3 he ⟨_, _, _, rfl, rfl, rfl⟩ ox oy
  · simp only [Rel] at hx hy
    obtain ⟨b, c, _, rfl⟩ := hx
    subst hy
    exact zD3 he ⟨_, rfl, rfl, rfl⟩ ox oy
  · simp only [Rel] at hx hy
    obtain ⟨b, c, rfl, _⟩ := hx
    subst hy
    exact zD3 he ⟨_, rfl, rfl, rfl⟩ ox oy
  · simp only [Rel] at hx hy
    subst hx; subst hy
    exact zD3 he ⟨_, rfl, rfl, rfl⟩ ox oy
  · simp only [Rel] at hx hy
    obtain ⟨b, c, _, rfl⟩ := hx
    subst hy
    exact zD3 he ⟨_, rfl, rfl, rfl⟩ ox oy
  · simp only [Rel] at hx hy
    obtain ⟨b, vs, rfl, _⟩ := hx
    subst hy
    exact zD3 he ⟨_, rfl, rfl, rfl⟩ ox oy
  · simp only [Rel] at hx hy
    subst hx; subst hy
    exact zD3 he ⟨_, rfl, rfl, rfl⟩ ox oy
  · simp only [Rel] at hx hy
    obtain ⟨vs, us, rfl, _⟩ := hx
    subst hy
    exact zD3 he ⟨rfl, .inr ⟨_, _, _, rfl, rfl⟩⟩ ox oy
  · simp only [Rel] at hx hy
    subst hx; subst hy
    exact zD3 he ⟨rfl, .inl ⟨rfl, rfl⟩⟩ ox oy
  · exact yl_eqS hx hy he ox oy
  · cases he
theorem zYt {t : TypeId} {f : Nat} {x : D} {u : Value} {p : Prop} {d : D} (hx : Rel I w β x u) (he : zYm P t x f = .lit p d) (hp : p) : Yl P I w β (Instr.field t u f) d := by
  unfold zYm at he
  split at he
  · rename_i cs o ft hf
    obtain ⟨fs, fl, h1, h2, rfl, rfl⟩ := zKx hf
    simp only [Rel] at hx
    obtain ⟨vs, rfl, hv⟩ := hx
    split at he
    · rename_i sz hs
      have hpt := zQr (P := P) fl.offset hs hv
      have lift : Yl P I w β (part fl.type vs.toArray fl.offset) d → Yl P I w β (Instr.field t (.agg vs.toArray) f) d := by
        rintro ⟨v, k1, k2⟩
        refine Yl.mk (v := v) (fun W => ?_) k2
        simp [Instr.field, Sem.run_bind, run_underlying h1, h2, asAgg, k1]
      refine lift ?_
      split at he <;> rename_i hag <;> simp only [Eff.lit.injEq] at he <;> obtain ⟨rfl, rfl⟩ := he
      · exact hpt.1 hag hp
      · exact hpt.2 (by simpa using hag) hp
    · cases he
  · cases he
theorem zNr {t : TypeId} {f : Nat} {x : D} {u : Value} {p : Prop} {d : D} (hx : Rel I w β x u) (he : zHt P t x f = .lit p d) : Yl P I w β (Instr.fieldAt t u f) d := by
  unfold zHt at he
  split at he
  · rename_i o ft hf
    obtain ⟨fs, fl, h1, h2, rfl, rfl⟩ := zKx hf
    have key : ∀ b o s (W : World), tySz P fl.type = some (s + 1) → (Instr.fieldAt t (.pointer (some ⟨b, o, none⟩)) f).run P W = .ok (.pointer (some ⟨b, o + fl.offset, none⟩)) W := by
      intro b o s W hs
      simp [Instr.fieldAt, Sem.run_bind, run_underlying h1, h2, Instr.sureAddr, fieldPlace, zB3 hs, Addr.add_mid]
    split at he
    · rename_i hs
      simp only [Rel] at hx
      obtain ⟨b, c, hb, rfl⟩ := hx
      simp only [Eff.lit.injEq] at he
      obtain ⟨rfl, rfl⟩ := he
      exact Yl.mk (key _ _ _ · hs) (by simp only [Rel]; exact ⟨b, c, hb, rfl⟩)
    · rename_i hs
      simp only [Rel] at hx
      obtain ⟨b, o, rfl, hb⟩ := hx
      simp only [Eff.lit.injEq] at he
      obtain ⟨rfl, rfl⟩ := he
      exact Yl.mk (key _ _ _ · hs) (by simp only [Rel]; exact ⟨b, _, rfl, hb.drop _⟩)
    · cases he
  · cases he
theorem zYs {t : TypeId} {x i : D} {u v : Value} {p : Prop} {d : D} (hx : Rel I w β x u) (hi : Rel I w β i v) (he : zYl P t x i = .lit p d) (hp : p) : Yl P I w β (Instr.index t u v) d := by
  unfold zYl at he
  split at he
  · rename_i k i
    simp only [Rel] at hi; subst hi
    split at he
    · rename_i n e cs hu
      simp only [Rel] at hx
      obtain ⟨vs, rfl, hv⟩ := hx
      split at he
      · rename_i sz hs
        have hpt := zQr (P := P) (i.toNat * sz) hs hv
        have lift : (0 ≤ i ∧ i < n) → Yl P I w β (part e vs.toArray (i.toNat * sz)) d → Yl P I w β (Instr.index t (.agg vs.toArray) (.int k i)) d := by
          rintro hb ⟨v, k1, k2⟩
          refine Yl.mk (v := v) (fun W => ?_) k2
          simp [Instr.index, asIntOf, Sem.run_bind, run_underlying hu, hb, zB3 hs, k1]
        split at he <;> rename_i hag <;> simp only [Eff.lit.injEq] at he <;> obtain ⟨rfl, rfl⟩ := he
        · exact lift ⟨hp.1, hp.2.1⟩ (hpt.1 hag hp.2.2)
        · exact lift ⟨hp.1, hp.2.1⟩ (hpt.2 (by simpa using hag) hp.2.2)
      · cases he
    · rename_i s hu
      simp only [Rel] at hx; subst hx
      simp only [Eff.lit.injEq] at he
      obtain ⟨rfl, rfl⟩ := he
      have hlt : i.toNat < s.data.size := by
        have : s.size = s.data.size := rfl
        omega
      refine Yl.mk (fun W => ?_) (Rel.valI _)
      have h1 : s[i.toNat]? = some (s.data.getD i.toNat 0) := by
        have h2 : i.toNat < s.size := hlt
        rw [getElem?_pos s i.toNat h2]
        simp only [Array.getD]
        rw [dif_pos hlt]
        rfl
      simp [Instr.index, asIntOf, Sem.run_bind, run_underlying hu, hp.1, h1]
    · cases he
  · cases he
theorem zNq {t : TypeId} {x i : D} {u v : Value} {p : Prop} {d : D} (hx : Rel I w β x u) (hi : Rel I w β i v) (he : zHs P t x i = .lit p d) (hp : p) : Yl P I w β (Instr.indexAt t u v) d := by
  unfold zHs at he
  split at he
  · rename_i k i
    simp only [Rel] at hi; subst hi
    split at he
    · rename_i e hu
      have key : ∀ b o n cap sz (W : World), 0 ≤ i → i < (n : Nat) → tySz P e = some sz → (Instr.indexAt t (.slice (some ⟨b, o, none⟩) n cap) (.int k i)).run P W = .ok (.pointer (some ⟨b, o + i.toNat * sz, none⟩)) W := by
        intro b o n cap sz W h1 h2 hs
        simp [Instr.indexAt, asIntOf, Sem.run_bind, run_underlying hu, h1, h2, zB3 hs, Addr.add_mid]
      split at he
      · rename_i k' off n m wh sz hs
        simp only [Eff.lit.injEq] at he
        obtain ⟨rfl, rfl⟩ := he
        simp only [Rel] at hx
        rcases hx with ⟨rfl, _⟩ | ⟨rfl, _⟩ | ⟨b, c, cap, hb, rfl, _⟩
        · omega
        · omega
        · exact Yl.mk (key _ _ _ _ _ · hp.1 hp.2 hs) (by simp only [Rel]; exact ⟨b, c, hb, rfl⟩)
      · rename_i cs n sz hs
        simp only [Eff.lit.injEq] at he
        obtain ⟨rfl, rfl⟩ := he
        simp only [Rel] at hx
        obtain ⟨ad, cap, rfl, h1, h2, h3, h4 | ⟨b, o, rfl, h4⟩⟩ := hx
        · exact absurd h4 hp.2.2
        · exact Yl.mk (key _ _ _ _ _ · hp.1 hp.2.1 hs) (by simp only [Rel]; exact ⟨b, _, rfl, h4.drop _⟩)
      · cases he
    · rename_i n e hu
      have key : ∀ b o sz (W : World), 0 ≤ i → i < (n : Nat) → tySz P e = some sz → (Instr.indexAt t (.pointer (some ⟨b, o, none⟩)) (.int k i)).run P W = .ok (.pointer (some ⟨b, o + i.toNat * sz, none⟩)) W := by
        intro b o sz W h1 h2 hs
        simp [Instr.indexAt, asIntOf, Sem.run_bind, run_underlying hu, h1, h2, zB3 hs, Addr.add_mid, Instr.sureAddr]
      split at he
      · rename_i k' off sz hs
        simp only [Eff.lit.injEq] at he
        obtain ⟨rfl, rfl⟩ := he
        simp only [Rel] at hx
        obtain ⟨b, c, hb, rfl⟩ := hx
        exact Yl.mk (key _ _ _ · hp.1 hp.2 hs) (by simp only [Rel]; exact ⟨b, c, hb, rfl⟩)
      · rename_i cs sz hs
        simp only [Eff.lit.injEq] at he
        obtain ⟨rfl, rfl⟩ := he
        simp only [Rel] at hx
        obtain ⟨b, o, rfl, hb⟩ := hx
        exact Yl.mk (key _ _ _ · hp.1 hp.2 hs) (by simp only [Rel]; exact ⟨b, _, rfl, hb.drop _⟩)
      · cases he
    · cases he
  · cases he
end
end
section
open Go.RowKit
section
variable {P : Program} {T : Par} {I : Im} {w : World} {β : Be} {sl : List D} {st : List Bk} {a : Act}
theorem zC5 {v : Value} {k : IntKind} {i : Int} (hv : v = .int k i) {y : Nat} (h0 : 0 ≤ i) (h1 : i.toNat ≤ y) (code : BoundsCode) (W : World) : (Instr.sliceBound v y code).run P W = .ok i.toNat W := by
 subst hv
 have : i ≤ (y : Int) := by omega
 simp [Instr.sliceBound, asIntOf, Sem.run_bind, h0, this]
theorem zDc {x : Option D} {u : Option Value} {y : Nat} {p : Prop} {n : Nat} (hn : x.isSome = u.isSome) (hx : ∀ d v, x = some d → u = some v → Rel I w β d v) (h : zG1 x y = some (p, n)) (hp : p) :
  (x = none ∧ u = none ∧ n = y) ∨ ∃ k i, u = some (.int k i) ∧ 0 ≤ i ∧ n = i.toNat := by
 unfold zG1 at h
 split at h
 ·cases u with
  | none => cases h; exact .inl ⟨rfl, rfl, rfl⟩
  | some v => simp at hn
 ·rename_i k i
  cases u with
  | none => simp at hn
  | some v =>
   have := hx _ _ rfl rfl
   simp only [Rel] at this
   cases h
   subst this
   exact .inr ⟨k, i, rfl, hp, rfl⟩
 ·cases h
theorem zB4 {b : Bool} {len cap l h c : Nat} {lo hi mx : Option Value} (hlo : (lo = none ∧ l = 0) ∨ ∃ k i, lo = some (.int k i) ∧ 0 ≤ i ∧ l = i.toNat)
  (hhi : (hi = none ∧ h = len ∧ mx = none) ∨ ∃ k i, hi = some (.int k i) ∧ 0 ≤ i ∧ h = i.toNat)
  (hmx : (mx = none ∧ c = cap) ∨ ∃ k i, mx = some (.int k i) ∧ 0 ≤ i ∧ h = i.toNat ∧ c = h) (h1 : l ≤ h) (h2 : h ≤ cap) (W : World) :
  (Instr.sliceBounds b len cap lo hi mx).run P W = .ok (l, h, c) W := by
 rcases hmx with ⟨rfl, rfl⟩ | ⟨km, im, rfl, hm1, hm2, rfl⟩
 ·rcases hhi with ⟨rfl, rfl, _⟩ | ⟨kh, ih, rfl, hh1, rfl⟩
  ·rcases hlo with ⟨rfl, rfl⟩ | ⟨kl, il, rfl, hl1, rfl⟩
   ·simp [Instr.sliceBounds]
   ·simp [Instr.sliceBounds, Sem.run_bind, zC5 rfl hl1 h1]
  ·rcases hlo with ⟨rfl, rfl⟩ | ⟨kl, il, rfl, hl1, rfl⟩
   ·simp [Instr.sliceBounds, Sem.run_bind, zC5 rfl hh1 h2]
   ·simp [Instr.sliceBounds, Sem.run_bind, zC5 rfl hh1 h2, zC5 rfl hl1 h1]
 ·rcases hhi with ⟨_, _, h3⟩ | ⟨kh, ih, rfl, hh1, rfl⟩
  ·cases h3
  ·have e1 := fun W => zC5 (P := P) (v := .int km im) rfl hm1 (y := cap) (by omega) (if b then .slice3Acap else .slice3Alen) W
   have e2 := fun W => zC5 (P := P) (v := .int kh ih) rfl hh1 (y := im.toNat) (by omega) .slice3B W
   rcases hlo with ⟨rfl, rfl⟩ | ⟨kl, il, rfl, hl1, rfl⟩
   ·simp [Instr.sliceBounds, Sem.run_bind, e1, e2, hm2]
   ·have e3 := fun W => zC5 (P := P) (v := .int kl il) rfl hl1 (y := im.toNat) (by omega) .slice3C W
    simp [Instr.sliceBounds, Sem.run_bind, e1, e2, e3, hm2]
theorem zYr {t : TypeId} {x : D} {u : Value} {lo hi mx : Option D} {lv hv mv : Option Value} {p : Prop} {d : D} (hx : Rel I w β x u)
  (n1 : lo.isSome = lv.isSome) (n2 : hi.isSome = hv.isSome) (n3 : mx.isSome = mv.isSome)
  (r1 : ∀ d v, lo = some d → lv = some v → Rel I w β d v) (r2 : ∀ d v, hi = some d → hv = some v → Rel I w β d v) (r3 : ∀ d v, mx = some d → mv = some v → Rel I w β d v)
  (hnm : mx.isSome = true → hi.isSome = true) (he : zYk P t x lo hi mx = .lit p d) (hp : p) : Yl P I w β (Instr.sliceAt t u lv hv mv) d := by
 unfold zYk at he
 split at he
 ·cases he
 ·rename_i pl l hlo
  have L := fun hpl => zDc n1 r1 hlo hpl
  have L' : pl → (lv = none ∧ l = 0) ∨ ∃ k i, lv = some (.int k i) ∧ 0 ≤ i ∧ l = i.toNat := fun hpl => (L hpl).imp (fun h => ⟨h.2.1, h.2.2⟩) id
  split at he
  ·rename_i s hu
   simp only [Rel] at hx; subst hx
   split at he
   ·rename_i ph h hhi
    simp only [Eff.lit.injEq] at he
    obtain ⟨rfl, rfl⟩ := he
    obtain ⟨hp1, hp2, hp3, hp4⟩ := hp
    have hm : mv = none := by cases mv <;> simp_all
    subst hm
    have H := zDc n2 r2 hhi hp2
    have H' : (hv = none ∧ h = s.size ∧ (none : Option Value) = none) ∨ ∃ k i, hv = some (.int k i) ∧ 0 ≤ i ∧ h = i.toNat := H.imp (fun h => ⟨h.2.1, h.2.2, rfl⟩) id
    refine Yl.mk (fun W => ?_) (Rel.valI _)
    have hb := zB4 (P := P) (b := false) (cap := s.size) (L' hp1) H' (.inl ⟨rfl, rfl⟩) hp3 hp4 W
    simp [Instr.sliceAt, Instr.slice, Sem.run_bind, run_underlying hu, hb]
   ·cases he
  ·rename_i e k off n m wh hu
   split at he
   ·rename_i ph h sz hhi hs
    split at he
    ·rename_i pm c hmx
     simp only [Eff.lit.injEq] at he
     obtain ⟨rfl, rfl⟩ := he
     obtain ⟨hp1, hp2, hp3, hp4, hp5, hp6, rfl⟩ := hp
     have H := zDc n2 r2 hhi hp2
     have M := zDc n3 r3 hmx hp3
     have key : ∀ (ad : Option Addr) (cap : Nat) (W : World), n ≤ cap → ∃ c', (Instr.sliceAt t (.slice ad n cap) lv hv mv).run P W = .ok (.slice (if c' = l then ad else ad.map (·.add (l * sz))) (c - l) (c' - l)) W ∧ c ≤ c' ∧ c' ≤ cap ∧ (mx = none → c' = cap) := by
      intro ad cap W hcap
      have H' : (hv = none ∧ c = n ∧ mv = none) ∨ ∃ k i, hv = some (.int k i) ∧ 0 ≤ i ∧ c = i.toNat := by
       rcases H with ⟨h1, h2, h3⟩ | h
       ·left
        refine ⟨h2, h3, ?_⟩
        cases hm : mx with
        | none => rw [hm] at n3; cases mv <;> simp_all
        | some z => have := hnm (by rw [hm]; rfl); rw [h1] at this; simp at this
       ·exact .inr h
      rcases M with ⟨m1, m2, m3⟩ | ⟨km, im, m1, m2, m3⟩
      ·have hb := zB4 (P := P) (b := true) (cap := cap) (c := cap) (L' hp1) H' (.inl ⟨m2, rfl⟩) hp5 (by omega) W
       exact ⟨cap, by simp [Instr.sliceAt, Instr.slice, Sem.run_bind, run_underlying hu, hb, zB3 hs], by omega, by omega, fun _ => rfl⟩
      ·have hb := zB4 (P := P) (b := true) (cap := cap) (c := c) (L' hp1) H' (.inr ⟨km, im, m1, m2, m3, rfl⟩) hp5 (by omega) W
       refine ⟨c, by simp [Instr.sliceAt, Instr.slice, Sem.run_bind, run_underlying hu, hb, zB3 hs], by omega, by omega, fun hm => ?_⟩
       rw [hm, m1] at n3; simp at n3
     have key2 : ∀ (ad : Option Addr) (cap : Nat), n ≤ cap → ∃ c', (∀ W, (Instr.sliceAt t (.slice ad n cap) lv hv mv).run P W = .ok (.slice (if c' = l then ad else ad.map (·.add (l * sz))) (c - l) (c' - l)) W) ∧ c ≤ c' ∧ c' ≤ cap ∧ (mx = none → c' = cap) := by
      intro ad cap hcap
      obtain ⟨c1, _, h2, h3, h4⟩ := key ad cap w hcap
      rcases M with ⟨m1, m2, m3⟩ | ⟨km, im, m1, m2, m3⟩
      ·refine ⟨cap, fun W => ?_, by omega, by omega, fun _ => rfl⟩
       obtain ⟨c2, k1, _, _, k4⟩ := key ad cap W hcap
       rw [k1, k4 m1]
      ·refine ⟨c, fun W => ?_, by omega, by omega, fun hm => ?_⟩
       ·have H' : (hv = none ∧ c = n ∧ mv = none) ∨ ∃ k i, hv = some (.int k i) ∧ 0 ≤ i ∧ c = i.toNat := by
         rcases H with ⟨h1, h2, h3⟩ | h
         ·have := hnm (by rw [n3, m1]; rfl); rw [h1] at this; simp at this
         ·exact .inr h
        have hb := zB4 (P := P) (b := true) (cap := cap) (c := c) (L' hp1) H' (.inr ⟨km, im, m1, m2, m3, rfl⟩) hp5 (by omega) W
        simp [Instr.sliceAt, Instr.slice, Sem.run_bind, run_underlying hu, hb, zB3 hs]
       ·rw [hm, m1] at n3; simp at n3
     simp only [Rel] at hx
     rcases hx with ⟨rfl, _, rfl⟩ | ⟨rfl, _, rfl, ad, cc, rfl, hc1, hc2⟩ | ⟨b, c0, cap, hb, rfl, h1, h2, h3⟩
     ·obtain ⟨c', k1, k2, k3, k4⟩ := key2 none 0 (by omega)
      have e1 : c = 0 := by omega
      have e2 : l = 0 := by omega
      have e3 : c' = 0 := by omega
      subst e1; subst e2; subst e3
      exact Yl.mk k1 (by simp only [Rel]; exact .inl (by simp))
     ·obtain ⟨c', k1, k2, k3, k4⟩ := key2 ad cc (by omega)
      have e1 : c = 0 := by omega
      have e2 : l = 0 := by omega
      subst e1; subst e2
      refine Yl.mk k1 ?_
      simp only [Rel]
      refine .inr (.inl ⟨by simp, by simp, by simp, _, _, rfl, by omega, fun h => ?_⟩)
      rcases Nat.eq_zero_or_pos c' with h0 | h0
      ·omega
      ·rw [if_neg (by omega)] at h
       cases ad with
       | none => have := hc2 rfl; omega
       | some _ => simp at h
     ·obtain ⟨c', k1, k2, k3, k4⟩ := key2 (some ⟨b, off, none⟩) cap h1
      refine Yl.mk k1 ?_
      simp only [Rel]
      by_cases hcl : c' = l
      ·have e1 : c = l := by omega
       rw [if_pos hcl]
       by_cases hwh : (wh && mx.isNone && lo.isNone) = true
       ·simp only [Bool.and_eq_true, Option.isNone_iff_eq_none] at hwh
        obtain ⟨⟨w1, w2⟩, w3⟩ := hwh
        obtain ⟨rfl, rfl⟩ := h3 w1
        have e2 : l = 0 := by
         rcases L hp1 with ⟨_, _, h⟩ | ⟨k, i, h, _⟩
         ·exact h
         ·rw [w3, h] at n1; simp at n1
        refine .inr (.inr ⟨b, cap, c' - l, hb, by simp [e2], by omega, by omega, fun _ => ⟨by simp [e2], ?_⟩⟩)
        have := k4 w2
        omega
       ·refine .inr (.inl ⟨by omega, by rw [show c - l = 0 by omega]; simp, by cases hz : (wh && mx.isNone && lo.isNone) <;> simp_all, some ⟨b, off, none⟩, c' - l, ?_, by omega, fun h => by cases h⟩)
        rw [show c - l = 0 by omega]
      ·rw [if_neg hcl]
       refine .inr (.inr ⟨b, c0, c' - l, hb, by simp [Addr.add_mid], by omega, by omega, fun hwh => ?_⟩)
       simp only [Bool.and_eq_true, Option.isNone_iff_eq_none] at hwh
       obtain ⟨⟨w1, w2⟩, w3⟩ := hwh
       obtain ⟨rfl, rfl⟩ := h3 w1
       have e2 : l = 0 := by
        rcases L hp1 with ⟨_, _, h⟩ | ⟨k, i, h, _⟩
        ·exact h
        ·rw [w3, h] at n1; simp at n1
       have := k4 w2
       exact ⟨by simp [e2], by omega⟩
    ·cases he
   ·cases he
  ·rename_i e x hu hnos
   split at he
   ·rename_i cs n sz hrow hs
    split at he
    ·rename_i ph h hhi
     split at he
     ·rename_i pm c hmx
      simp only [Eff.lit.injEq] at he
      obtain ⟨rfl, rfl⟩ := he
      obtain ⟨hp1, hp2, hp3, hp4, hp5, hp6, rfl⟩ := hp
      have H := zDc n2 r2 hhi hp2
      have M := zDc n3 r3 hmx hp3
      have hx' : ∃ ad cap, u = .slice ad n cap ∧ n ≤ cap ∧ cap ≤ maxLen ∧ (ad = none → cap = 0) ∧ (cs = [] ∨ ∃ b o, ad = some ⟨b, o, none⟩ ∧ RelC I w cs b o) := by
       unfold asRow at hrow
       split at hrow
       ·cases hrow; simpa only [Rel] using hx
       ·cases hrow
        simp only [Rel] at hx
        subst hx
        exact ⟨none, 0, rfl, by omega, by simp [maxLen], fun _ => rfl, .inl rfl⟩
       ·cases hrow
      obtain ⟨ad, cap, rfl, h1, h2, h3, h4⟩ := hx'
      have H' : (hv = none ∧ c = n ∧ mv = none) ∨ ∃ k i, hv = some (.int k i) ∧ 0 ≤ i ∧ c = i.toNat := by
       rcases H with ⟨h1, h2, h3⟩ | h
       ·left
        refine ⟨h2, h3, ?_⟩
        cases hm : mx with
        | none => rw [hm] at n3; cases mv <;> simp_all
        | some z => have := hnm (by rw [hm]; rfl); rw [h1] at this; simp at this
       ·exact .inr h
      have fin : ∀ c', c ≤ c' → c' ≤ cap → Rel I w β (.row ((cs.drop (l * sz)).take ((c - l) * sz)) (c - l)) (.slice (if c' = l then ad else ad.map (·.add (l * sz))) (c - l) (c' - l)) := by
       intro c' k2 k3
       simp only [Rel]
       refine ⟨_, _, rfl, by omega, by omega, fun h => ?_, ?_⟩
       ·by_cases hcl : c' = l
        ·omega
        ·rw [if_neg hcl] at h
         cases ad with
         | none => have := h3 rfl; omega
         | some _ => simp at h
       ·by_cases hcl : c' = l
        ·left
         have : c - l = 0 := by omega
         simp [this]
        ·rw [if_neg hcl]
         rcases h4 with h4 | ⟨b, o, rfl, h4⟩
         ·left; simp [h4]
         ·exact .inr ⟨b, o + l * sz, by simp [Addr.add_mid], (h4.drop _).take _⟩
      rcases M with ⟨m1, m2, m3⟩ | ⟨km, im, m1, m2, m3⟩
      ·refine Yl.mk (fun W => ?_) (fin cap (by omega) (Nat.le_refl _))
       have hb := zB4 (P := P) (b := true) (cap := cap) (c := cap) (L' hp1) H' (.inl ⟨m2, rfl⟩) hp5 (by omega) W
       simp [Instr.sliceAt, Instr.slice, Sem.run_bind, run_underlying hu, hb, zB3 hs]
      ·refine Yl.mk (fun W => ?_) (fin c (Nat.le_refl _) (by omega))
       have hb := zB4 (P := P) (b := true) (cap := cap) (c := c) (L' hp1) H' (.inr ⟨km, im, m1, m2, m3, rfl⟩) hp5 (by omega) W
       simp [Instr.sliceAt, Instr.slice, Sem.run_bind, run_underlying hu, hb, zB3 hs]
     ·cases he
    ·cases he
   ·cases he
  ·rename_i n e k off hu
   split at he
   ·rename_i sz ph h hs hhi
    simp only [Eff.lit.injEq] at he
    obtain ⟨rfl, rfl⟩ := he
    obtain ⟨hp1, hp2, hp3, hp4, hp5⟩ := hp
    have hl0 : lv = none := by cases lv <;> simp_all
    have hm0 : mv = none := by cases mv <;> simp_all
    subst hl0; subst hm0
    simp only [Rel] at hx
    obtain ⟨b, c, hb, rfl⟩ := hx
    have H := zDc n2 r2 hhi hp2
    have H' : (hv = none ∧ h = n ∧ (none : Option Value) = none) ∨ ∃ k i, hv = some (.int k i) ∧ 0 ≤ i ∧ h = i.toNat := H.imp (fun h => ⟨h.2.1, h.2.2, rfl⟩) id
    have e1 : (if n = 0 then (⟨b, off, none⟩ : Addr) else Addr.add ⟨b, off, none⟩ (0 * sz)) = ⟨b, off, none⟩ := by
     split
     ·rfl
     ·rw [Addr.add_mid]; simp
    refine Yl.mk (v := .slice (some ⟨b, off, none⟩) h n) (fun W => ?_) (by simp only [Rel]; exact .inr (.inr ⟨b, c, n, hb, rfl, hp4, hp5, fun h => by cases h⟩))
    have hbd := zB4 (P := P) (b := false) (cap := n) (l := 0) (.inl ⟨rfl, rfl⟩) H' (.inl ⟨rfl, rfl⟩) (Nat.zero_le _) hp4 W
    simp only [Instr.sliceAt, Sem.run_bind, run_underlying hu, Result.andThen_ok, Instr.sureAddr, Sem.run_pure, hbd, zB3 hs]
    rw [e1]; rfl
   ·cases he
  ·cases he
end
end
section
open Go.RowKit
section
variable {P : Program} {T : Par} {I : Im} {w : World} {β : Be} {sl : List D} {st : List Bk} {a : Act}
theorem yl_len {t ty : TypeId} {x : D} {u : Value} {ts : Array TypeId} {us : Array Value} {p : Prop} {d : D} (hx : Rel I w β x u) (ht : ts[0]? = some t) (hu : us[0]? = some u) (he : aLen P t x = .lit p d) : Yl P I w β (Builtin.len_ ts ty us) d := by
 unfold aLen at he
 split at he
 ·rename_i h1
  simp only [Rel] at hx
  obtain ⟨ad, cap, rfl, _⟩ := hx
  simp only [Eff.lit.injEq] at he
  obtain ⟨rfl, rfl⟩ := he
  exact Yl.mk (fun W => by simp [Builtin.len_, ht, hu, Sem.run_bind, run_underlying h1, goInt]) (Rel.valI _)
 ·rename_i h1
  simp only [Eff.lit.injEq] at he
  obtain ⟨rfl, rfl⟩ := he
  simp only [Rel] at hx
  rcases hx with ⟨rfl, _, rfl⟩ | ⟨rfl, _, _, _, _, rfl, _⟩ | ⟨_, _, _, _, rfl, _⟩ <;>
  exact Yl.mk (fun W => by simp [Builtin.len_, ht, hu, Sem.run_bind, run_underlying h1, goInt]) (Rel.valI _)
 ·rename_i h1
  simp only [Rel] at hx; subst hx
  simp only [Eff.lit.injEq] at he
  obtain ⟨rfl, rfl⟩ := he
  exact Yl.mk (fun W => by simp [Builtin.len_, ht, hu, Sem.run_bind, run_underlying h1, goInt]) (Rel.valI _)
 ·rename_i h1
  simp only [Rel] at hx; subst hx
  simp only [Eff.lit.injEq] at he
  obtain ⟨rfl, rfl⟩ := he
  exact Yl.mk (fun W => by simp [Builtin.len_, ht, hu, Sem.run_bind, run_underlying h1, goInt]) (Rel.valI _)
 ·rename_i h1
  simp only [Eff.lit.injEq] at he
  obtain ⟨rfl, rfl⟩ := he
  exact Yl.mk (fun W => by simp [Builtin.len_, ht, hu, Sem.run_bind, run_underlying h1, goInt]) (Rel.valI _)
 ·rename_i arr h1
  split at he
  ·rename_i n e h2
   simp only [Eff.lit.injEq] at he
   obtain ⟨rfl, rfl⟩ := he
   exact Yl.mk (fun W => by simp [Builtin.len_, ht, hu, Sem.run_bind, run_underlying h1, run_underlying h2, goInt]) (Rel.valI _)
  ·cases he
 ·cases he
theorem zBs {t : TypeId} {z : List D} (h : zDq P t = some z) : ∃ i v, P.info? t = some i ∧ i.zero = some v ∧ RelL I w β z v.cells.toList ∧ z = v.cells.toList.map .val ∧ ∀ u ∈ v.cells.toList, u.oneCell' = true := by
 unfold zDq at h
 split at h
 ·cases h
 ·rename_i i hi
  split at h
  ·cases h
  ·rename_i v hz
   split at h
   ·rename_i hall
    cases h
    have h1 : ∀ u ∈ v.cells.toList, u.oneCell' = true := fun u hu => List.all_eq_true.1 hall u hu
    refine ⟨i, v, hi, hz, ?_, rfl, h1⟩
    generalize v.cells.toList = l at h1
    induction l with
    | nil => simp only [List.map_nil, RelL]
    | cons u l ih => simp only [List.map_cons, RelL]; exact ⟨u, l, rfl, h1 u (List.mem_cons_self ..), Rel.valI u, ih (fun x hx => h1 x (List.mem_cons_of_mem _ hx))⟩
   ·cases h
theorem zDf {t : TypeId} {i : TypeInfo} {v : Value} (h1 : P.info? t = some i) (h2 : i.zero = some v) (W : World) : (zeroValue t).run P W = .ok v W := by
 simp [zeroValue, typeInfo, h1, h2]
theorem zGn (h : RelT I w β sl a.tmps.toList) (ps : List (Nat × Operand)) : ∀ (j : Nat) i d i' v, (ps.map fun p => (p.1, evD sl p.2))[j]? = some (i, d) → (ps.map fun p => (p.1, a.eval p.2))[j]? = some (i', v) → i' = i ∧ Rel I w β d v := by
 intro j i d i' v h1 h2
 rw [List.getElem?_map] at h1 h2
 cases hp : ps[j]? with
 | none => simp [hp] at h1
 | some p =>
  simp [hp] at h1 h2
  obtain ⟨rfl, rfl⟩ := h1
  obtain ⟨rfl, rfl⟩ := h2
  exact ⟨rfl, zAb h p.2⟩
theorem zHb {fs : List Field} (h : fs.all (fun f => (tySz P f.type).isSome) = true) (W : World) : ∃ l : List (Nat × Nat), (fs.mapM (m := Sem) fun f => do pure (f.offset, ← sizeOf f.type)).run P W = .ok l W ∧ l.length = fs.length ∧
  ∀ (i : Nat) f s, fs[i]? = some f → tySz P f.type = some s → l[i]? = some (f.offset, s) := by
 induction fs with
 | nil => exact ⟨[], by simp, rfl, by simp⟩
 | cons f fs ih =>
  simp only [List.all_cons, Bool.and_eq_true, Option.isSome_iff_exists] at h
  obtain ⟨⟨s, hs⟩, h2⟩ := h
  obtain ⟨l, k1, k2, k3⟩ := ih (by simpa using h2)
  refine ⟨(f.offset, s) :: l, ?_, by simp [k2], fun i g s' hg hs' => ?_⟩
  ·have : (do pure (f.offset, ← sizeOf f.type) : Sem (Nat × Nat)).run P W = .ok (f.offset, s) W := by simp [Sem.run_bind, zB3 hs]
   rw [List.mapM_cons, Sem.run_bind, this]
   simp only [Result.andThen_ok, Sem.run_bind, k1, Sem.run_pure]
  ·cases i with
   | zero => simp at hg; subst hg; rw [hs] at hs'; cases hs'; rfl
   | succ i => simpa using k3 i g s' (by simpa using hg) hs'
theorem zBk {α γ : Type} (fs : Array α) (g : α → Sem γ) (l : List γ) (W : World) (h : (fs.toList.mapM g).run P W = .ok l W) : (fs.mapM g).run P W = .ok l.toArray W := by
 rw [Array.mapM_eq_mapM_toList]
 show ((fs.toList.mapM g) >>= fun x => pure x.toArray).run P W = _
 rw [Sem.run_bind, h]; rfl
theorem zYu (h : RelT I w β sl a.tmps.toList) {t : TypeId} {parts : Array (Nat × Operand)} {p : Prop} {d : D} (he : zYn P t (parts.toList.map fun p => (p.1, evD sl p.2)) = .lit p d) (hp : p) :
  Yl P I w β (Instr.build t (parts.map fun (i, x) => (i, a.eval x))) d := by
 have hlist : (parts.map fun (i, x) => (i, a.eval x)).toList = parts.toList.map fun p => (p.1, a.eval p.2) := by simp
 unfold zYn at he
 split at he
 ·rename_i z fs hz hu
  obtain ⟨i, v, h1, h2, h3, h4, h5⟩ := zBs (I := I) (w := w) (β := β) hz
  split at he
  ·rename_i q cs hf
   simp only [Eff.lit.injEq] at he
   obtain ⟨rfl, rfl⟩ := he
   have hfin : ∀ W : World, ∃ ys, RelL I w β cs ys ∧ (Instr.build t (parts.map fun (i, x) => (i, a.eval x))).run P W = .ok (.agg ys.toArray) W ∧ ∀ W' : World, (Instr.build t (parts.map fun (i, x) => (i, a.eval x))).run P W' = .ok (.agg ys.toArray) W' := by
    intro W
    have key : ∀ W : World, ∃ l : List (Nat × Nat), (fs.mapM (m := Sem) fun f => do pure (f.offset, ← sizeOf f.type)).run P W = .ok l.toArray W ∧ ∀ (i : Nat) f s, fs[i]? = some f → tySz P f.type = some s → l[i]? = some (f.offset, s) := by
     intro W
     obtain ⟨l, k1, _, k3⟩ := zHb (P := P) (fs := fs.toList) (by simpa using hp.2) W
     refine ⟨l, ?_, fun i f s hf hs => k3 i f s (by simpa using hf) hs⟩
     exact zBk fs _ l W k1
    obtain ⟨l, l1, l2⟩ := key W
    obtain ⟨ys, k1, k2⟩ := zFn (I := I) (w := w) (β := β) (place' := fun i => l.toArray[i]?) (fun i x hx => by
     cases hfi : fs[i]? with
     | none => simp [hfi] at hx
     | some f =>
      simp only [hfi, Option.bind_some] at hx
      cases hs : tySz P f.type with
      | none => simp [hs] at hx
      | some s => simp [hs] at hx; subst hx; simpa using l2 i f s hfi hs) _ (parts.toList.map fun p => (p.1, a.eval p.2)) z v.cells.toList q cs (by simp) (zGn h parts.toList) h3 hf hp.1
    have all : ∀ W', (fs.mapM (m := Sem) fun f => do pure (f.offset, ← sizeOf f.type)).run P W' = .ok l.toArray W' := by
     intro W'
     obtain ⟨l', l1', l2'⟩ := key W'
     have : l' = l := by
      obtain ⟨m, m1, m2, m3⟩ := zHb (P := P) (fs := fs.toList) (by simpa using hp.2) W
      obtain ⟨m', m1', m2', m3'⟩ := zHb (P := P) (fs := fs.toList) (by simpa using hp.2) W'
      have e1 : l = m := by
       have : (fs.mapM (m := Sem) fun f => do pure (f.offset, ← sizeOf f.type)).run P W = .ok m.toArray W := by
        exact zBk fs _ m W m1
       rw [l1] at this
       simpa using this
      have e2 : l' = m' := by
       have : (fs.mapM (m := Sem) fun f => do pure (f.offset, ← sizeOf f.type)).run P W' = .ok m'.toArray W' := by
        exact zBk fs _ m' W' m1'
       rw [l1'] at this
       simpa using this
      rw [e1, e2]
      apply List.ext_getElem (by rw [m2, m2'])
      intro i hi hi'
      have hil : i < fs.toList.length := by omega
      have hsm : (tySz P fs.toList[i].type).isSome = true := by
       have := hp.2
       rw [← Array.all_toList] at this
       exact List.all_eq_true.1 this _ (List.getElem_mem hil)
      obtain ⟨s, hs⟩ := Option.isSome_iff_exists.1 hsm
      have a1 := m3 i _ s (List.getElem?_eq_getElem hil) hs
      have a2 := m3' i _ s (List.getElem?_eq_getElem hil) hs
      rw [List.getElem?_eq_getElem hi'] at a1
      rw [List.getElem?_eq_getElem hi] at a2
      rw [Option.some.inj a1, Option.some.inj a2]
     rw [l1', this]
    have run : ∀ W' : World, (Instr.build t (parts.map fun (i, x) => (i, a.eval x))).run P W' = .ok (.agg ys.toArray) W' := by
     intro W'
     simp only [Instr.build, Sem.run_bind, zDf h1 h2, Result.andThen_ok, run_underlying hu, all W', hlist]
     have : v.cells = v.cells.toList.toArray := by simp
     rw [this, k1]
     rfl
    exact ⟨ys, k2, run W, run⟩
   obtain ⟨ys, k1, _, k3⟩ := hfin w
   exact Yl.mk k3 (by simp only [Rel]; exact ⟨ys, rfl, k1⟩)
  ·cases he
 ·rename_i z n e hz hu
  obtain ⟨i, v, h1, h2, h3, h4, h5⟩ := zBs (I := I) (w := w) (β := β) hz
  split at he
  ·rename_i sz hs
   split at he
   ·rename_i q cs hf
    simp only [Eff.lit.injEq] at he
    obtain ⟨rfl, rfl⟩ := he
    obtain ⟨ys, k1, k2⟩ := zFn (I := I) (w := w) (β := β) (place' := fun i => some (i * sz, sz)) (fun i x hx => hx) _ (parts.toList.map fun p => (p.1, a.eval p.2)) z v.cells.toList q cs (by simp) (zGn h parts.toList) h3 hf hp
    refine Yl.mk (v := .agg ys.toArray) (fun W' => ?_) (by simp only [Rel]; exact ⟨ys, rfl, k2⟩)
    simp only [Instr.build, Sem.run_bind, zDf h1 h2, Result.andThen_ok, run_underlying hu, zB3 hs, hlist]
    have : v.cells = v.cells.toList.toArray := by simp
    rw [this, k1]
    rfl
   ·cases he
  ·cases he
 ·cases he
theorem zKo (h : RelT I w β sl a.tmps.toList) (o : Oper) (hl : zV T o.op = true) {p : Prop} {d : D} (he : aeff P T o.op o.type (evD sl) st = .lit p d) (hp : p) :
  ∃ v, (∀ W : World, (execOp a.eval o).run P W = .ok (.value v) W) ∧ Rel I w β d v := by
 have up : ∀ s : Sem Value, Yl P I w β s d → ∃ v, (∀ W : World, (do pure (.value (← s)) : Sem Next).run P W = .ok (.value v) W) ∧ Rel I w β d v := by
  rintro s ⟨v, h1, h2⟩
  exact ⟨v, fun W => by rw [Sem.run_bind, h1 W]; rfl, h2⟩
 unfold execOp
 generalize ho : o.op = op at hl he
 cases op with
 | move x => simp only [aeff, Eff.lit.injEq] at he; obtain ⟨rfl, rfl⟩ := he; exact ⟨a.eval x, fun W => rfl, zAb h x⟩
 | assign x => simp only [aeff, Eff.lit.injEq] at he; obtain ⟨rfl, rfl⟩ := he; exact ⟨a.eval x, fun W => rfl, zAb h x⟩
 | pick c x y =>
  simp only [aeff] at he
  split at he
  ·rename_i t ht
   have hc := zAb h c
   rw [ht] at hc
   simp only [Rel] at hc
   simp only [Eff.lit.injEq] at he
   obtain ⟨rfl, rfl⟩ := he
   refine ⟨if t then a.eval x else a.eval y, fun W => by simp [hc, asBool], ?_⟩
   cases t
   ·exact zAb h y
   ·exact zAb h x
  ·cases he
 | build t parts => exact up _ (zYu h he hp)
 | nilCheck x =>
  simp only [aeff] at he
  have hx := zAb h x
  split at he
  ·rename_i cs hc
   rw [hc] at hx
   have hx' := hx
   simp only [Rel] at hx
   obtain ⟨b, o, hv, _⟩ := hx
   simp only [Eff.lit.injEq] at he
   obtain ⟨rfl, rfl⟩ := he
   exact ⟨_, fun W => by simp only [hv]; rfl, hv ▸ hx'⟩
  ·rename_i hc
   rw [hc] at hx
   have hx' := hx
   simp only [Rel] at hx
   obtain ⟨b, o, _, hv⟩ := hx
   simp only [Eff.lit.injEq] at he
   obtain ⟨rfl, rfl⟩ := he
   exact ⟨_, fun W => by simp only [hv]; rfl, hv ▸ hx'⟩
  ·rename_i hc
   rw [hc] at hx
   have hx' := hx
   simp only [Rel] at hx
   obtain ⟨u, hv, _⟩ := hx
   simp only [Eff.lit.injEq] at he
   obtain ⟨rfl, rfl⟩ := he
   exact ⟨_, fun W => by simp only [hv]; rfl, hv ▸ hx'⟩
  ·rename_i hc
   rw [hc] at hx
   have hx' := hx
   simp only [Rel] at hx
   obtain ⟨u, u', hv, _⟩ := hx
   simp only [Eff.lit.injEq] at he
   obtain ⟨rfl, rfl⟩ := he
   exact ⟨_, fun W => by simp only [hv]; rfl, hv ▸ hx'⟩
  ·rename_i nm ty dd xs ys hc
   rw [hc] at hx
   have hx' := hx
   simp only [Rel, RelT] at hx
   obtain ⟨vs, us, hv, ⟨v0, vs', rfl, ⟨u0, rfl, _⟩, _⟩, _⟩ := hx
   split at he
   ·rename_i hm
    obtain ⟨ff, hm⟩ := Option.isSome_iff_exists.1 hm
    simp only [Eff.lit.injEq] at he
    obtain ⟨rfl, rfl⟩ := he
    obtain ⟨n, hn⟩ : ∃ n, P.types.size + Made.depth = n + 1 := ⟨P.types.size + Made.depth - 1, by have : Made.depth = 100 := rfl; omega⟩
    refine ⟨_, fun W => ?_, hv ▸ hx'⟩
    simp only [hv]
    have h0 : ((Value.iface ty u0 :: vs').toArray)[0]? = some (.iface ty u0) := by simp
    simp only [h0, Sem.run_bind]
    rw [show (program : Sem Program).run P W = .ok P W from rfl]
    simp only [Result.andThen_ok, hn, zPn hm n u0 W]
    simp
   ·cases he
  ·cases he
 | binOp op t x y t' => exact up _ (yl_bin (zAb h x) (zAb h y) he hp x y)
 | unOp op t x => exact up _ (yl_un (zAb h x) he)
 | convert s t x =>
  simp only [zV, Bool.not_eq_true'] at hl
  simp only [aeff, hl, Bool.false_eq_true, if_false] at he
  exact up _ (yl_conv (zAb h x) he)
 | makeInterface t x =>
  simp only [aeff] at he
  split at he
  ·cases he
  ·rename_i ds hu hds
   simp only [Eff.lit.injEq] at he
   obtain ⟨rfl, rfl⟩ := he
   refine up _ (Yl.mk (v := .iface t (a.eval x)) (fun W => ?_) (by simp only [Rel]; exact ⟨_, rfl, zAb h x⟩))
   simp only [Instr.makeInterface, Sem.run_bind, run_underlying hds, Result.andThen_ok]
   rfl
  ·cases he
 | makeFunc fn x y =>
  simp only [aeff, Eff.lit.injEq] at he
  obtain ⟨rfl, rfl⟩ := he
  refine up _ (Yl.mk (v := .func fn (x.map a.eval) (y.map a.eval)) (fun W => rfl) ?_)
  simp only [Rel]
  refine ⟨x.toList.map a.eval, y.toList.map a.eval, ?_, zHm h _, zHm h _⟩
  rw [← Array.toList_map, ← Array.toList_map]
 | slice t x lo hi mx =>
  simp only [aeff] at he
  split at he
  ·cases he
  rename_i hmx
  refine up _ (zYr (zAb h x) (by simp) (by simp) (by simp) ?_ ?_ ?_ (by cases hi <;> cases mx <;> simp_all) he hp)
  all_goals
   intro d v h1 h2
   simp only [Option.map_eq_some_iff] at h1 h2
   obtain ⟨y, hy, rfl⟩ := h1
   obtain ⟨y', hy', rfl⟩ := h2
   rw [hy] at hy'; cases hy'
   exact zAb h y
 | fieldAddr t x f => exact up _ (zNr (zAb h x) he)
 | field t x f => exact up _ (zYt (zAb h x) he hp)
 | indexAddr t x i => exact up _ (zNq (zAb h x) (zAb h i) he hp)
 | index t x i => exact up _ (zYs (zAb h x) (zAb h i) he hp)
 | extract x i =>
  simp only [aeff] at he
  split at he
  ·rename_i cs hc
   have hx := zAb h x
   rw [hc] at hx
   simp only [Rel] at hx
   obtain ⟨vs, hv, hr⟩ := hx
   simp only [Eff.lit.injEq] at he
   obtain ⟨rfl, rfl⟩ := he
   obtain ⟨v, h1, h2⟩ := hr.get i cs[i] (by simp [hp])
   refine up _ (Yl.mk (v := v) (fun W => by simp [Instr.extract, hv, h1]) ?_)
   rw [List.getD_eq_getElem?_getD, List.getElem?_eq_getElem hp]
   exact h2
  ·cases he
 | call c =>
  obtain ⟨callee, args, ts⟩ := c
  cases callee with
  | value f => simp [zV] at hl
  | invoke r n => simp [zV] at hl
  | builtin b =>
   cases b <;> simp only [zV, Bool.false_eq_true, Bool.not_eq_true'] at hl
   ·simp only [aeff, hl, Bool.false_eq_true, if_false] at he
    split at he
    ·rename_i t _ x _ h1 h2
     obtain ⟨v, k1, k2⟩ := yl_len (P := P) (ty := o.type) (ts := ts) (us := args.map a.eval) (zAb h x) (by rw [← Array.getElem?_toList, h1]; rfl) (by rw [← Array.getElem?_toList, Array.toList_map, h2]; rfl) he
     exact ⟨v, fun W => by simp only [resolve, Sem.run_bind, Sem.run_pure, Result.andThen_ok, invoke, builtin, k1], k2⟩
    ·cases he
   ·simp only [aeff] at he
    split at he
    ·rename_i k x k' y hm
     have hr := zHm h args.toList
     rw [hm] at hr
     simp only [RelT, Rel] at hr
     obtain ⟨_, _, e1, rfl, _, _, rfl, rfl, rfl⟩ := hr
     simp only [Eff.lit.injEq] at he
     obtain ⟨rfl, rfl⟩ := he
     refine ⟨_, fun W => ?_, Rel.valI _⟩
     simp [resolve, Sem.run_bind, invoke, builtin, Builtin.max_, e1, Builtin.max2]
    ·cases he
   ·simp only [aeff] at he
    split at he
    ·rename_i k x k' y hm
     have hr := zHm h args.toList
     rw [hm] at hr
     simp only [RelT, Rel] at hr
     obtain ⟨_, _, e1, rfl, _, _, rfl, rfl, rfl⟩ := hr
     simp only [Eff.lit.injEq] at he
     obtain ⟨rfl, rfl⟩ := he
     refine ⟨_, fun W => ?_, Rel.valI _⟩
     simp [resolve, Sem.run_bind, invoke, builtin, Builtin.min_, e1, Builtin.min2]
    ·cases he
 | _ => simp [zV] at hl
end
end
section
open Go.RowKit
section
variable {P : Program} {T : Par} {I I' : Im} {w w' : World} {β β' : Be} {sl : List D} {st : List Bk} {a : Act}
theorem Fix.ext (h : Ext w w') (hi : ∀ b o, I b o → I' b o) : Fix I w I' w' := fun b o h1 => ⟨hi b o h1, fun v hv => h.cell hv, fun ks vs hm => hm.of_heap (Below.block h.1 b hm.lt)⟩
theorem OwnC.cells_get {b c : Nat} {e : Bk} (h : OwnC I w β b c e) {j : Nat} {d : D} (hd : e.cells[j]? = some d) : ∃ v, w.cell? ⟨b, j, none⟩ = some v ∧ v.oneCell' = true ∧ Rel I w (if e.nob then noB else β) d v := by
 obtain ⟨cur, h1, h2, h3, _⟩ := h
 obtain ⟨v, k1, k2, k3⟩ := h3.get j d hd
 rw [List.getElem?_take] at k1
 split at k1
 ·exact ⟨v, by rw [cell_of_row w b j cur.toArray e.ty (0, 0) h1]; simpa using k1, k2, k3⟩
 ·cases k1
theorem OwnRel.mono {b c : Nat} {e : Bk} (h : OwnRel I w β b c e) (hh : w'.heap[b]? = w.heap[b]?) (hf : Fix I w I' w') (hb : BeLe β β') : OwnRel I' w' β' b c e := by
 rcases e.kd.cases with hk | ⟨ks, hk⟩
 ·obtain ⟨cur, h1, h2, h3, h4⟩ := h.c hk
  refine OwnC.r ⟨cur, hh.trans h1, h2, ?_, h4⟩ hk
  cases ha : e.nob <;> simp only [ha, if_true, if_false, Bool.false_eq_true] at h3 ⊢
  ·exact RelL.mono hf β β' hb _ _ h3
  ·exact RelL.mono hf noB noB (BeLe.refl _) _ _ h3
 ·obtain ⟨vs, h1, h2⟩ := h.m hk
  refine OwnM.r ⟨vs, h1.of_heap hh, ?_⟩ hk
  cases ha : e.nob <;> simp only [ha, if_true, if_false, Bool.false_eq_true] at h2 ⊢
  ·exact RelT.mono hf β β' hb _ _ h2
  ·exact RelT.mono hf noB noB (BeLe.refl _) _ _ h2
theorem OwnRel.lt {b c : Nat} {e : Bk} (h : OwnRel I w β b c e) : b < w.heap.size := by
 rcases e.kd.cases with hk | ⟨ks, hk⟩
 ·obtain ⟨cur, h1, _⟩ := h.c hk
  exact lt_of_block h1
 ·obtain ⟨vs, h1, _⟩ := h.m hk
  exact h1.lt
theorem OwnRel.like {b c : Nat} {e e' : Bk} (h : OwnRel I w β b c e) (h1 : e'.cells = e.cells) (h2 : e'.ty = e.ty) (h3 : e'.sz = e.sz) (h4 : e'.arr = e.arr) (h5 : e'.kd = e.kd) : OwnRel I w β b c e' := by
 have hn : e'.nob = e.nob := by unfold Bk.nob; rw [h4, h5]
 rcases e.kd.cases with hk | ⟨ks, hk⟩
 ·obtain ⟨cur, k1, k2, k3, k4⟩ := h.c hk
  exact OwnC.r ⟨cur, by rw [h2]; exact k1, by rw [h1]; exact k2, by rw [h1, hn]; exact k3, by rw [h3, h4]; exact k4⟩ (by rw [h5]; exact hk)
 ·obtain ⟨vs, k1, k2⟩ := h.m hk
  exact OwnM.r ⟨vs, k1, by rw [h1, hn]; exact k2⟩ (by rw [h5]; exact hk)
def SRw (β : Be) (I : Im) (w : World) (st : List Bk) : Prop := ∀ k b c (e : Bk), β k = some (b, c) → st[k]? = some e → OwnRel I w β b c e
theorem SR.weak (h : SR β I w st) : SRw β I w st := fun k b c e hk he => by
 obtain ⟨e', h1, h2⟩ := h k b c hk
 rw [he] at h1; cases h1; exact h2
def fixI (I : Im) (β : Be) (st : List Bk) (ks : List Nat) : Im := fun b o => I b o ∨ ∃ k ∈ ks, ∃ c e, β k = some (b, c) ∧ st[k]? = some e ∧ (e.kd.isMap = true ∨ o < e.cells.length)
theorem zAd (ks : List Nat) : Fix I w (fixI I β st ks) w := fun b o h => ⟨.inl h, fun v hv => hv, fun _ _ h => h⟩
theorem zCz {ks ls : List Nat} (h : ∀ k ∈ ks, k ∈ ls) : Fix (fixI I β st ks) w (fixI I β st ls) w := fun b o hi => ⟨hi.imp id (fun ⟨k, hk, x⟩ => ⟨k, h k hk, x⟩), fun v hv => hv, fun _ _ h => h⟩
theorem zHc {f : D → Option (D × List Nat)} {R : List Nat → D → Value → Prop} (hm : ∀ ks ls d v, (∀ k ∈ ks, k ∈ ls) → R ks d v → R ls d v) :
  ∀ (ds xs : List D) (ks : List Nat), mapF f ds = some (xs, ks) → xs.length = ds.length ∧ ∀ (i : Nat) d x, ds[i]? = some d → xs[i]? = some x → ∃ js, f d = some (x, js) ∧ ∀ k ∈ js, k ∈ ks
 | [], xs, ks, h => by simp only [mapF, Option.some.injEq, Prod.mk.injEq] at h; obtain ⟨rfl, rfl⟩ := h; exact ⟨rfl, by simp⟩
 | d :: ds, xs, ks, h => by
  simp only [mapF] at h
  split at h
  ·cases h
  ·rename_i x js hx
   split at h
   ·cases h
   ·rename_i ys ls hy
    simp only [Option.some.injEq, Prod.mk.injEq] at h
    obtain ⟨rfl, rfl⟩ := h
    obtain ⟨h1, h2⟩ := zHc hm ds ys ls hy
    refine ⟨by simp [h1], fun i d' x' hd hx' => ?_⟩
    cases i with
    | zero => simp at hd hx'; subst hd; subst hx'; exact ⟨js, hx, fun k hk => by simp [hk]⟩
    | succ i =>
     obtain ⟨js', k1, k2⟩ := h2 i d' x' (by simpa using hd) (by simpa using hx')
     exact ⟨js', k1, fun k hk => by simp [k2 k hk]⟩
theorem zBf {kn : Bool} (hs : SRw β I w st) : ∀ (n : Nat) (d x : D) (ks : List Nat) (v : Value), frz kn st n d = some (x, ks) → Rel I w β d v → Rel (fixI I β st ks) w noB x v
 | 0, d, x, ks, v, h, hr => by
  simp only [frz, Option.some.injEq, Prod.mk.injEq] at h
  obtain ⟨rfl, rfl⟩ := h
  simp only [Rel]
 | n + 1, d, x, ks, v, h, hr => by
  have ih := zBf (kn := kn) hs n
  have many : ∀ (ds xs : List D) (ks : List Nat), mapF (frz kn st n) ds = some (xs, ks) → xs.length = ds.length ∧ ∀ (i : Nat) d x v, ds[i]? = some d → xs[i]? = some x → Rel I w β d v → Rel (fixI I β st ks) w noB x v := by
   intro ds xs ks hm
   obtain ⟨h1, h2⟩ := zHc (R := fun _ _ _ => True) (fun _ _ _ _ _ h => h) ds xs ks hm
   refine ⟨h1, fun i d x v hd hx hr => ?_⟩
   obtain ⟨js, k1, k2⟩ := h2 i d x hd hx
   exact Rel.mono (zCz k2) noB noB (BeLe.refl _) _ _ (ih d x js v k1 hr)
  have manyL : ∀ (ds xs : List D) (ks : List Nat) (vs : List Value), mapF (frz kn st n) ds = some (xs, ks) → RelL I w β ds vs → RelL (fixI I β st ks) w noB xs vs := by
   intro ds xs ks vs hm hv
   obtain ⟨h1, h2⟩ := many ds xs ks hm
   refine RelL.of_get (by rw [h1, hv.length]) fun i x v hx hv' => ?_
   have hi : i < ds.length := by rw [← h1]; exact (List.getElem?_eq_some_iff.1 hx).1
   obtain ⟨v', k1, k2, k3⟩ := hv.get i ds[i] (List.getElem?_eq_getElem hi)
   rw [hv'] at k1; cases k1
   exact ⟨k2, h2 i _ x v (List.getElem?_eq_getElem hi) hx k3⟩
  have manyT : ∀ (ds xs : List D) (ks : List Nat) (vs : List Value), mapF (frz kn st n) ds = some (xs, ks) → RelT I w β ds vs → RelT (fixI I β st ks) w noB xs vs := by
   intro ds xs ks vs hm hv
   obtain ⟨h1, h2⟩ := many ds xs ks hm
   refine RelT.of_get (by rw [h1, hv.length]) fun i x v hx hv' => ?_
   have hi : i < ds.length := by rw [← h1]; exact (List.getElem?_eq_some_iff.1 hx).1
   obtain ⟨v', k1, k3⟩ := hv.get i ds[i] (List.getElem?_eq_getElem hi)
   rw [hv'] at k1; cases k1
   exact h2 i _ x v (List.getElem?_eq_getElem hi) hx k3
  unfold frz at h
  split at h
  ·rename_i u
   simp only [Rel] at hr
   split at h
   ·split at h
    ·cases h; simp only [Rel]; exact hr
    ·cases h
     subst hr
     simp only [Rel]
     exact ⟨none, 0, rfl, by omega, by simp [maxLen], fun _ => rfl, .inl trivial⟩
   ·cases h; simp only [Rel]; exact hr
  ·cases h; simp only [Rel]
  ·cases h; simp only [Rel] at hr ⊢; obtain ⟨ad, cap, h1, h2, h3, h4, h5⟩ := hr; exact ⟨ad, cap, h1, h2, h3, h4, h5.imp id (fun ⟨b, o, h, k⟩ => ⟨b, o, h, RelC.mono (zAd _) _ _ _ k⟩)⟩
  ·cases h; simp only [Rel] at hr ⊢; obtain ⟨b, o, h1, h2⟩ := hr; exact ⟨b, o, h1, RelC.mono (zAd _) _ _ _ h2⟩
  ·cases h; simp only [Rel] at hr ⊢; obtain ⟨b, vs, h1, h2, h3, h4⟩ := hr; exact ⟨b, vs, h1, .inl h2, h3, RelT.mono (zAd _) noB noB (BeLe.refl _) _ _ h4⟩
  ·cases h; simp only [Rel] at hr ⊢; exact ⟨hr.1, Rel.mono (zAd _) noB noB (BeLe.refl _) _ _ hr.2⟩
  ·cases h; simp only [Rel] at hr ⊢; obtain ⟨_, ad, cap, h1, h2, h3, h4, h5⟩ := hr; exact ⟨ad, cap, h1, h2, h3, h4, h5.imp id (fun ⟨b, o, h, k⟩ => ⟨b, o, h, RelC.mono (zAd _) _ _ _ k⟩)⟩
  ·rename_i cs
   cases hm : mapF (frz kn st n) cs with
   | none => simp [hm] at h
   | some y =>
    simp only [hm, Option.map_some, Option.some.injEq, Prod.mk.injEq] at h
    obtain ⟨rfl, rfl⟩ := h
    simp only [Rel] at hr ⊢
    obtain ⟨vs, rfl, hv⟩ := hr
    exact ⟨vs, rfl, manyL cs y.1 y.2 vs hm hv⟩
  ·rename_i cs
   cases hm : mapF (frz kn st n) cs with
   | none => simp [hm] at h
   | some y =>
    simp only [hm, Option.map_some, Option.some.injEq, Prod.mk.injEq] at h
    obtain ⟨rfl, rfl⟩ := h
    simp only [Rel] at hr ⊢
    obtain ⟨vs, rfl, hv⟩ := hr
    exact ⟨vs, rfl, manyT cs y.1 y.2 vs hm hv⟩
  ·rename_i f p q
   split at h
   ·cases h
   ·rename_i y js hy
    cases hm : mapF (frz kn st n) q with
    | none => simp [hm] at h
    | some z =>
     simp only [hm, Option.map_some, Option.some.injEq, Prod.mk.injEq] at h
     obtain ⟨rfl, rfl⟩ := h
     simp only [Rel] at hr ⊢
     obtain ⟨vs, us, rfl, hv, hu⟩ := hr
     refine ⟨vs, us, rfl, RelT.mono (zCz ?_) noB noB (BeLe.refl _) _ _ (manyT p y js vs hy hv), RelT.mono (zCz ?_) noB noB (BeLe.refl _) _ _ (manyT q z.1 z.2 us hm hu)⟩
     ·intro k hk; simp [hk]
     ·intro k hk; simp [hk]
  ·rename_i t d
   cases hm : frz kn st n d with
   | none => simp [hm] at h
   | some y =>
    simp only [hm, Option.map_some, Option.some.injEq, Prod.mk.injEq] at h
    obtain ⟨rfl, rfl⟩ := h
    simp only [Rel] at hr ⊢
    obtain ⟨u, rfl, hu⟩ := hr
    exact ⟨u, rfl, ih d y.1 y.2 u hm hu⟩
  ·rename_i k off
   split at h
   ·cases h
   ·rename_i e he
    simp only [Rel] at hr
    obtain ⟨b, c, hb, rfl⟩ := hr
    split at h
    ·cases h
    rename_i hmap
    have hmap : e.kd.isMap = false := by simpa using hmap
    have ho := (hs k b c e hb he).c hmap
    split at h
    ·rename_i harr
     cases h
     simp only [Rel]
     have : RelC (fixI I β st [k]) w e.cells b 0 := RelC.of_get fun i d hd => by
      obtain ⟨v, k1, k2, k3⟩ := ho.cells_get hd
      rw [harr] at k3
      rw [Nat.zero_add]
      exact ⟨.inr ⟨k, by simp, c, e, hb, he, .inr (List.getElem?_eq_some_iff.1 hd).1⟩, v, k1, k2, Rel.mono (zAd _) noB noB (BeLe.refl _) _ _ k3⟩
     exact ⟨b, off, rfl, by simpa using this.drop off⟩
    ·rename_i harr
     have harr : e.nob = false := by simpa using harr
     cases hm : mapF (frz kn st n) e.cells with
     | none => simp [hm] at h
     | some y =>
      simp only [hm, Option.map_some, Option.some.injEq, Prod.mk.injEq] at h
      obtain ⟨rfl, rfl⟩ := h
      obtain ⟨h1, h2⟩ := many e.cells y.1 y.2 hm
      simp only [Rel]
      have : RelC (fixI I β st (k :: y.2)) w y.1 b 0 := RelC.of_get fun i d hd => by
       have hi : i < e.cells.length := by rw [← h1]; exact (List.getElem?_eq_some_iff.1 hd).1
       obtain ⟨v, k1, k2, k3⟩ := ho.cells_get (List.getElem?_eq_getElem hi)
       rw [harr] at k3
       rw [Nat.zero_add]
       exact ⟨.inr ⟨k, by simp, c, e, hb, he, .inr hi⟩, v, k1, k2, Rel.mono (zCz (fun k hk => by simp [hk])) noB noB (BeLe.refl _) _ _ (h2 i _ d v (List.getElem?_eq_getElem hi) hd k3)⟩
      exact ⟨b, off, rfl, by simpa using this.drop off⟩
  ·rename_i k off l m wh
   split at h
   ·cases h
   ·rename_i e he
    split at h
    ·cases h
    rename_i hmap
    have hmap : e.kd.isMap = false := by simpa using hmap
    have fin : ∀ (cs : List D) (ks : List Nat), (∀ b c, β k = some (b, c) → RelC (fixI I β st ks) w cs b 0) → Rel (fixI I β st ks) w noB (.row ((cs.drop off).take m) l) v := by
     intro cs ks hcs
     simp only [Rel] at hr ⊢
     rcases hr with ⟨rfl, rfl, rfl⟩ | ⟨rfl, rfl, _, ad, c, rfl, hc1, hc2⟩ | ⟨b, c, cap, hb, rfl, h1, h2, h3⟩
     ·exact ⟨none, 0, rfl, Nat.le_refl _, by simp [maxLen], fun _ => rfl, .inl (by simp)⟩
     ·exact ⟨ad, c, rfl, Nat.zero_le _, hc1, hc2, .inl (by simp)⟩
     ·refine ⟨some ⟨b, off, none⟩, cap, rfl, h1, h2, ?_, Or.inr ⟨b, off, rfl, ?_⟩⟩
      ·intro h; cases h
      simpa using ((hcs b c hb).drop off).take m
    split at h
    ·rename_i harr
     cases h
     refine fin _ _ fun b c hb => RelC.of_get fun i d hd => ?_
     have ho := (hs k b c e hb he).c hmap
     obtain ⟨v, k1, k2, k3⟩ := ho.cells_get hd
     rw [harr] at k3
     rw [Nat.zero_add]
     exact ⟨.inr ⟨k, by simp, c, e, hb, he, .inr (List.getElem?_eq_some_iff.1 hd).1⟩, v, k1, k2, Rel.mono (zAd _) noB noB (BeLe.refl _) _ _ k3⟩
    ·rename_i harr
     have harr : e.nob = false := by simpa using harr
     cases hm : mapF (frz kn st n) e.cells with
     | none => simp [hm] at h
     | some y =>
      simp only [hm, Option.map_some, Option.some.injEq, Prod.mk.injEq] at h
      obtain ⟨rfl, rfl⟩ := h
      obtain ⟨h1, h2⟩ := many e.cells y.1 y.2 hm
      refine fin _ _ fun b c hb => RelC.of_get fun i d hd => ?_
      have ho := (hs k b c e hb he).c hmap
      have hi : i < e.cells.length := by rw [← h1]; exact (List.getElem?_eq_some_iff.1 hd).1
      obtain ⟨v, k1, k2, k3⟩ := ho.cells_get (List.getElem?_eq_getElem hi)
      rw [harr] at k3
      rw [Nat.zero_add]
      exact ⟨.inr ⟨k, by simp, c, e, hb, he, .inr hi⟩, v, k1, k2, Rel.mono (zCz (fun k hk => by simp [hk])) noB noB (BeLe.refl _) _ _ (h2 i _ d v (List.getElem?_eq_getElem hi) hd k3)⟩
  ·rename_i k
   split at h
   ·cases h
   ·rename_i e he
    split at h
    ·rename_i mks hk
     simp only [Rel] at hr
     obtain ⟨b, c, hb, rfl⟩ := hr
     obtain ⟨vs, hm1, hm2⟩ := (hs k b c e hb he).m hk
     split at h
     ·rename_i harr
      cases h
      rw [harr] at hm2
      simp only [Rel]
      exact ⟨b, vs, rfl, .inr ⟨k, by simp, c, e, hb, he, .inl (by rw [hk]; rfl)⟩, hm1, RelT.mono (zAd _) noB noB (BeLe.refl _) _ _ hm2⟩
     ·rename_i harr
      have harr : e.nob = false := by simpa using harr
      rw [harr] at hm2
      cases hm : mapF (frz kn st n) e.cells with
      | none => simp [hm] at h
      | some y =>
       simp only [hm, Option.map_some, Option.some.injEq, Prod.mk.injEq] at h
       obtain ⟨rfl, rfl⟩ := h
       have := manyT e.cells y.1 y.2 vs hm hm2
       simp only [Rel]
       exact ⟨b, vs, rfl, .inr ⟨k, by simp, c, e, hb, he, .inl (by rw [hk]; rfl)⟩, hm1, RelT.mono (zCz (fun k hk => by simp [hk])) noB noB (BeLe.refl _) _ _ this⟩
    ·cases h
end
end
section
open Go.RowKit
section
variable {P : Program} {T : Par} {I I' : Im} {w w' : World} {β β' : Be} {sl : List D} {st : List Bk} {a : Act}
theorem zEj {α : Type} {l : List α} {i : Nat} {x : α} (h : l[i]? = some x) : l.set i x = l := by
 apply List.ext_getElem?
 intro j
 rw [List.getElem?_set]
 split
 ·rename_i e; subst e
  rw [h, if_pos (List.getElem?_eq_some_iff.1 h).1]
 ·rfl
theorem zQu {d : TypeDesc} {a b : Value} (ha : zX d a = true) (hb : zX d b = true) : Instr.sameNow d a b = some (vEq a b) := by
 unfold zX at ha
 split at ha
 ·rename_i k k' x
  cases b <;> simp only [zX, Bool.false_eq_true] at hb
  rw [beq_iff_eq] at ha hb
  subst ha; subst hb
  simp [Instr.sameNow, vEq]
 ·rename_i x
  cases b <;> simp only [zX, Bool.false_eq_true] at hb
  rename_i y
  simp only [Instr.sameNow, vEq, Option.some.injEq]
  show (x.data == y.data) = _
  rw [Array.beq_toList]
 ·rename_i x
  cases b <;> simp only [zX, Bool.false_eq_true] at hb
  simp [Instr.sameNow, vEq]
 ·cases ha
theorem vEq_eq {d : TypeDesc} {a b : Value} (ha : zX d a = true) (hb : zX d b = true) (h : vEq a b = true) : a = b := by
 unfold zX at ha
 split at ha
 ·cases b <;> simp only [zX, Bool.false_eq_true] at hb
  rw [beq_iff_eq] at ha hb
  subst ha; subst hb
  simp only [vEq, beq_iff_eq] at h
  rw [h]
 ·rename_i x
  cases b <;> simp only [zX, Bool.false_eq_true] at hb
  rename_i y
  simp only [vEq, beq_iff_eq] at h
  obtain ⟨⟨x⟩⟩ := x
  obtain ⟨⟨y⟩⟩ := y
  have : x = y := h
  rw [this]
 ·cases b <;> simp only [zX, Bool.false_eq_true] at hb
  simp only [vEq, beq_iff_eq] at h
  rw [h]
 ·cases ha
theorem zMm {d : TypeDesc} {a : Value} (ha : zX d a = true) (n : Nat) : Instr.sameBits n a a = true := by
 unfold zX at ha
 split at ha
 ·cases n <;> simp [Instr.sameBits]
 ·rename_i x
  cases n <;> simp only [Instr.sameBits] <;> (show (x.data == x.data) = true; simp)
 ·cases n <;> simp [Instr.sameBits]
 ·cases ha
theorem zDg {t : TypeId} {d : TypeDesc} {v : Value} (ht : P.underlying t = some d) (hv : zX d v = true) (e : Bool) (W : World) : (Instr.checkKey e 10000 t v).run P W = .ok () W := by
 have key : ∀ n, (Instr.checkKey e (n + 1) t v).run P W = .ok () W := by
  intro n
  rw [Instr.checkKey, Sem.run_bind, run_underlying ht W, Result.andThen_ok]
  unfold zX at hv
  split at hv
  ·rfl
  ·rfl
  ·rfl
  ·cases hv
 exact key 9999
theorem zL3 {d : TypeDesc} {k : Value} (hk : zX d k = true) : ∀ (es : List MapEntry) (j : Nat), (es.map (·.key)).all (zX d) = true →
  Instr.findNow d k es j = some ((zE1 (es.map (·.key)) k).bind fun i => (es[i]?).map fun e => (j + i, e.val))
 | [], j, _ => by simp [Instr.findNow, zE1]
 | e :: es, j, h => by
  simp only [List.map_cons, List.all_cons, Bool.and_eq_true] at h
  have ih := zL3 hk es (j + 1) h.2
  rw [Instr.findNow, zQu hk h.1]
  simp only [zE1, List.map_cons, List.findIdx?_cons] at ih ⊢
  cases hv : vEq k e.key
  ·simp only [Bool.false_eq_true, if_false]
   rw [ih]
   cases (es.map (·.key)).findIdx? (vEq k) with
   | none => rfl
   | some i =>
    simp only [Option.map_some, Option.bind_some, List.getElem?_cons_succ]
    rw [show j + 1 + i = j + (i + 1) by omega]
  ·simp
theorem zLz {d : TypeDesc} {ks : List Value} {k : Value} {i : Nat} (h : zE1 ks k = some i) : ∃ x, ks[i]? = some x ∧ vEq k x = true := by
 unfold zE1 at h
 rw [List.findIdx?_eq_some_iff_getElem] at h
 obtain ⟨h1, h2, _⟩ := h
 exact ⟨_, List.getElem?_eq_getElem h1, h2⟩
theorem zF1 {kt : TypeId} {d : TypeDesc} {k : Value} (ht : P.underlying kt = some d) (hk : zX d k = true) (es : List MapEntry) (h : (es.map (·.key)).all (zX d) = true) (W : World) :
  (Instr.findKey kt k es).run P W = .ok ((zE1 (es.map (·.key)) k).bind fun i => (es[i]?).map fun e => (i, e.val)) W := by
 rw [Instr.findKey, Sem.run_bind, run_underlying ht W, Result.andThen_ok, zL3 hk es 0 h]
 simp
theorem zVs {t : TypeId} {z : D} (h : zYq P t = some z) : ∃ v, (∀ W : World, (zeroValue t).run P W = .ok v W) ∧ Rel I w β z v := by
 unfold zYq at h
 split at h
 ·cases h
 ·rename_i i hi
  split at h
  ·cases h
  ·rename_i cs hz
   split at h
   ·rename_i hall
    cases h
    refine ⟨_, zDf hi hz, ?_⟩
    simp only [Rel]
    refine ⟨cs.toList, by simp, ?_⟩
    have h1 : ∀ u ∈ cs.toList, u.oneCell' = true := fun u hu => List.all_eq_true.1 hall u hu
    generalize cs.toList = l at h1
    induction l with
    | nil => simp only [List.map_nil, RelL]
    | cons u l ih => simp only [List.map_cons, RelL]; exact ⟨u, l, rfl, h1 u (List.mem_cons_self ..), Rel.valI u, ih (fun x hx => h1 x (List.mem_cons_of_mem _ hx))⟩
   ·cases h
  ·rename_i v _ hz
   cases h
   exact ⟨_, zDf hi hz, Rel.valI _⟩
theorem zMn {t kt e : TypeId} {d : TypeDesc} {x key zv : Value} {es : Array MapEntry} (ok : Bool) (ht : P.underlying t = some (.map kt e)) (hkt : P.underlying kt = some d)
  (hx : (x = .map none ∧ es = #[]) ∨ ∃ b c, x = .map (some b) ∧ w.heap[b]? = some (.map es c)) (hk : zX d key = true) (hks : (es.toList.map (·.key)).all (zX d) = true) (hz : ∀ W : World, (zeroValue e).run P W = .ok zv W) :
  (Instr.lookup t x key ok).run P w = .ok (match ((zE1 (es.toList.map (·.key)) key).bind fun i => (es.toList[i]?).map fun e => (i, e.val)) with
   | some (_, v) => if ok then .tuple #[v, .bool true] else v
   | none => if ok then .tuple #[zv, .bool false] else zv) w := by
 rw [Instr.lookup, Sem.run_bind, run_underlying ht w, Result.andThen_ok]
 rcases hx with ⟨rfl, rfl⟩ | ⟨b, c, rfl, hb⟩
 ·simp only [Sem.run_bind, Sem.run_pure, Result.andThen_ok, zDg hkt hk, zF1 hkt hk _ hks]
  simp only [zE1, List.map_nil, List.findIdx?_nil, Option.bind_none, Sem.run_bind, hz, Result.andThen_ok, Sem.run_pure]
 ·have hg := MapKept.run_getObj_map (P := P) hb
  simp only [Sem.run_bind, hg, Sem.run_pure, Result.andThen_ok, zDg hkt hk, zF1 hkt hk _ hks]
  cases (zE1 (es.toList.map (·.key)) key).bind fun i => (es.toList[i]?).map fun e => (i, e.val) with
  | none => simp only [Sem.run_bind, hz, Result.andThen_ok, Sem.run_pure]
  | some y => simp only [Sem.run_bind, Sem.run_pure, Result.andThen_ok]
def zZb (ks : List Value) (key : Value) : List Value := match zE1 ks key with
 | some _ => ks
 | none => ks ++ [key]
def zZa {α : Type} (ks : List Value) (vs : List α) (key : Value) (v : α) : List α := match zE1 ks key with
 | some i => vs.set i v
 | none => vs ++ [v]
theorem zJb {t kt e : TypeId} {d : TypeDesc} {b : Nat} {key val : Value} {ks vs : List Value} (ht : P.underlying t = some (.map kt e)) (hkt : P.underlying kt = some d)
  (hm : MapIs w b ks vs) (hk : zX d key = true) (hks : ks.all (zX d) = true) :
  ∃ w', (Instr.mapUpdate t (.map (some b)) key val).run P w = .ok () w' ∧ MapIs w' b (zZb ks key) (zZa ks vs key val) ∧ (∀ k, k ≠ b → w'.heap[k]? = w.heap[k]?) ∧ w'.heap.size = w.heap.size ∧ w'.os = w.os ∧ w'.tape = w.tape ∧ w'.output = w.output := by
 obtain ⟨es, c, h1, rfl, rfl, h4, h5⟩ := hm
 have hblt : b < w.heap.size := (Array.getElem?_eq_some_iff.1 h1).1
 have hf := zF1 (P := P) hkt hk es.toList hks w
 have fin : ∀ (o : Obj), let w' : World := { w with heap := w.heap.setIfInBounds b o }; w'.heap[b]? = some o ∧ (∀ k, k ≠ b → w'.heap[k]? = w.heap[k]?) ∧ w'.heap.size = w.heap.size := by
  intro o
  refine ⟨by simp [hblt], fun k hk => ?_, by simp⟩
  simp [Array.getElem?_setIfInBounds, Ne.symm hk]
 cases hmf : zE1 (es.toList.map (·.key)) key with
 | none =>
  rw [hmf] at hf
  refine ⟨{ w with heap := w.heap.setIfInBounds b (.map (es.push { key, val := val, born := c }) (c + 1)) }, ?_, ?_, (fin _).2.1, (fin _).2.2, rfl, rfl, rfl⟩
  ·simp [Instr.mapUpdate, run_underlying ht, MapKept.run_getObj_map h1, zDg hkt hk, hf, MapKept.run_setObj_map _ h1, Result.andThen]
  ·refine ⟨_, _, (fin _).1, by simp [zZb, hmf], by simp [zZa, hmf], fun x hx => ?_, ?_⟩
   ·simp only [Array.toList_push, List.mem_append, List.mem_singleton] at hx
    rcases hx with hx | rfl
    ·have := h4 x hx; omega
    ·show c < c + 1; omega
   ·simp only [Array.toList_push, List.map_append, List.map_cons, List.map_nil]
    rw [List.nodup_append]
    refine ⟨h5, by simp, fun x hx y hy => ?_⟩
    simp only [List.mem_singleton] at hy
    obtain ⟨e', he', rfl⟩ := List.mem_map.1 hx
    have := h4 e' he'
    omega
 | some i =>
  obtain ⟨x, hx, hv⟩ := zLz (d := d) hmf
  rw [List.getElem?_map] at hx
  obtain ⟨e0, he0, rfl⟩ := Option.map_eq_some_iff.1 hx
  rw [hmf] at hf
  simp only [Option.bind_some, he0, Option.map_some] at hf
  have hfit : zX d e0.key = true := List.all_eq_true.1 hks _ (List.mem_map.2 ⟨e0, List.mem_of_getElem? he0, rfl⟩)
  have hkk : key = e0.key := vEq_eq hk hfit hv
  have hst : ∀ W : World, (Instr.keyThatStays e0.key key).run P W = .ok key W := fun W => by
   rw [Instr.keyThatStays, ← hkk, zMm hk]; rfl
  have he0' : es[i]? = some e0 := by simpa using he0
  have e1 : ((es[i]?).map (·.key)).getD key = e0.key := by simp [he0']
  have hilt : i < es.toList.length := (List.getElem?_eq_some_iff.1 he0).1
  refine ⟨{ w with heap := w.heap.setIfInBounds b (.map (es.modify i fun e => { e with key, val := val }) c) }, ?_, ?_, (fin _).2.1, (fin _).2.2, rfl, rfl, rfl⟩
  ·simp [Instr.mapUpdate, run_underlying ht, MapKept.run_getObj_map h1, zDg hkt hk, hf, e1, hst, MapKept.run_setObj_map _ h1, Result.andThen]
  ·have hml : (es.modify i fun e => { e with key, val := val }).toList = es.toList.modify i fun e => { e with key, val := val } := by simp
   have hmap : ∀ {α : Type} (f : MapEntry → α) (g : MapEntry → MapEntry) (y : α), f (g e0) = y → (es.toList.modify i g).map f = (es.toList.map f).set i y := by
    intro α f g y hy
    apply List.ext_getElem?
    intro j
    rw [List.getElem?_map, List.getElem?_modify, List.getElem?_set, List.getElem?_map, List.length_map]
    by_cases hj : i = j
    ·subst hj
     rw [he0, if_pos rfl, if_pos hilt]; simp [hy]
    ·simp [hj]
   refine ⟨_, _, (fin _).1, ?_, ?_, fun x hx => ?_, ?_⟩
   ·rw [hml, hmap _ _ e0.key (by simp [hkk])]
    simp only [zZb, hmf]
    exact zEj (by rw [List.getElem?_map]; exact hx)
   ·rw [hml, hmap _ _ val rfl]
    simp only [zZa, hmf]
   ·rw [hml] at hx
    obtain ⟨j, hj⟩ := List.mem_iff_getElem?.1 hx
    rw [List.getElem?_modify] at hj
    obtain ⟨y, hy, hj⟩ := Option.map_eq_some_iff.1 hj
    have hb := h4 y (List.mem_of_getElem? hy)
    subst hj
    split
    ·exact hb
    ·exact hb
   ·rw [hml, hmap _ _ e0.born rfl]
    have : (es.toList.map (·.born)).set i e0.born = es.toList.map (·.born) := zEj (by rw [List.getElem?_map, he0]; rfl)
    rw [this]; exact h5
theorem RelL.clean : ∀ {ds : List D} {vs : List Value}, RelL I w β ds vs → RelL I w noB (ds.map zH7) vs
 | [], vs, h => by simpa only [RelL, List.map_nil] using h
 | d :: ds, vs, h => by
  simp only [RelL, List.map_cons] at h ⊢
  obtain ⟨v, us, rfl, h1, h2, h3⟩ := h
  refine ⟨v, us, rfl, h1, ?_, h3.clean⟩
  cases d <;> simp only [zH7, Rel] at h2 ⊢
  exact h2
theorem zJz {sh : Bool} (hs : SRw β I w st) {x : D} {u : Value} {xs : List D} {m : Nat} (hx : Rel I w β x u) (h : zD8 sh st x = some (xs, m)) :
  ∃ ad c vs, u = .slice ad m c ∧ (ad = none → c = 0) ∧ RelL I w (if sh then β else noB) xs vs ∧ (vs = [] ∨ ∃ b o, ad = some ⟨b, o, none⟩ ∧ w.rangeAt b o vs) := by
 have up : ∀ {ds : List D} {us : List Value}, RelL I w noB ds us → RelL I w (if sh then β else noB) ds us := fun h0 => by
  clear h hx
  cases sh
  ·exact h0
  ·exact RelL.mono (Fix.refl I w) noB β (BeLe.no β) _ _ h0
 unfold zD8 at h
 split at h
 ·rename_i k off n mm wh
  split at h
  ·rename_i e he
   split at h
   ·rename_i harr
    simp only [Bool.not_eq_true'] at harr
    have key : ∀ ys, ((e.nob = true ∨ sh = true) ∧ ys = (e.cells.drop off).take mm ∨ ys = ((e.cells.drop off).take mm).map zH7) → n = m → ys = xs → ∃ ad c vs, u = .slice ad m c ∧ (ad = none → c = 0) ∧ RelL I w (if sh then β else noB) xs vs ∧ (vs = [] ∨ ∃ b o, ad = some ⟨b, o, none⟩ ∧ w.rangeAt b o vs) := by
     intro ys hys e1 e2
     subst e1 e2
     have hnil : mm = 0 → ys = [] := fun e0 => by
      subst e0
      rcases hys with ⟨_, rfl⟩ | rfl <;> simp
     simp only [Rel] at hx
     rcases hx with ⟨rfl, h0, rfl⟩ | ⟨rfl, h0, _, ad, c, rfl, h1, h2⟩ | ⟨b, c, cap, hb, rfl, h1, h2, h3⟩
     ·exact ⟨none, 0, [], rfl, fun _ => rfl, by rw [hnil h0]; simp only [RelL], .inl rfl⟩
     ·exact ⟨ad, c, [], rfl, h2, by rw [hnil h0]; simp only [RelL], .inl rfl⟩
     ·obtain ⟨cur, k1, k2, k3, _⟩ := (hs k b c e hb he).c harr
      have k4 : RelL I w (if sh then β else noB) ys (((cur.take e.cells.length).drop off).take mm) := by
       rcases hys with ⟨hn, rfl⟩ | rfl
       ·have k3' : RelL I w (if sh then β else noB) e.cells (cur.take e.cells.length) := by
         cases hno : e.nob
         ·have := hn.resolve_left (by rw [hno]; simp)
          rw [hno] at k3
          rw [this]; exact k3
         ·rw [hno] at k3
          exact up k3
        exact k3'.sub off mm
       ·exact up (k3.sub off mm).clean
      refine ⟨_, cap, ((cur.take e.cells.length).drop off).take mm, rfl, (fun h => by cases h), k4, .inr ⟨b, off, rfl, fun j v hv => ?_⟩⟩
      rw [List.getElem?_take] at hv
      split at hv
      ·rw [List.getElem?_drop, List.getElem?_take] at hv
       split at hv
       ·rw [cell_of_row w b (off + j) cur.toArray e.ty (0, 0) k1]
        simpa using hv
       ·cases hv
      ·cases hv
    split at h
    ·rename_i hn
     simp only [Bool.or_eq_true] at hn
     simp only [Option.some.injEq, Prod.mk.injEq] at h
     exact key _ (.inl ⟨hn, rfl⟩) h.2 h.1
    ·simp only [Option.some.injEq, Prod.mk.injEq] at h
     exact key _ (.inr rfl) h.2 h.1
   ·cases h
  ·cases h
 ·unfold asRow at h
  split at h
  ·cases h
   simp only [Rel] at hx
   obtain ⟨ad, cap, rfl, _, _, h3, h4⟩ := hx
   rcases h4 with rfl | ⟨b, o, rfl, h4⟩
   ·exact ⟨ad, cap, [], rfl, h3, by simp only [RelL], .inl rfl⟩
   ·obtain ⟨vs, k1, k2, k3⟩ := h4.list
    exact ⟨_, cap, vs, rfl, h3, up k2, .inr ⟨b, o, rfl, k1⟩⟩
  ·cases h
   simp only [Rel] at hx
   subst hx
   exact ⟨none, 0, [], rfl, fun _ => rfl, by simp only [RelL], .inl rfl⟩
  ·cases h
theorem zK9 : ∀ {ds : List D} {l : List UInt8} {vs : List Value}, zEm ds = some l → RelL I w β ds vs → vs.length = l.length ∧ ∀ (i : Nat) v, vs[i]? = some v → ∃ n, v = .int .u8 n ∧ l[i]? = some (UInt8.ofNat n.toNat)
 | [], l, vs, h, hr => by
  simp only [zEm, Option.some.injEq] at h
  simp only [RelL] at hr
  subst h; subst hr
  exact ⟨rfl, by simp⟩
 | d :: ds, l, vs, h, hr => by
  simp only [RelL] at hr
  obtain ⟨v, us, rfl, _, h3, h4⟩ := hr
  unfold zEm at h
  split at h
  ·rename_i he; cases he
  ·rename_i n ds' he
   cases he
   obtain ⟨l', h1, rfl⟩ := Option.map_eq_some_iff.1 h
   obtain ⟨k1, k2⟩ := zK9 h1 h4
   simp only [Rel] at h3
   subst h3
   refine ⟨by simp [k1], fun i v hv => ?_⟩
   cases i with
   | zero => simp at hv; subst hv; exact ⟨n, rfl, rfl⟩
   | succ i => simpa using k2 i v (by simpa using hv)
  ·cases h
theorem zFu (f : Value → ByteArray → Sem (ForInStep ByteArray)) (hf : ∀ n s, f (.int .u8 n) s = pure (.yield (s.push (UInt8.ofNat n.toNat)))) (l : List UInt8) : ∀ (vs : List Value) (s : ByteArray) (j : Nat), vs.length + j = l.length → (∀ (i : Nat) v, vs[i]? = some v → ∃ n, v = .int .u8 n ∧ l[j + i]? = some (UInt8.ofNat n.toNat)) → s.data.toList = l.take j → ∀ W : World,
  (forIn vs s f).run P W = .ok ⟨l.toArray⟩ W
 | [], s, j, hl, h, hs, W => by
  have : l.take j = l := List.take_of_length_le (by simp at hl; omega)
  rw [this] at hs
  rw [List.forIn_nil]
  have : s = ⟨l.toArray⟩ := by
   obtain ⟨⟨s⟩⟩ := s
   simp only at hs
   rw [hs]
  rw [this]; rfl
 | v :: vs, s, j, hl, h, hs, W => by
  obtain ⟨n, rfl, hn⟩ := h 0 v rfl
  rw [Nat.add_zero] at hn
  rw [List.forIn_cons, Sem.run_bind, hf]
  have ih := zFu f hf l vs (s.push (UInt8.ofNat n.toNat)) (j + 1) (by simp at hl; omega) (fun i v hv => by
   have := h (i + 1) v (by simpa using hv)
   rw [show j + 1 + i = j + (i + 1) by omega]; exact this) (by
   have hlt := (List.getElem?_eq_some_iff.1 hn).1
   have hn2 : l[j] = UInt8.ofNat n.toNat := by rw [List.getElem?_eq_getElem hlt] at hn; exact Option.some.inj hn
   rw [List.take_succ_eq_append_getElem hlt, hn2, ← hs]
   simp [ByteArray.push]) W
  exact ih
theorem zLf {n : Nat} {ds : List D} {l : List UInt8} {vs : List Value} {ad : Option Addr} {c : Nat} (hb : zEm ds = some l) (hr : RelL I w β ds vs) (hn : ds.length = n) (hvs : vs = [] ∨ ∃ b o, ad = some ⟨b, o, none⟩ ∧ w.rangeAt b o vs) :
  (Conv.bytesToString (.slice ad n c)).run P w = .ok (.string ⟨l.toArray⟩) w := by
 obtain ⟨k1, k2⟩ := zK9 hb hr
 have hlen := hr.length
 cases ad with
 | none =>
  have : vs = [] := by rcases hvs with h | ⟨b, o, h, _⟩; exact h; cases h
  subst this
  have hl : l = [] := List.eq_nil_of_length_eq_zero (by simpa using k1.symm)
  subst hl
  rfl
 | some ad =>
  have hld : (loadCells ad n).run P w = .ok vs.toArray w := by
   have := run_loadCells_list (P := P) (w := w) ad vs (fun j v hj => by
    rcases hvs with rfl | ⟨b, o, h, hra⟩
    ·simp at hj
    ·cases h
     rw [Addr.add_mid]; exact hra j v hj)
   rw [← hn, hlen]
   simpa using this
  have hk : ∀ (i : Nat) v, vs[i]? = some v → ∃ n, v = .int .u8 n ∧ l[0 + i]? = some (UInt8.ofNat n.toNat) := fun i v hv => by
   obtain ⟨n, h1, h2⟩ := k2 i v hv
   exact ⟨n, h1, by simpa using h2⟩
  have hk0 : vs.length + 0 = l.length := by simpa using k1
  unfold Conv.bytesToString
  simp only [Sem.run_bind, hld, Result.andThen_ok, List.forIn_toArray]
  rw [zFu _ (by intro n s; rfl) l vs ByteArray.empty 0 hk0 hk rfl w]
  rfl
end
end
section
open Go.RowKit
variable {S : Nat → Prop}
theorem zH9 {P : Program} {w : World} {t t2 e e2 ty : TypeId} {b : Option Addr} {n c : Nat} {x : Value} {i : TypeInfo} (ht : P.underlying t = some (.slice e)) (ht2 : P.underlying t2 = some (.slice e2)) (hi : P.info? e = some i) :
  (Builtin.append_ #[t, t2] ty #[.slice b n c, x]).run P w = (Builtin.append_ #[t, t] ty #[.slice b n c, x]).run P w := by
 simp only [Builtin.append_, sizeOf, typeInfo, hi, Sem.run_bind, run_underlying ht, run_underlying ht2, Result.andThen, List.getElem?_toArray, List.getElem?_cons_zero, List.getElem?_cons_succ]
end
section
open Go.RowKit
section
variable {P : Program} {T : Par} {I I' : Im} {w w' : World} {β β' : Be} {sl : List D} {st : List Bk} {a : Act}
theorem zHh {kn : Bool} (hs : SRw β I w st) (n : Nat) (ds xs : List D) (ks : List Nat) (vs : List Value) (hm : mapF (frz kn st n) ds = some (xs, ks)) (hv : RelT I w β ds vs) : RelT (fixI I β st ks) w noB xs vs := by
 obtain ⟨h1, h2⟩ := zHc (R := fun _ _ _ => True) (fun _ _ _ _ _ h => h) ds xs ks hm
 refine RelT.of_get (by rw [h1, hv.length]) fun i x v hx hv' => ?_
 have hi : i < ds.length := by rw [← h1]; exact (List.getElem?_eq_some_iff.1 hx).1
 obtain ⟨v', k1, k3⟩ := hv.get i ds[i] (List.getElem?_eq_getElem hi)
 rw [hv'] at k1; cases k1
 obtain ⟨js, j1, j2⟩ := h2 i _ x (List.getElem?_eq_getElem hi) hx
 exact Rel.mono (zCz j2) noB noB (BeLe.refl _) _ _ (zBf hs n _ x js v j1 k3)
structure OutN (β : Be) (I : Im) (w : World) (st news : List Bk) (fz : List Nat) (β' : Be) (I' : Im) (w' : World) : Prop where
 ext : Ext w w'
 fix : Fix I w I' w'
 be : ∀ k, (k < st.length ∨ st.length + news.length ≤ k) → β' k = β k
 nb : ∀ k b c, st.length ≤ k → k < st.length + news.length → β' k = some (b, c) → w.heap.size ≤ b ∧ ∃ e, news[k - st.length]? = some e ∧ OwnRel I' w' β' b c e ∧ ∀ j, I' b j → e.fz = true ∧ (e.kd.isMap = true ∨ j < e.cells.length)
 inj : ∀ k k' b c c', st.length ≤ k → k < st.length + news.length → st.length ≤ k' → k' < st.length + news.length → β' k = some (b, c) → β' k' = some (b, c') → k = k'
 im : ∀ b o, I' b o → fixI I β st fz b o ∨ w.heap.size ≤ b
 imb : ImB I w → ImB I' w'
theorem OutN.stay (β : Be) (I : Im) (w : World) (st : List Bk) : OutN β I w st [] [] β I w :=
 ⟨Ext.refl w, Fix.refl I w, fun _ _ => rfl, fun k b c h1 h2 => by simp at h2; omega, fun k k' b c c' h1 h2 => by simp at h2; omega, fun b o h => .inl (.inl h), fun h => h⟩
theorem zGs {t : TypeId} {ds : List D} {b o : Nat} {p : Prop} {d : D} (hc : ∀ (j : Nat) x, ds[j]? = some x → ∃ v, w.cell? ⟨b, o + j, none⟩ = some v ∧ v.oneCell' = true ∧ Rel I w β x v) (he : ldP P t ds .get = .get p d) (hp : p) :
  ∃ v, (Instr.loadAt t (.pointer (some ⟨b, o, none⟩))).run P w = .ok v w ∧ Rel I w β d v := by
 unfold ldP at he
 split at he
 ·cases he
 ·rename_i s hs
  obtain ⟨i, ds', hi1, hi2, hi3⟩ := zJt hs
  split at he
  ·rename_i hag
   simp only [Eff.get.injEq] at he
   obtain ⟨rfl, rfl⟩ := he
   have hex : ∀ n, n ≤ ds.length → ∃ vs : List Value, vs.length = n ∧ w.rangeAt b o vs ∧ RelL I w β (ds.take n) vs := by
    intro n
    induction n with
    | zero => intro _; exact ⟨[], rfl, fun j v hv => by simp at hv, by simp only [List.take_zero, RelL]⟩
    | succ n ih =>
     intro hn
     obtain ⟨vs, k1, k2, k3⟩ := ih (by omega)
     obtain ⟨v, v1, v2, v3⟩ := hc n ds[n] (by simp [hn])
     refine ⟨vs ++ [v], by simp [k1], fun j u hu => ?_, ?_⟩
     ·rw [List.getElem?_append] at hu
      split at hu
      ·exact k2 j u hu
      ·rename_i hj
       have : j = n := by
        have := (List.getElem?_eq_some_iff.1 hu).1
        simp at this; omega
       subst this
       simp [k1] at hu
       subst hu; exact v1
     ·refine RelL.of_get (by simp [k1]; omega) fun j x u hx hu => ?_
      rw [List.getElem?_take] at hx
      split at hx
      ·rw [List.getElem?_append] at hu
       split at hu
       ·rename_i hj hj2
        obtain ⟨u', m1, m2, m3⟩ := k3.get j x (by rw [List.getElem?_take, if_pos (by omega)]; exact hx)
        rw [hu] at m1; cases m1
        exact ⟨m2, m3⟩
       ·rename_i hj hj2
        have : j = n := by omega
        subst this
        simp [k1] at hu
        subst hu
        rw [List.getElem?_eq_getElem (by omega)] at hx
        cases hx
        exact ⟨v2, v3⟩
      ·cases hx
   obtain ⟨vs, k1, k2, k3⟩ := hex s hp
   refine ⟨.agg vs.toArray, ?_, by simp only [Rel]; exact ⟨vs, rfl, k3⟩⟩
   refine run_loadAt_mid w b o t vs ds' k2 hi3 ?_ (by simp [hi1, hi2, k1])
   unfold zDr at hag
   rw [hi3] at hag
   revert hag
   cases ds' <;> simp [TypeDesc.isRow]
  ·rename_i hag
   simp only [Eff.get.injEq] at he
   obtain ⟨rfl, rfl⟩ := he
   cases ds with
   | nil => simp at hp
   | cons x ds =>
    obtain ⟨v, v1, v2, v3⟩ := hc 0 x rfl
    refine ⟨v, ?_, v3⟩
    simp only [Nat.add_zero] at v1
    simp [Instr.loadAt, Instr.sureAddr, loadVar, Sem.run_bind, zQv hs, hag, v1]
theorem zDo {t : TypeId} {ds : List D} {e : Eff} (h : ldP P t ds .get = e) : e = .bad ∨ ∃ p d, e = .get p d := by
 unfold ldP at h
 split at h
 ·exact .inl h.symm
 ·split at h
  ·exact .inr ⟨_, _, h.symm⟩
  ·exact .inr ⟨_, _, h.symm⟩
theorem zAy {f : FuncId} {args : List D} {im : FuncId → Bool} {e : Eff} (h : zHu P im f args st = e) : e = .bad ∨ (∃ xs ks, e = .call f xs ks ∧ im f = false ∧ mapF (frz true st zAl) args = some (xs, ks) ∧ ∃ fn c, P.funcs[f]? = some fn ∧ (fn.name == "runtime.NumGoroutine") = false ∧ fn.body = some c) ∨
  (e = .act f args ∧ im f = true ∧ ∃ fn c, P.funcs[f]? = some fn ∧ (fn.name == "runtime.NumGoroutine") = false ∧ fn.body = some c) := by
 unfold zHu at h
 split at h
 ·exact .inl h.symm
 ·rename_i fn hf
  split at h
  ·exact .inl h.symm
  ·rename_i hb
   simp only [Bool.or_eq_true, not_or, Bool.not_eq_true] at hb
   obtain ⟨hb1, hb2⟩ := hb
   obtain ⟨c, hc⟩ : ∃ c, fn.body = some c := by cases hx : fn.body <;> simp_all
   split at h
   ·rename_i him
    exact .inr (.inr ⟨h.symm, him, fn, c, hf, hb1, hc⟩)
   ·rename_i him
    split at h
    ·exact .inl h.symm
    ·rename_i xs ks hm
     exact .inr (.inl ⟨xs, ks, h.symm, by simpa using him, hm, fn, c, hf, hb1, hc⟩)
theorem zJp {sh : Bool} {t u : TypeId} {s x : D} {e : Eff} (h : zFd P sh t u s x st = e) : e = .bad ∨ (∃ p b d fz, e = .new p b d fz) ∨ ∃ p k b d, e = .app p k b d := by
 have key : ∀ {sh : Bool} {e1 e2 : TypeId} {i : TypeInfo} {z xs : List D} {m : Nat}, aApp sh e1 e2 i z xs m s st = e → e = .bad ∨ (∃ p b d fz, e = .new p b d fz) ∨ ∃ p k b d, e = .app p k b d := by
  intro sh e1 e2 i z xs m h
  unfold aApp at h
  split at h
  ·exact .inr (.inl ⟨_, _, _, _, h.symm⟩)
  ·split at h
   ·exact .inr (.inr ⟨_, _, _, _, h.symm⟩)
   ·exact .inl h.symm
  ·exact .inl h.symm
 unfold zFd at h
 split at h
 ·split at h
  ·exact key h
  ·exact .inl h.symm
 ·split at h
  ·split at h
   ·exact key h
   ·exact .inl h.symm
  ·exact .inl h.symm
 ·exact .inl h.symm
theorem zBr {t : TypeId} {x : D} {e : Eff} (h : zTl P t x st = e) : e = .bad ∨ ∃ p k b fz, e = .put p k b fz := by
 unfold zTl at h
 split at h
 ·split at h
  ·exact .inr ⟨_, _, _, _, h.symm⟩
  ·exact .inl h.symm
 ·exact .inl h.symm
theorem zCn {t u : TypeId} {s x : D} {e : Eff} (h : aCopy P t u s x st = e) : e = .bad ∨ ∃ p k b fz, e = .put p k b fz := by
 unfold aCopy at h
 split at h
 ·split at h
  ·exact .inr ⟨_, _, _, _, h.symm⟩
  ·exact .inl h.symm
 ·exact .inl h.symm
theorem zAx {t : TypeId} {x i v : D} {e : Eff} (h : zCc P t x i v st = e) : e = .bad ∨ ∃ p k b fz, e = .put p k b fz := by
 unfold zCc at h
 split at h
 ·split at h
  ·split at h
   ·split at h
    ·split at h
     ·exact .inr ⟨_, _, _, _, h.symm⟩
     ·exact .inl h.symm
    ·exact .inr ⟨_, _, _, _, h.symm⟩
   ·exact .inl h.symm
  ·exact .inl h.symm
 ·exact .inl h.symm
theorem zE2 {t : TypeId} {x i : D} {ok : Bool} {e : Eff} (h : zHr P t x i ok st = e) : e = .bad ∨ ∃ p d, e = .get p d := by
 have key : ∀ kt et key ks cs, zFc P ok kt et key ks cs = e → e = .bad ∨ ∃ p d, e = .get p d := by
  intro kt et key ks cs h
  unfold zFc at h
  split at h
  ·exact .inr ⟨_, _, h.symm⟩
  ·exact .inl h.symm
 unfold zHr at h
 split at h
 ·split at h
  ·exact key _ _ _ _ _ h
  ·exact key _ _ _ _ _ h
  ·split at h
   ·split at h
    ·exact key _ _ _ _ _ h
    ·exact .inl h.symm
   ·exact .inl h.symm
  ·exact .inl h.symm
 ·exact .inl h.symm
theorem zGr {t : TypeId} {x : D} {e : Eff} (h : zVr P t x st = e) : e = .bad ∨ ∃ p d, e = .get p d := by
 unfold zVr at h
 split at h
 ·exact .inr ⟨_, _, h.symm⟩
 ·exact .inr ⟨_, _, h.symm⟩
 ·split at h
  ·split at h
   ·exact .inr ⟨_, _, h.symm⟩
   ·exact .inl h.symm
  ·exact .inl h.symm
 ·exact .inl h.symm
theorem zFp {s t : TypeId} {x : D} {e : Eff} (h : zQo P s t x st = e) : e = .bad ∨ ∃ p d, e = .get p d := by
 unfold zQo at h
 split at h
 ·exact .inr ⟨_, _, h.symm⟩
 ·exact .inl h.symm
theorem zEn {t : TypeId} {n : Nat} {ps : List (Nat × D)} {e : Eff} {sh : Bool} (h : (if sh then zCo P t n ps st else zCd P t n ps st) = e) : e = .bad ∨ ∃ p b d fz, e = .new p b d fz := by
 split at h
 ·unfold zCo at h
  split at h
  ·split at h
   ·split at h
    ·exact .inr ⟨_, _, _, _, h.symm⟩
    ·exact .inl h.symm
   ·exact .inl h.symm
  ·exact .inl h.symm
 ·unfold zCd at h
  split at h
  ·split at h
   ·split at h
    ·exact .inr ⟨_, _, _, _, h.symm⟩
    ·exact .inl h.symm
   ·exact .inl h.symm
  ·exact .inl h.symm
theorem zEi {sh : Bool} {t : TypeId} {l c : D} {e : Eff} (h : zD2 P sh t l c st = e) : e = .bad ∨ ∃ p b d fz, e = .new p b d fz := by
 unfold zD2 at h
 split at h
 ·split at h
  ·exact .inr ⟨_, _, _, _, h.symm⟩
  ·exact .inl h.symm
 ·exact .inl h.symm
theorem zC0 {t : TypeId} {a x : D} {e : Eff} (h : (match a, tySz P t with
  | .own k off, some sz => match st[k]? with
   | none => .bad
   | some e => if e.kd.isMap then .bad else if e.nob then match frz false st zAl x with
     | some (d, ks) => .put (e.fz = false ∧ zEl d = true ∧ (cellsOf d).length = sz ∧ off + sz ≤ e.cells.length ∧ k ∉ ks) k { e with cells := setAt e.cells off (cellsOf d) } ks
     | none => .bad
    else .put (e.fz = false ∧ zEl x = true ∧ (cellsOf x).length = sz ∧ off + sz ≤ e.cells.length) k { e with cells := setAt e.cells off (cellsOf x) } []
  | _, _ => Eff.bad) = e) : e = .bad ∨ ∃ p k b fz, e = .put p k b fz := by
 split at h
 ·split at h
  ·exact .inl h.symm
  ·split at h
   ·exact .inl h.symm
   ·split at h
    ·split at h
     ·exact .inr ⟨_, _, _, _, h.symm⟩
     ·exact .inl h.symm
    ·exact .inr ⟨_, _, _, _, h.symm⟩
 ·exact .inl h.symm
theorem zT9 (hs : SRw β I w st) {t : TypeId} {x i : D} {u v : Value} {ok : Bool} {p : Prop} {d : D} (hx : Rel I w β x u) (hi : Rel I w β i v) (he : zHr P t x i ok st = .get p d) (hp : p) :
  ∃ y, (Instr.lookup t u v ok).run P w = .ok y w ∧ Rel I w β d y := by
 have key : ∀ (kt et : TypeId) (k : Value) (ks : List Value) (cs : List D) (es : Array MapEntry) (β0 : Be), (∀ d v, Rel I w β0 d v → Rel I w β d v) → P.underlying t = some (.map kt et) → es.toList.map (·.key) = ks → RelT I w β0 cs (es.toList.map (·.val)) →
   ((u = .map none ∧ es = #[]) ∨ ∃ b c, u = .map (some b) ∧ w.heap[b]? = some (.map es c)) → v = k → zFc P ok kt et k ks cs = .get p d → ∃ y, (Instr.lookup t u v ok).run P w = .ok y w ∧ Rel I w β d y := by
  intro kt et k ks cs es β0 up ht hk hr hu hv h
  subst hk; subst hv
  unfold zFc at h
  split at h
  ·rename_i desc z hkt hz
   simp only [Eff.get.injEq] at h
   obtain ⟨rfl, rfl⟩ := h
   obtain ⟨zv, hz1, hz2⟩ := zVs (I := I) (w := w) (β := β) hz
   have hrun := zMn (P := P) ok ht hkt hu hp.1 hp.2 hz1
   refine ⟨_, hrun, ?_⟩
   have ct : ∀ (dd : D) (vv : Value) (b : Bool), Rel I w β dd vv → Rel I w β (ctD ok dd b) (if ok then .tuple #[vv, .bool b] else vv) := by
    intro dd vv b h
    unfold ctD
    cases ok
    ·exact h
    ·simp only [if_true, Rel, RelT]
     exact ⟨_, rfl, vv, _, rfl, h, _, [], rfl, rfl, rfl⟩
   unfold zHd
   cases hf : zE1 (es.toList.map (·.key)) v with
   | none => exact ct _ _ _ hz2
   | some i =>
    obtain ⟨y, hy, _⟩ := zLz (d := desc) hf
    rw [List.getElem?_map] at hy
    obtain ⟨e0, he0, rfl⟩ := Option.map_eq_some_iff.1 hy
    simp only [Option.bind_some, he0, Option.map_some]
    have hilt : i < cs.length := by
     rw [hr.length, List.length_map]; exact (List.getElem?_eq_some_iff.1 he0).1
    obtain ⟨v', k1, k2⟩ := hr.get i cs[i] (List.getElem?_eq_getElem hilt)
    rw [List.getElem?_map, he0] at k1
    cases k1
    rw [List.getD_eq_getElem?_getD, List.getElem?_eq_getElem hilt]
    exact ct _ _ _ (up _ _ k2)
  ·cases h
 unfold zHr at he
 split at he
 ·rename_i kt et k hu
  simp only [Rel] at hi
  split at he
  ·simp only [Rel] at hx
   exact key kt et k [] [] #[] noB (fun _ _ h => h.no) hu rfl (by simp only [List.map_nil, RelT]) (.inl ⟨hx, rfl⟩) hi he
  ·simp only [Rel] at hx
   obtain ⟨b, vs, h1, h2, ⟨es, c, m1, m2, m3, _⟩, h4⟩ := hx
   exact key kt et k _ _ es noB (fun _ _ h => h.no) hu m2 (m3 ▸ h4) (.inr ⟨b, c, h1, m1⟩) hi he
  ·split at he
   ·rename_i bk hb
    split at he
    ·rename_i ks hkd
     simp only [Rel] at hx
     obtain ⟨b, c0, hb0, h1⟩ := hx
     obtain ⟨vs, ⟨es, c, m1, m2, m3, _⟩, h4⟩ := (hs _ b c0 bk hb0 hb).m hkd
     refine key kt et k _ _ es (if bk.nob then noB else β) (fun d v h => ?_) hu m2 (m3 ▸ h4) (.inr ⟨b, c, h1, m1⟩) hi he
     cases hn : bk.nob <;> rw [hn] at h
     ·exact h
     ·exact h.no
    ·cases he
   ·cases he
  ·cases he
 ·cases he
theorem zVa (hs : SRw β I w st) {t ty : TypeId} {x : D} {u : Value} {ts : Array TypeId} {us : Array Value} {p : Prop} {d : D} (hx : Rel I w β x u) (ht : ts[0]? = some t) (hu : us[0]? = some u) (he : zVr P t x st = .get p d) :
  ∃ y, (Builtin.len_ ts ty us).run P w = .ok y w ∧ Rel I w β d y := by
 have key : ∀ (kt et : TypeId) (ks : List Value) (b : Nat) (vs : List Value), P.underlying t = some (.map kt et) → MapIs w b ks vs → u = .map (some b) → d = .val (.int .i64 ks.length) → ∃ y, (Builtin.len_ ts ty us).run P w = .ok y w ∧ Rel I w β d y := by
  intro kt et ks b vs h1 ⟨es, c, m1, m2, _⟩ h3 h4
  subst h3; subst h4
  refine ⟨_, ?_, Rel.valI _⟩
  simp only [Builtin.len_, ht, hu, Sem.run_bind, run_underlying h1, Result.andThen_ok, MapKept.run_getObj_map m1, Sem.run_pure, goInt]
  rw [← m2]; simp
 unfold zVr at he
 split at he
 ·rename_i kt et h1
  simp only [Rel] at hx; subst hx
  cases he
  exact ⟨_, by simp [Builtin.len_, ht, hu, Sem.run_bind, run_underlying h1, goInt], Rel.valI _⟩
 ·rename_i kt et ks cs h1
  cases he
  simp only [Rel] at hx
  obtain ⟨b, vs, rfl, _, hm, _⟩ := hx
  exact key kt et ks b vs h1 hm rfl rfl
 ·rename_i kt et k h1
  split at he
  ·rename_i bk hb
   split at he
   ·rename_i ks hkd
    cases he
    simp only [Rel] at hx
    obtain ⟨b, c0, hb0, rfl⟩ := hx
    obtain ⟨vs, hm, _⟩ := (hs _ b c0 bk hb0 hb).m hkd
    exact key kt et ks b vs h1 hm rfl rfl
   ·cases he
  ·cases he
 ·cases he
theorem zRg (hs : SRw β I w st) {s t : TypeId} {x : D} {u : Value} {p : Prop} {d : D} (hx : Rel I w β x u) (he : zQo P s t x st = .get p d) (hp : p) : ∃ y, (convert s t u).run P w = .ok y w ∧ Rel I w β d y := by
 unfold zQo at he
 split at he
 ·rename_i e xs n h1 h2 hsrc
  cases he
  obtain ⟨ad, c, vs, rfl, k1, k2, k3⟩ := zJz hs hx hsrc
  have := zLf (P := P) (c := c) hp.1 k2 hp.2.1 k3
  refine ⟨_, ?_, Rel.valI _⟩
  simp [convert, Sem.run_bind, run_underlying h1, run_underlying h2, run_underlying hp.2.2, this]
 ·cases he
theorem zKu (h : RelT I w β sl a.tmps.toList) (hs : SRw β I w st) (o : Oper) (hl : zV T o.op = false) {p : Prop} {d : D} (he : aeff P T o.op o.type (evD sl) st = .get p d) (hp : p) :
  ∃ v, (execOp a.eval o).run P w = .ok (.value v) w ∧ Rel I w β d v := by
 unfold execOp
 generalize ho : o.op = op at hl he
 cases op <;> simp only [zV, Bool.true_eq_false] at hl <;> simp only [aeff, reduceCtorEq] at he
 case alloc => split at he <;> cases he
 case box => split at he <;> cases he
 case makeMap => split at he <;> cases he
 case buildSlice => rcases zEn he with h | ⟨_, _, _, _, h⟩ <;> cases h
 case makeSlice => rcases zEi he with h | ⟨_, _, _, _, h⟩ <;> cases h
 case store => rcases zC0 he with h | ⟨_, _, _, _, h⟩ <;> cases h
 case mapUpdate => rcases zAx he with h | ⟨_, _, _, _, h⟩ <;> cases h
 case insert => rcases zAx he with h | ⟨_, _, _, _, h⟩ <;> cases h
 case convert s t x =>
  simp only [Bool.not_eq_false'] at hl
  simp only [hl, if_true] at he
  obtain ⟨y, k1, k2⟩ := zRg hs (zAb h x) he hp
  exact ⟨y, by simp only [Sem.run_bind, k1]; rfl, k2⟩
 case lookup t x i ok =>
  obtain ⟨y, k1, k2⟩ := zT9 hs (zAb h x) (zAb h i) he hp
  exact ⟨y, by simp only [Sem.run_bind, k1]; rfl, k2⟩
 case call c =>
  obtain ⟨callee, args, ts⟩ := c
  split at he
  ·rename_i hcal
   split at he
   ·rename_i t _ x _ h1 h2
    split at he
    ·obtain ⟨v, k1, k2⟩ := zVa (ty := o.type) (ts := ts) (us := args.map a.eval) hs (zAb h x) (by rw [← Array.getElem?_toList, h1]; rfl) (by rw [← Array.getElem?_toList, Array.toList_map, h2]; rfl) he
     subst hcal
     exact ⟨v, by simp only [resolve, Sem.run_bind, Sem.run_pure, Result.andThen_ok, invoke, builtin, k1], k2⟩
    ·unfold aLen at he
     exfalso
     split at he <;> first | cases he | (split at he <;> cases he)
   ·cases he
  ·exfalso
   split at he <;> cases he
  ·exfalso
   split at he <;> cases he
  ·exfalso
   split at he
   ·rcases zJp he with h | ⟨_, _, _, _, h⟩ | ⟨_, _, _, _, h⟩ <;> cases h
   ·cases he
  ·exfalso
   split at he
   ·rcases zCn he with h | ⟨_, _, _, _, h⟩ <;> cases h
   ·cases he
  ·exfalso
   split at he
   ·rcases zBr he with h | ⟨_, _, _, _, h⟩ <;> cases h
   ·cases he
  ·cases he
  ·exfalso
   split at he
   ·rcases zAy he with h | ⟨_, _, h, _⟩ | ⟨h, _⟩ <;> cases h
   ·cases he
  ·exfalso
   split at he
   ·split at he
    ·rcases zAy he with h | ⟨_, _, h, _⟩ | ⟨h, _⟩ <;> cases h
    ·cases he
   ·cases he
 case load t x =>
  have hx := zAb h x
  split at he
  ·rename_i cs hc
   rw [hc] at hx
   simp only [Rel] at hx
   obtain ⟨b, o', hv, hr⟩ := hx
   obtain ⟨v, h1, h2⟩ := zGs (I := I) (w := w) (β := β) (b := b) (o := o') (fun j x hx => by
    obtain ⟨_, v, k1, k2, k3⟩ := hr.get j x hx
    exact ⟨v, k1, k2, k3.no⟩) he hp
   exact ⟨v, by simp only [hv, Sem.run_bind, h1]; rfl, h2⟩
  ·rename_i k off hc
   rw [hc] at hx
   simp only [Rel] at hx
   obtain ⟨b, c, hb, hv⟩ := hx
   split at he
   ·rename_i e hk
    split at he
    ·cases he
    rename_i hmap
    have ho' := (hs k b c e hb hk).c (by simpa using hmap)
    obtain ⟨v, h1, h2⟩ := zGs (I := I) (w := w) (β := β) (b := b) (o := off) (fun j x hx => by
     rw [List.getElem?_drop] at hx
     obtain ⟨v, k1, k2, k3⟩ := ho'.cells_get hx
     refine ⟨v, k1, k2, ?_⟩
     cases ha : e.nob <;> simp only [ha, if_true, if_false, Bool.false_eq_true] at k3
     ·exact k3
     ·exact k3.no) he hp
    exact ⟨v, by simp only [hv, Sem.run_bind, h1]; rfl, h2⟩
   ·cases he
  ·cases he
end
end
end Go.Proofs.YtmfamhoopjeaiaaDoor

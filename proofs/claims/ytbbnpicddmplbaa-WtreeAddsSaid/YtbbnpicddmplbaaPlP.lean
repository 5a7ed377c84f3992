/- Plain facts for the acts of chapter 39's statements. No program. -/
import Derived.Test.YtbbnpicddmplbaaRfP
import Derived.Test.YtbbnpicddmplbaaWt15
namespace Go.Proofs.Ytbbnpicddmplbaa
open Go.RowKit
set_option linter.unusedVariables false
set_option linter.unusedSimpArgs false
variable {S : Nat → Prop}

/-- An act: its kind, its value and its weight. -/
structure GAct where
  q : Nat
  v : GV
  n : Nat
def actCells (x : GAct) : List Value := [.int .u8 (x.q : Nat), .int .i64 x.v.kind, .int .i64 x.v.num, .string x.v.str, .int .u32 (x.n : Nat)]
theorem actCells_len (x : GAct) : (actCells x).length = 5 := rfl
/-- The slice value v reads in w as the acts l. -/
def ActsV (w : World) (v : Value) (l : List GAct) : Prop :=
  ∃ a cap, v = .slice a l.length cap ∧ l.length ≤ cap ∧ cap ≤ 9223372036854775807 ∧ (a = none → cap = 0) ∧ RowAt (fun _ => True) w a (l.flatMap actCells) ∧ ∀ x ∈ l, x.q < 256 ∧ x.n < 4294967296 ∧ x.v.str.size ≤ 9223372036854775807
theorem ActsV.ext {w w' : World} {v : Value} {l : List GAct} (h : ActsV w v l) (e : Ext w w') : ActsV w' v l := by
  obtain ⟨a, cap, h1, h2, h3, h4, h5, h6⟩ := h
  exact ⟨a, cap, h1, h2, h3, h4, h5.ext e, h6⟩
theorem row_act {w : World} {a : Option Addr} {l : List GAct} (h : RowAt S w a (l.flatMap actCells)) {i : Nat} {x : GAct} (hi : l[i]? = some x) :
    ∃ b o, a = some ⟨b, o, none⟩ ∧ b < w.heap.size ∧ (∀ W, Ext w W → W.cell? ⟨b, o + i * 5, none⟩ = some (.int .u8 (x.q : Nat))) ∧ (∀ W, Ext w W → W.cell? ⟨b, o + i * 5 + 1, none⟩ = some (.int .i64 x.v.kind)) ∧ (∀ W, Ext w W → W.cell? ⟨b, o + i * 5 + 2, none⟩ = some (.int .i64 x.v.num)) ∧ (∀ W, Ext w W → W.cell? ⟨b, o + i * 5 + 3, none⟩ = some (.string x.v.str)) ∧ (∀ W, Ext w W → W.cell? ⟨b, o + i * 5 + 4, none⟩ = some (.int .u32 (x.n : Nat))) := by
  obtain ⟨b, o, rfl, h0⟩ := h.get (i := i * 5 + 0) (v := .int .u8 (x.q : Nat)) (by rw [flat_get actCells_len l i 0 x (by omega) hi]; rfl)
  obtain ⟨b1, o1, e1, h1⟩ := h.get (i := i * 5 + 1) (v := .int .i64 x.v.kind) (by rw [flat_get actCells_len l i 1 x (by omega) hi]; rfl)
  obtain ⟨b2, o2, e2, h2⟩ := h.get (i := i * 5 + 2) (v := .int .i64 x.v.num) (by rw [flat_get actCells_len l i 2 x (by omega) hi]; rfl)
  obtain ⟨b3, o3, e3, h3⟩ := h.get (i := i * 5 + 3) (v := .string x.v.str) (by rw [flat_get actCells_len l i 3 x (by omega) hi]; rfl)
  obtain ⟨b4, o4, e4, h4⟩ := h.get (i := i * 5 + 4) (v := .int .u32 (x.n : Nat)) (by rw [flat_get actCells_len l i 4 x (by omega) hi]; rfl)
  cases e1
  cases e2
  cases e3
  cases e4
  refine ⟨b, o, rfl, World.block_lt_of_cell? w _ h0, fun W e => ?_, fun W e => ?_, fun W e => ?_, fun W e => ?_, fun W e => ?_⟩
  · exact e.cell h0
  · exact e.cell (by rw [Nat.add_assoc]; exact h1)
  · exact e.cell (by rw [Nat.add_assoc]; exact h2)
  · exact e.cell (by rw [Nat.add_assoc]; exact h3)
  · exact e.cell (by rw [Nat.add_assoc]; exact h4)
/-- What an act does to a sorted list. -/
def actL (d : Bool) (l : List (GV × Nat)) (x : GAct) : List (GV × Nat) :=
  if x.q % 3 = 2 then delL d x.v l else if x.v.valid = true ∧ x.n ≠ 0 then insL d (x.v, x.n) l else l
def playL (d : Bool) (acts : List GAct) : List (GV × Nat) := acts.foldl (actL d) []
theorem playL_succ (d : Bool) (l : List GAct) {k : Nat} {x : GAct} (h : l[k]? = some x) : playL d (l.take (k + 1)) = actL d (playL d (l.take k)) x := by
  obtain ⟨hk, rfl⟩ := List.getElem?_eq_some_iff.1 h
  rw [playL, List.take_succ_eq_append_getElem hk, List.foldl_append]; rfl
/-- What holds of the list behind k acts. -/
def PlayOK (d : Bool) (k : Nat) (l : List (GV × Nat)) : Prop := Sorted d l ∧ GoodL l ∧ l.length ≤ k ∧ (∀ x ∈ l, x.2 < 4294967296)
theorem PlayOK.nil (d : Bool) : PlayOK d 0 [] := ⟨List.Pairwise.nil, fun x hx => by simp at hx, by simp, fun x hx => by simp at hx⟩
theorem PlayOK.del {d : Bool} {k : Nat} {l : List (GV × Nat)} (h : PlayOK d k l) (v : GV) : PlayOK d (k + 1) (delL d v l) :=
  ⟨h.1.del v, fun x hx => h.2.1 x ((List.mem_filter.1 hx).1), Nat.le_trans (del_length_le _ _ _) (Nat.le_succ_of_le h.2.2.1), fun x hx => h.2.2.2 x ((List.mem_filter.1 hx).1)⟩
theorem PlayOK.ins {d : Bool} {k : Nat} {l : List (GV × Nat)} (h : PlayOK d k l) (e : GV × Nat) (hv : e.1.valid = true) (h0 : 0 < e.2) (hn : e.2 < 4294967296) : PlayOK d (k + 1) (insL d e l) := by
  refine ⟨h.1.ins e, fun x hx => ?_, Nat.le_trans (insL_length_le _ _ _) (Nat.succ_le_succ h.2.2.1), fun x hx => ?_⟩
  · rcases mem_insL hx with rfl | hx
    · exact ⟨hv, h0⟩
    · exact h.2.1 x hx
  · rcases mem_insL hx with rfl | hx
    · exact hn
    · exact h.2.2.2 x hx
theorem PlayOK.succ {d : Bool} {k : Nat} {l : List (GV × Nat)} (h : PlayOK d k l) : PlayOK d (k + 1) l := ⟨h.1, h.2.1, Nat.le_succ_of_le h.2.2.1, h.2.2.2⟩
theorem sumW_lt {l : List (GV × Nat)} (h : ∀ x ∈ l, x.2 < 4294967296) : sumW l ≤ l.length * 4294967296 := by
  induction l with
  | nil => simp [sumW]
  | cons x r ih =>
    have h1 := h x (List.mem_cons_self ..)
    have h2 := ih (fun y hy => h y (List.mem_cons_of_mem _ hy))
    rw [sumW_cons, List.length_cons, Nat.succ_mul]
    omega
theorem PlayOK.sum {d : Bool} {k : Nat} {l : List (GV × Nat)} (h : PlayOK d k l) (hk : k ≤ 1000) : sumW l ≤ 4294967296000 := by
  have h1 := sumW_lt h.2.2.2
  have h2 : l.length * 4294967296 ≤ 1000 * 4294967296 := Nat.mul_le_mul_right _ (Nat.le_trans h.2.2.1 hk)
  omega
theorem bigN_gt' {n : Nat} (h : n ≤ 18446744073709551616) : n < bigN := by
  have h1 : 4294967296 ^ 3 ≤ 4294967296 ^ bigK := Nat.pow_le_pow_right (by omega) (by unfold bigK; omega)
  unfold bigN
  omega
/-- Whether an input exceeds the size bounds. -/
def greatB (l : List GAct) : Bool := l.any (fun x => decide (100 < x.v.str.size)) || decide (150 < l.length)
end Go.Proofs.Ytbbnpicddmplbaa

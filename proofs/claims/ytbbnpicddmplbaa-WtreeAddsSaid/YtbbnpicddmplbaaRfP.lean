/- Plain facts for the reference of chapter 39: sorted lists of items, and slices of structs in memory. No program. -/
import Derived.Test.YtbbnpicddmplbaaAvl3
import Derived.Test.YtbbnpicddmplbaaLgP
namespace Go.Proofs.Ytbbnpicddmplbaa
open Go.RowKit
set_option linter.unusedVariables false
set_option linter.unusedSimpArgs false
variable {S : Nat → Prop}

/-- The cells of a row of structs of n cells each. -/
theorem flat_get {α : Type} {f : α → List Value} {n : Nat} (hf : ∀ x, (f x).length = n) : ∀ (l : List α) (i j : Nat) (x : α), j < n → l[i]? = some x → (l.flatMap f)[i * n + j]? = (f x)[j]?
  | [], i, j, x, _, h => by simp at h
  | y :: l, 0, j, x, hj, h => by
    simp only [List.getElem?_cons_zero, Option.some.injEq] at h
    subst h
    rw [List.flatMap_cons, Nat.zero_mul, Nat.zero_add, List.getElem?_append_left (by rw [hf]; exact hj)]
  | y :: l, i + 1, j, x, hj, h => by
    simp only [List.getElem?_cons_succ] at h
    have := flat_get hf l i j x hj h
    rw [List.flatMap_cons, List.getElem?_append_right (by rw [hf, Nat.succ_mul]; omega), hf, ← this]
    congr 1
    rw [Nat.succ_mul]; omega
theorem flat_len {α : Type} {f : α → List Value} {n : Nat} (hf : ∀ x, (f x).length = n) : ∀ l : List α, (l.flatMap f).length = l.length * n
  | [] => by simp
  | y :: l => by rw [List.flatMap_cons, List.length_append, hf, flat_len hf l, List.length_cons, Nat.succ_mul]; omega
/-- The cells of ref's Item. -/
def itemCells (x : GV × Nat) : List Value := [.int .i64 x.1.kind, .int .i64 x.1.num, .string x.1.str, .int .u64 (x.2 : Nat)]
theorem itemCells_len (x : GV × Nat) : (itemCells x).length = 4 := rfl
/-- The slice value v reads in w as the items l. -/
def ItemsV (S : Nat → Prop) (w : World) (v : Value) (l : List (GV × Nat)) : Prop :=
  ∃ a cap, v = .slice a l.length cap ∧ l.length ≤ cap ∧ cap ≤ 9223372036854775807 ∧ (a = none → cap = 0) ∧ RowAt S w a (l.flatMap itemCells)
theorem ItemsV.ext {w w' : World} {v : Value} {l : List (GV × Nat)} (h : ItemsV S w v l) (e : Ext w w') : ItemsV S w' v l := by
  obtain ⟨a, cap, h1, h2, h3, h4, h5⟩ := h
  exact ⟨a, cap, h1, h2, h3, h4, h5.ext e⟩
theorem ItemsV.mono {S' : Nat → Prop} {w : World} {v : Value} {l : List (GV × Nat)} (h : ItemsV S w v l) (hm : ∀ b, S b → S' b) : ItemsV S' w v l := by
  obtain ⟨a, cap, h1, h2, h3, h4, h5⟩ := h
  exact ⟨a, cap, h1, h2, h3, h4, h5.mono hm⟩
theorem ItemsV.old {w : World} {v : Value} {l : List (GV × Nat)} (h : ItemsV S w v l) : ItemsV (fun b => S b ∧ b < w.heap.size) w v l := by
  obtain ⟨a, cap, h1, h2, h3, h4, h5⟩ := h
  exact ⟨a, cap, h1, h2, h3, h4, h5.old⟩
theorem ItemsV.but {G : Nat → Prop} {w w' : World} (hg : ∀ b, S b → ¬ G b) (e : ExtBut G w w') {v : Value} {l : List (GV × Nat)} (h : ItemsV S w v l) : ItemsV S w' v l := by
  obtain ⟨a, cap, h1, h2, h3, h4, h5⟩ := h
  exact ⟨a, cap, h1, h2, h3, h4, h5.but hg e⟩
theorem ItemsV.nil (w : World) : ItemsV S w (.slice none 0 0) [] := ⟨none, 0, rfl, by simp, by simp, fun _ => rfl, .inl rfl⟩
theorem row_item {w : World} {a : Option Addr} {l : List (GV × Nat)} (h : RowAt S w a (l.flatMap itemCells)) {i : Nat} {x : GV × Nat} (hi : l[i]? = some x) :
    ∃ b o, a = some ⟨b, o, none⟩ ∧ (∀ W, Ext w W → W.cell? ⟨b, o + i * 4, none⟩ = some (.int .i64 x.1.kind)) ∧ (∀ W, Ext w W → W.cell? ⟨b, o + i * 4 + 1, none⟩ = some (.int .i64 x.1.num)) ∧ (∀ W, Ext w W → W.cell? ⟨b, o + i * 4 + 2, none⟩ = some (.string x.1.str)) ∧ (∀ W, Ext w W → W.cell? ⟨b, o + i * 4 + 3, none⟩ = some (.int .u64 (x.2 : Nat))) := by
  obtain ⟨b, o, rfl, h0⟩ := h.get (i := i * 4 + 0) (v := .int .i64 x.1.kind) (by rw [flat_get itemCells_len l i 0 x (by omega) hi]; rfl)
  obtain ⟨b1, o1, e1, h1⟩ := h.get (i := i * 4 + 1) (v := .int .i64 x.1.num) (by rw [flat_get itemCells_len l i 1 x (by omega) hi]; rfl)
  obtain ⟨b2, o2, e2, h2⟩ := h.get (i := i * 4 + 2) (v := .string x.1.str) (by rw [flat_get itemCells_len l i 2 x (by omega) hi]; rfl)
  obtain ⟨b3, o3, e3, h3⟩ := h.get (i := i * 4 + 3) (v := .int .u64 (x.2 : Nat)) (by rw [flat_get itemCells_len l i 3 x (by omega) hi]; rfl)
  cases e1
  cases e2
  cases e3
  refine ⟨b, o, rfl, fun W e => ?_, fun W e => ?_, fun W e => ?_, fun W e => ?_⟩
  · exact e.cell h0
  · exact e.cell (by rw [Nat.add_assoc]; exact h1)
  · exact e.cell (by rw [Nat.add_assoc]; exact h2)
  · exact e.cell (by rw [Nat.add_assoc]; exact h3)
theorem oneCells_items (l : List (GV × Nat)) : ∀ u ∈ l.flatMap itemCells, u.oneCell' = true := by
  intro u hu
  obtain ⟨x, -, hx⟩ := List.mem_flatMap.1 hu
  simp only [itemCells, List.mem_cons, List.not_mem_nil, or_false] at hx
  rcases hx with rfl | rfl | rfl | rfl <;> rfl
theorem own_items {w : World} {base : Nat} {e : TypeId} {v : Value} {l : List (GV × Nat)} (hS : ∀ b, base ≤ b → S b) (h : w.ownsRow base e 4 v l.length (l.flatMap itemCells)) : ItemsV S w v l := by
  obtain ⟨a, cap, h1, h2, h3, h4, h5⟩ := own_row hS h
  exact ⟨a, cap, h1, h2, h3, h4, h5⟩
/-- One round of ref's Put. -/
def rstep (d : Bool) (e : GV × Nat) (st : List (GV × Nat) × Bool) (x : GV × Nat) : List (GV × Nat) × Bool :=
  (st.1 ++ (if !st.2 && decide (tcmp d e.1 x.1 ≤ 0) then [e] else []) ++ (if tcmp d e.1 x.1 = 0 then [] else [x]), st.2 || decide (tcmp d e.1 x.1 ≤ 0))
def rputTo (d : Bool) (e : GV × Nat) (l : List (GV × Nat)) (k : Nat) : List (GV × Nat) × Bool := (l.take k).foldl (rstep d e) ([], false)
theorem rputTo_zero (d : Bool) (e : GV × Nat) (l : List (GV × Nat)) : rputTo d e l 0 = ([], false) := rfl
theorem rputTo_succ (d : Bool) (e : GV × Nat) (l : List (GV × Nat)) {k : Nat} {x : GV × Nat} (h : l[k]? = some x) : rputTo d e l (k + 1) = rstep d e (rputTo d e l k) x := by
  obtain ⟨hk, rfl⟩ := List.getElem?_eq_some_iff.1 h
  rw [rputTo, List.take_succ_eq_append_getElem hk, List.foldl_append]; rfl
theorem rput_done {d : Bool} {e : GV × Nat} : ∀ (l acc : List (GV × Nat)), (∀ x ∈ l, tcmp d e.1 x.1 ≠ 0) → l.foldl (rstep d e) (acc, true) = (acc ++ l, true)
  | [], acc, _ => by simp
  | x :: l, acc, h => by
    have hx := h x (List.mem_cons_self ..)
    rw [List.foldl_cons, rstep]
    simp only [Bool.not_true, Bool.false_and, Bool.false_eq_true, if_false, List.append_nil, hx, Bool.true_or]
    rw [rput_done l _ (fun y hy => h y (List.mem_cons_of_mem _ hy)), List.append_assoc]
    rfl
theorem rput_open {d : Bool} {e : GV × Nat} : ∀ (l acc : List (GV × Nat)), Sorted d l → (if (l.foldl (rstep d e) (acc, false)).2 then (l.foldl (rstep d e) (acc, false)).1 else (l.foldl (rstep d e) (acc, false)).1 ++ [e]) = acc ++ insL d e l
  | [], acc, _ => by simp [insL]
  | x :: l, acc, hs => by
    have hr := (List.pairwise_cons.1 hs).1
    rcases tcmp_range d e.1 x.1 with k | k | k
    · have hl : ∀ y ∈ l, tcmp d e.1 y.1 ≠ 0 := fun y hy => by have := tcmp_trans k (hr y hy); omega
      rw [List.foldl_cons, rstep]
      simp only [Bool.not_false, Bool.true_and, k, decide_true, show ((-1 : Int) ≤ 0) from by omega, if_true, show ¬ ((-1 : Int) = 0) from by omega, if_false, Bool.false_or]
      rw [rput_done l _ hl, insL, if_pos (show tcmp d e.1 x.1 < 0 by omega)]
      simp
    · have hx := tcmp_eq k
      have hl : ∀ y ∈ l, tcmp d e.1 y.1 ≠ 0 := fun y hy => by have := hr y hy; rw [hx]; omega
      rw [List.foldl_cons, rstep]
      simp only [Bool.not_false, Bool.true_and, k, decide_true, show ((0 : Int) ≤ 0) from by omega, if_true, if_false, Bool.false_or]
      rw [rput_done l _ hl, insL, if_neg (show ¬ tcmp d e.1 x.1 < 0 by omega), if_pos k]
      simp
    · rw [List.foldl_cons, rstep]
      simp only [k, show ¬ ((1 : Int) ≤ 0) from by omega, decide_false, Bool.and_false, Bool.false_eq_true, if_false, List.append_nil, show ¬ ((1 : Int) = 0) from by omega, Bool.or_self]
      rw [rput_open l (acc ++ [x]) (List.pairwise_cons.1 hs).2, insL, if_neg (show ¬ tcmp d e.1 x.1 < 0 by omega), if_neg (show ¬ tcmp d e.1 x.1 = 0 by omega), List.append_assoc]
      rfl
theorem rput_end {d : Bool} {e : GV × Nat} {l : List (GV × Nat)} (hs : Sorted d l) : (if (rputTo d e l l.length).2 then (rputTo d e l l.length).1 else (rputTo d e l l.length).1 ++ [e]) = insL d e l := by
  have := rput_open (d := d) (e := e) l [] hs
  rw [rputTo, List.take_length]
  simpa using this
theorem rput_len (d : Bool) (e : GV × Nat) (l : List (GV × Nat)) : ∀ k, k ≤ l.length → (rputTo d e l k).1.length ≤ 2 * k
  | 0, _ => by simp [rputTo]
  | k + 1, h => by
    have ih := rput_len d e l k (by omega)
    have hx : l[k]? = some l[k] := List.getElem?_eq_getElem (by omega)
    rw [rputTo_succ d e l hx, rstep, List.length_append, List.length_append]
    have h1 : ∀ (c : Prop) [Decidable c] (a : GV × Nat), (if c then [a] else ([] : List (GV × Nat))).length ≤ 1 := fun c _ a => by split <;> simp
    have h2 : ∀ (c : Prop) [Decidable c] (a : GV × Nat), (if c then ([] : List (GV × Nat)) else [a]).length ≤ 1 := fun c _ a => by split <;> simp
    have h3 := h1 ((!(rputTo d e l k).2 && decide (tcmp d e.1 l[k].1 ≤ 0)) = true) e
    have h4 := h2 (tcmp d e.1 l[k].1 = 0) l[k]
    omega
/-- Two values that differ. -/
theorem GV.ne_cases {a b : GV} (h : a ≠ b) : (a.kind == b.kind) = false ∨ (a.kind = b.kind ∧ (a.num == b.num) = false) ∨ (a.kind = b.kind ∧ a.num = b.num ∧ (a.str.toList == b.str.toList) = false) := by
  by_cases h1 : a.kind = b.kind
  · by_cases h2 : a.num = b.num
    · refine .inr (.inr ⟨h1, h2, ?_⟩)
      by_cases h3 : a.str.toList = b.str.toList
      · rw [ByteArray.toList_eq, ByteArray.toList_eq] at h3
        exact absurd (GV.ext h1 h2 h3) h
      · simpa using h3
    · exact .inr (.inl ⟨h1, by simpa using h2⟩)
  · exact .inl (by simpa using h1)
end Go.Proofs.Ytbbnpicddmplbaa

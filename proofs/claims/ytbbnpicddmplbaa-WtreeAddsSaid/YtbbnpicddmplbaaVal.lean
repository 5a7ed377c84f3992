/- Values (layer 1): their order, their comparison and their validity, as the program and as the references compute them. -/
import Derived.Test.YtbbnpicddmplbaaNat
import Derived.Lib.Bytealg
import Derived.Lib.Strings
import Derived.Laws.StructEq
namespace Go.Proofs.Ytbbnpicddmplbaa
open Go.RowKit
set_option linter.unusedVariables false
set_option linter.unusedSimpArgs false

/-- api.Value -/
structure GV where
  kind : Int
  num : Int
  str : ByteArray
def GV.val (v : GV) : Value := .agg #[.int .i64 v.kind, .int .i64 v.num, .string v.str]
def GV.bytes (v : GV) : List UInt8 := v.str.data.toList
theorem GV.ext {a b : GV} (h1 : a.kind = b.kind) (h2 : a.num = b.num) (h3 : a.bytes = b.bytes) : a = b := by
  cases a with | mk k n s => cases b with | mk k' n' s' =>
  simp only [GV.bytes] at *
  subst h1 h2
  have : s = s' := by
    cases s with | mk d => cases s' with | mk d' =>
    have : d = d' := Array.toList_inj.1 h3
    rw [this]
  rw [this]

theorem cb_refl : ∀ a : List UInt8, Lib.compareBytes a a = 0
  | [] => rfl
  | x :: a => by
    have h : ¬ x < x := UInt8.lt_irrefl x
    simp only [Lib.compareBytes, h, if_false]
    exact cb_refl a
theorem cb_eq : ∀ {a b : List UInt8}, Lib.compareBytes a b = 0 → a = b
  | [], [], _ => rfl
  | [], _ :: _, h => by simp [Lib.compareBytes] at h
  | _ :: _, [], h => by simp [Lib.compareBytes] at h
  | x :: a, y :: b, h => by
    unfold Lib.compareBytes at h
    by_cases h1 : x < y
    · simp [h1] at h
    · by_cases h2 : y < x
      · simp [h1, h2] at h
      · simp only [h1, h2, if_false] at h
        have e : x = y := UInt8.le_antisymm (UInt8.not_lt.1 h2) (UInt8.not_lt.1 h1)
        rw [e, cb_eq h]
theorem cb_range : ∀ a b : List UInt8, Lib.compareBytes a b = -1 ∨ Lib.compareBytes a b = 0 ∨ Lib.compareBytes a b = 1
  | [], [] => .inr (.inl rfl)
  | [], _ :: _ => .inl rfl
  | _ :: _, [] => .inr (.inr rfl)
  | x :: a, y :: b => by
    unfold Lib.compareBytes
    split
    · exact .inl rfl
    · split
      · exact .inr (.inr rfl)
      · exact cb_range a b
theorem cb_swap : ∀ a b : List UInt8, Lib.compareBytes b a = - Lib.compareBytes a b
  | [], [] => rfl
  | [], _ :: _ => rfl
  | _ :: _, [] => rfl
  | x :: a, y :: b => by
    have ih := cb_swap a b
    unfold Lib.compareBytes
    by_cases h1 : x < y
    · have h2 : ¬ y < x := fun h => UInt8.lt_irrefl x (UInt8.lt_trans h1 h)
      simp [h1, h2]
    · by_cases h2 : y < x
      · simp [h1, h2]
      · simp [h1, h2, ih]
theorem cb_trans : ∀ {a b c : List UInt8}, Lib.compareBytes a b = -1 → Lib.compareBytes b c = -1 → Lib.compareBytes a c = -1
  | [], [], _, h, _ => by simp [Lib.compareBytes] at h
  | [], _ :: _, [], _, h => by simp [Lib.compareBytes] at h
  | [], _ :: _, _ :: _, _, _ => rfl
  | _ :: _, [], _, h, _ => by simp [Lib.compareBytes] at h
  | _ :: _, _ :: _, [], _, h => by simp [Lib.compareBytes] at h
  | x :: a, y :: b, z :: c, h, h' => by
    unfold Lib.compareBytes at *
    by_cases h1 : x < y
    · by_cases h2 : y < z
      · simp [UInt8.lt_trans h1 h2]
      · by_cases h3 : z < y
        · simp [h2, h3] at h'
        · have e : y = z := UInt8.le_antisymm (UInt8.not_lt.1 h3) (UInt8.not_lt.1 h2)
          rw [← e]; simp [h1]
    · by_cases h2 : y < x
      · simp [h1, h2] at h
      · have e : x = y := UInt8.le_antisymm (UInt8.not_lt.1 h2) (UInt8.not_lt.1 h1)
        subst e
        by_cases h3 : x < z
        · simp [h3]
        · by_cases h4 : z < x
          · simp [h3, h4] at h'
          · simp only [h1, h3, h4, if_false] at *
            exact cb_trans h h'
theorem bl_iff : ∀ a b : List UInt8, Op.bytesLess a b = decide (Lib.compareBytes a b = -1)
  | [], [] => rfl
  | [], _ :: _ => by simp [Op.bytesLess, Lib.compareBytes]
  | _ :: _, [] => by simp [Op.bytesLess, Lib.compareBytes]
  | x :: a, y :: b => by
    have ih := bl_iff a b
    unfold Op.bytesLess Lib.compareBytes
    by_cases h1 : x < y
    · simp [h1]
    · by_cases h2 : y < x
      · have : ¬ x = y := fun e => h1 (e ▸ h2)
        simp [h1, h2, this]
      · have e : x = y := UInt8.le_antisymm (UInt8.not_lt.1 h2) (UInt8.not_lt.1 h1)
        simp [h1, h2, e, ih]

/-- The order of values: -1, 0 or 1 -/
def vcmp (a b : GV) : Int :=
  if a.kind = b.kind then (if a.num = b.num then Lib.compareBytes a.bytes b.bytes else cmpI a.num b.num) else cmpI a.kind b.kind
theorem vcmp_range (a b : GV) : vcmp a b = -1 ∨ vcmp a b = 0 ∨ vcmp a b = 1 := by
  unfold vcmp cmpI
  split
  · split
    · exact cb_range _ _
    · split
      · exact .inl rfl
      · split
        · exact .inr (.inr rfl)
        · exact .inr (.inl rfl)
  · split
    · exact .inl rfl
    · split
      · exact .inr (.inr rfl)
      · exact .inr (.inl rfl)
theorem vcmp_refl (a : GV) : vcmp a a = 0 := by simp [vcmp, cb_refl]
theorem vcmp_eq {a b : GV} (h : vcmp a b = 0) : a = b := by
  unfold vcmp cmpI at h
  split at h
  · rename_i h1
    split at h
    · rename_i h2
      exact GV.ext h1 h2 (cb_eq h)
    · exfalso; split at h <;> omega
  · exfalso; split at h <;> omega
theorem vcmp_eq_iff (a b : GV) : vcmp a b = 0 ↔ a = b := ⟨vcmp_eq, fun h => h ▸ vcmp_refl a⟩
theorem cmpI_swap (a b : Int) : cmpI b a = - cmpI a b := by
  unfold cmpI
  split <;> split <;> omega
theorem vcmp_swap (a b : GV) : vcmp b a = - vcmp a b := by
  unfold vcmp
  by_cases h1 : a.kind = b.kind
  · by_cases h2 : a.num = b.num
    · rw [if_pos h1.symm, if_pos h2.symm, if_pos h1, if_pos h2, cb_swap]
    · rw [if_pos h1.symm, if_neg (Ne.symm h2), if_pos h1, if_neg h2, cmpI_swap]
  · rw [if_neg (Ne.symm h1), if_neg h1, cmpI_swap]
theorem cmpI_neg {a b : Int} : cmpI a b = -1 ↔ a < b := by unfold cmpI; split <;> (try split) <;> omega
theorem vcmp_lt {a b : GV} : vcmp a b = -1 ↔ a.kind < b.kind ∨ (a.kind = b.kind ∧ (a.num < b.num ∨ (a.num = b.num ∧ Lib.compareBytes a.bytes b.bytes = -1))) := by
  unfold vcmp
  split
  · split
    · constructor
      · intro h; exact .inr ⟨by assumption, .inr ⟨by assumption, h⟩⟩
      · rintro (h | ⟨_, h | ⟨_, h⟩⟩)
        · omega
        · omega
        · exact h
    · rw [cmpI_neg]
      constructor
      · intro h; exact .inr ⟨by assumption, .inl h⟩
      · rintro (h | ⟨_, h | ⟨_, h⟩⟩) <;> omega
  · rw [cmpI_neg]
    constructor
    · intro h; exact .inl h
    · rintro (h | ⟨_, h | ⟨_, h⟩⟩) <;> omega
theorem vcmp_trans {a b c : GV} (h : vcmp a b = -1) (h' : vcmp b c = -1) : vcmp a c = -1 := by
  rw [vcmp_lt] at *
  rcases h with h | ⟨h1, h | ⟨h2, h⟩⟩ <;> rcases h' with h' | ⟨h1', h' | ⟨h2', h'⟩⟩
  · exact .inl (by omega)
  · exact .inl (by omega)
  · exact .inl (by omega)
  · exact .inl (by omega)
  · exact .inr ⟨by omega, .inl (by omega)⟩
  · exact .inr ⟨by omega, .inl (by omega)⟩
  · exact .inl (by omega)
  · exact .inr ⟨by omega, .inl (by omega)⟩
  · exact .inr ⟨by omega, .inr ⟨by omega, cb_trans h h'⟩⟩
/-- is it a value? -/
def GV.valid (v : GV) : Bool := (decide (v.kind = 1) && v.bytes.isEmpty) || (decide (v.kind = 2) && decide (v.num = 0) && decide (v.bytes.length ≤ 24))
end Go.Proofs.Ytbbnpicddmplbaa

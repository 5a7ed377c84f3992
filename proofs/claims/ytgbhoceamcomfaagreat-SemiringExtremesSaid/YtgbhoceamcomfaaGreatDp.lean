/- Plain lemmas on data: numbers in slots, rows of digits. -/
import Derived.Test.YtgbhoceamcomfaaGreatAb28
namespace Go.Proofs.YtgbhoceamcomfaaGreat
open Go.RowKit
set_option linter.unusedVariables false
set_option linter.unusedSimpArgs false
theorem map_ne {α β : Type} {f : α → β} {l : List α} (h : 0 < l.length) : l.map f ≠ [] := fun e => by
  rw [List.map_eq_nil_iff] at e; subst e; simp at h
theorem headD_map {α : Type} (f : α → D) (l : List α) (d0 : α) (k : Nat) (h : k < l.length) : ((l.map f).drop k).headD .unk = f (l.getD k d0) := by
  rw [List.drop_eq_getElem_cons (by simpa using h)]; simp [h]
abbrev rowD (r : List D) : D := .row r r.length
theorem headD_rows (l : List (List D)) (k : Nat) (h : k < l.length) : ((l.map rowD).drop k).headD .unk = rowD (l.getD k []) := headD_map rowD l [] k h
theorem flat_succ (l : List (List D)) (k : Nat) (h : k < l.length) : (l.take (k + 1)).flatten = (l.take k).flatten ++ l.getD k [] := by
  rw [List.take_succ_eq_append_getElem h, List.flatten_append]
  simp only [List.flatten_cons, List.flatten_nil, List.append_nil, List.getD_eq_getElem?_getD, List.getElem?_eq_getElem h, Option.getD_some]
theorem flat_le (l : List (List D)) (k : Nat) : (l.take k).flatten.length ≤ l.flatten.length := by
  conv => rhs; rw [← List.take_append_drop k l, List.flatten_append, List.length_append]
  omega
theorem cast_add (a b : Nat) : (a : Int) + (b : Int) = ((a + b : Nat) : Int) := by simp
theorem cast_mul (a b : Nat) : (a : Int) * (b : Int) = ((a * b : Nat) : Int) := by simp
theorem cast_add1 (a : Nat) : (a : Int) + 1 = ((a + 1 : Nat) : Int) := by simp
theorem cast_pred (a : Nat) (h : 1 ≤ a) : (a : Int) - 1 = ((a - 1 : Nat) : Int) := by omega
theorem cast_sub (a b : Nat) (h : b ≤ a) : (a : Int) - (b : Int) = ((a - b : Nat) : Int) := by omega
theorem wrap_u32_cast (n : Nat) : IntKind.u32.wrap (n : Int) = ((n % 4294967296 : Nat) : Int) := by
  simp only [IntKind.wrap, IntKind.bits, IntKind.signed, Bool.false_and, Bool.false_eq_true, if_false]; omega
theorem fdiv_32 (n : Nat) : Int.fdiv (n : Int) (2 ^ 32) = ((n / 4294967296 : Nat) : Int) := by
  rw [Int.fdiv_eq_ediv_of_nonneg _ (by decide)]; omega
abbrev dig (x : Nat) : D := .val (.int .u32 x)
abbrev digR (l : List Nat) : D := .row (l.map dig) l.length
theorem headD_dig (l : List Nat) (k : Nat) (h : k < l.length) : ((l.map dig).drop k).headD .unk = dig (l.getD k 0) := by
  rw [List.drop_eq_getElem_cons (by simpa using h)]; simp [h]
theorem set_dig (l : List Nat) (k x : Nat) : (l.map dig).set k (.val (.int .u32 (x : Int))) = (l.set k x).map dig := by
  rw [List.map_set]
theorem repL_dig (n : Nat) : repL n [.val (.int .u32 0)] = (List.replicate n 0).map dig := by
  rw [List.map_replicate]
  induction n with
  | zero => rfl
  | succ n ih => simp only [repL, List.replicate_succ, List.flatten_cons, List.cons_append, List.nil_append] at ih ⊢; rw [ih]; rfl
theorem take_dig (l : List Nat) (n : Nat) : (l.map dig).take n = (l.take n).map dig := by rw [List.map_take]
/-- canonical digits -/
def dg (n : Nat) : List Nat := if h : n = 0 then [] else n % 4294967296 :: dg (n / 4294967296)
 decreasing_by omega
theorem nval_dg (n : Nat) : nval (dg n) = n := by
  induction n using Nat.strongRecOn with
  | _ n ih =>
    unfold dg
    split
    · simp [nval, *]
    · rw [nval, ih _ (by omega)]; omega
theorem digs_dg (n : Nat) : Digs (dg n) := by
  induction n using Nat.strongRecOn with
  | _ n ih =>
    intro i
    unfold dg
    split
    · simp
    · cases i with
      | zero => simp; omega
      | succ i => simp only [List.getD_cons_succ]; exact ih _ (by omega) i
theorem dg_ne {n : Nat} (h : n ≠ 0) : dg n ≠ [] := by unfold dg; simp [h]
theorem normal_cons {x : Nat} {l : List Nat} (h : Normal (x :: l)) : Normal l ∧ (l = [] → x ≠ 0) := by
  rcases h with h | h
  · cases h
  · cases l with
    | nil => exact ⟨.inl rfl, fun _ => by simpa using h⟩
    | cons y l => exact ⟨.inr (by simpa using h), fun h => by cases h⟩
theorem dg_nval : ∀ (l : List Nat), Normal l → Digs l → dg (nval l) = l
  | [], _, _ => by unfold dg; simp [nval]
  | x :: l, hn, hd => by
    obtain ⟨h1, h2⟩ := normal_cons hn
    have hx : x < 4294967296 := by simpa using hd 0
    have ih := dg_nval l h1 (fun i => by simpa using hd (i + 1))
    have hne : nval (x :: l) ≠ 0 := fun h => by
      have := (Normal.zero hn).1 h
      cases this
    rw [nval] at hne ⊢
    unfold dg
    rw [dif_neg hne, show (x + 4294967296 * nval l) % 4294967296 = x by omega, show (x + 4294967296 * nval l) / 4294967296 = nval l by omega, ih]
theorem trim_dg {l : List Nat} (hl : Digs l) : l.take (trimLen l l.length) = dg (nval l) := by
  have h1 := nval_trim l l.length (Nat.le_refl _)
  have h2 := normal_trim l l.length (Nat.le_refl _)
  rw [List.take_length] at h1
  rw [← h1, dg_nval _ h2 (hl.take _)]
theorem normal_dg (n : Nat) : Normal (dg n) := by
  have h := normal_trim (dg n) (dg n).length (Nat.le_refl _)
  rw [trim_dg (digs_dg n), nval_dg] at h; exact h
theorem dg_len {l : List Nat} (hl : Digs l) : (dg (nval l)).length ≤ l.length := by
  rw [← trim_dg hl, List.length_take]; omega
theorem map_dig_ne {l : List Nat} {n : Nat} (h : n < l.length) : l.map dig ≠ [] := fun e => by
  rw [List.map_eq_nil_iff] at e; subst e; simp at h
def cmpD (a b : Int) : Int := if a < b then -1 else if b < a then 1 else 0
theorem cmpD_eq {a b c d : Nat} (h1 : a < b → c < d) (h2 : b < a → d < c) (h3 : a = b → c = d) : cmpD a b = cmpD c d := by
  unfold cmpD
  rcases Nat.lt_trichotomy a b with h | h | h
  · have := h1 h; rw [if_pos (by omega), if_pos (by omega)]
  · have := h3 h; rw [if_neg (by omega), if_neg (by omega), if_neg (by omega), if_neg (by omega)]
  · have := h2 h; rw [if_neg (by omega), if_pos (by omega), if_neg (by omega), if_pos (by omega)]
abbrev natD (n : Nat) : D := digR (dg n)
end Go.Proofs.YtgbhoceamcomfaaGreat

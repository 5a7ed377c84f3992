/- Decimal digits: plain lemmas. -/
import Derived.Test.YtgbhoceamcomfaaGreatDp
namespace Go.Proofs.YtgbhoceamcomfaaGreat
open Go.RowKit
set_option linter.unusedVariables false
set_option linter.unusedSimpArgs false
def val10 : List Nat → Nat
  | [] => 0
  | x :: l => x + 10 * val10 l
def Dec (l : List Nat) : Prop := ∀ x ∈ l, x < 10
def d10 (n : Nat) : List Nat := if h : n = 0 then [] else n % 10 :: d10 (n / 10)
 decreasing_by omega
theorem d10_zero : d10 0 = [] := by unfold d10; simp
theorem d10_pos {n : Nat} (h : n ≠ 0) : d10 n = n % 10 :: d10 (n / 10) := by conv => lhs; unfold d10
                                                                             simp [h]
theorem val_d10 (n : Nat) : val10 (d10 n) = n := by
  induction n using Nat.strongRecOn with
  | _ n ih =>
    by_cases h : n = 0
    · subst h; rw [d10_zero]; rfl
    · rw [d10_pos h, val10, ih _ (by omega)]; omega
theorem dec_d10 (n : Nat) : Dec (d10 n) := by
  induction n using Nat.strongRecOn with
  | _ n ih =>
    by_cases h : n = 0
    · subst h; rw [d10_zero]; intro x hx; cases hx
    · rw [d10_pos h]
      intro x hx
      rcases List.mem_cons.1 hx with rfl | hx
      · omega
      · exact ih _ (by omega) x hx
theorem val10_append (a b : List Nat) : val10 (a ++ b) = val10 a + 10 ^ a.length * val10 b := by
  induction a with
  | nil => simp [val10]
  | cons x a ih =>
    rw [List.cons_append, val10, ih, val10, List.length_cons, Nat.pow_succ, Nat.mul_add, Nat.mul_comm (10 ^ a.length) 10, Nat.mul_assoc, Nat.add_assoc]
theorem d10_val : ∀ (l : List Nat), Normal l → Dec l → d10 (val10 l) = l
  | [], _, _ => d10_zero
  | x :: l, hn, hd => by
    have hx := hd x (List.mem_cons_self ..)
    obtain ⟨h1, h2⟩ := normal_cons hn
    have ih := d10_val l h1 fun y hy => hd y (List.mem_cons_of_mem _ hy)
    have hne : val10 (x :: l) ≠ 0 := by
      intro h
      rw [val10] at h
      have h3 : val10 l = 0 := by omega
      rw [h3, d10_zero] at ih
      have := h2 ih.symm
      omega
    rw [d10_pos hne, val10, show (x + 10 * val10 l) % 10 = x by omega, show (x + 10 * val10 l) / 10 = val10 l by omega, ih]
theorem val10_trim (l : List Nat) : ∀ n, n ≤ l.length → val10 (l.take (trimLen l n)) = val10 (l.take n)
  | 0, _ => by simp [trimLen]
  | n + 1, h => by
    unfold trimLen
    split
    · rename_i h0
      rw [val10_trim l n (by omega), take_snoc l n (by omega), val10_append, h0]
      simp [val10]
    · rfl
theorem d10_trim {l : List Nat} (h : Dec l) : l.take (trimLen l l.length) = d10 (val10 l) := by
  have h1 := val10_trim l l.length (Nat.le_refl _)
  have h2 := normal_trim l l.length (Nat.le_refl _)
  rw [List.take_length] at h1
  rw [← h1, d10_val _ h2 fun x hx => h x (List.mem_of_mem_take hx)]
theorem normal_d10 (n : Nat) : Normal (d10 n) := by
  have h := normal_trim (d10 n) (d10 n).length (Nat.le_refl _)
  rw [d10_trim (dec_d10 n), val_d10] at h; exact h
theorem d10_lt {n k : Nat} (h : n < 10 ^ k) : (d10 n).length ≤ k := by
  induction k generalizing n with
  | zero => obtain rfl : n = 0 := by simpa using h
            rw [d10_zero]; simp
  | succ k ih =>
    by_cases h0 : n = 0
    · subst h0; rw [d10_zero]; simp
    · rw [d10_pos h0, List.length_cons]
      have := ih (n := n / 10) (by rw [Nat.pow_succ] at h; omega)
      omega
theorem d10_nil {n : Nat} : (d10 n).length = 0 ↔ n = 0 := by
  constructor
  · intro h
    have := val_d10 n
    rw [List.eq_nil_of_length_eq_zero h] at this
    exact this.symm
  · rintro rfl; rw [d10_zero]; rfl
theorem val10_lt {l : List Nat} (h : Dec l) : val10 l < 10 ^ l.length := by
  induction l with
  | nil => simp [val10]
  | cons x l ih =>
    have hx := h x (List.mem_cons_self ..)
    have := ih fun y hy => h y (List.mem_cons_of_mem _ hy)
    rw [val10, List.length_cons, Nat.pow_succ]; omega
theorem d10_len_lt {a b : Nat} (h : (d10 a).length < (d10 b).length) : a < b := by
  have h1 := val10_lt (dec_d10 a)
  rw [val_d10] at h1
  refine Nat.lt_of_not_le fun h2 => ?_
  have h3 : b < 10 ^ (d10 a).length := Nat.lt_of_le_of_lt h2 h1
  have := d10_lt h3
  omega
theorem Dec.get {l : List Nat} (h : Dec l) (k : Nat) : l.getD k 0 < 10 := by
  rw [List.getD_eq_getElem?_getD]
  cases hk : l[k]? with
  | none => simp
  | some x => simpa using h x (List.mem_of_getElem? hk)
theorem val10_drop (l : List Nat) (k : Nat) (h : k < l.length) : val10 (l.drop k) = l.getD k 0 + 10 * val10 (l.drop (k + 1)) := by
  rw [List.drop_eq_getElem_cons h, val10, List.getD_eq_getElem?_getD, List.getElem?_eq_getElem h]; rfl
theorem Dec.app {l : List Nat} (h : Dec l) {x : Nat} (hx : x < 10) : Dec (l ++ [x]) := fun y hy => by
  rcases List.mem_append.1 hy with hy | hy
  · exact h y hy
  · rw [List.mem_singleton] at hy; omega
/-- digits compared from the top -/
theorem val10_lt_of_digit {a b : List Nat} (ha : Dec a) {k : Nat} (h1 : k < a.length) (h2 : k < b.length) (h3 : a.drop (k + 1) = b.drop (k + 1)) (h : a.getD k 0 < b.getD k 0) : val10 a < val10 b := by
  have e1 : val10 a = val10 (a.take k) + 10 ^ k * val10 (a.drop k) := by
    conv => lhs; rw [← List.take_append_drop k a, val10_append, List.length_take, Nat.min_eq_left (by omega)]
  have e2 : val10 b = val10 (b.take k) + 10 ^ k * val10 (b.drop k) := by
    conv => lhs; rw [← List.take_append_drop k b, val10_append, List.length_take, Nat.min_eq_left (by omega)]
  have l1 : val10 (a.take k) < 10 ^ k := by
    have := val10_lt (l := a.take k) fun x hx => ha x (List.mem_of_mem_take hx)
    rwa [List.length_take, Nat.min_eq_left (by omega)] at this
  rw [val10_drop a k h1] at e1
  rw [val10_drop b k h2, ← h3] at e2
  generalize val10 (a.drop (k + 1)) = R at *
  have h4 : 10 ^ k * (a.getD k 0 + 10 * R) + 10 ^ k ≤ 10 ^ k * (b.getD k 0 + 10 * R) := by
    rw [← Nat.mul_succ]; exact Nat.mul_le_mul_left _ (by omega)
  omega
abbrev decI (x : Nat) : D := .val (.int .i64 (x : Nat))
abbrev decR (l : List Nat) : D := .row (l.map decI) l.length
abbrev numD (n : Nat) : D := decR (d10 n)
theorem headD_dec (l : List Nat) (k : Nat) (h : k < l.length) : ((l.map decI).drop k).headD .unk = decI (l.getD k 0) := headD_map decI l 0 k h
theorem app_dec (l : List Nat) (x : Nat) : l.map decI ++ [.val (.int .i64 (x : Nat))] = (l ++ [x]).map decI := by simp
theorem take_dec (l : List Nat) (n : Nat) : (l.map decI).take n = (l.take n).map decI := by rw [List.map_take]
theorem tmod_10 (a : Nat) : Int.tmod (a : Int) 10 = ((a % 10 : Nat) : Int) := by rw [show (10 : Int) = ((10 : Nat) : Int) from rfl, Int.ofNat_tmod]
theorem tdiv_10 (a : Nat) : Int.tdiv (a : Int) 10 = ((a / 10 : Nat) : Int) := by rw [show (10 : Int) = ((10 : Nat) : Int) from rfl, Int.ofNat_tdiv]
end Go.Proofs.YtgbhoceamcomfaaGreat

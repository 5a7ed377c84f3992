/- Digits: plain laws of Bits, Sub, divDigit, Uint64. -/
import Derived.Test.YtgbhoceamcomfaaDp
import Derived.Lib.BitFns
namespace Go.Proofs.Ytgbhoceamcomfaa
open Go.RowKit
set_option linter.unusedVariables false
set_option linter.unusedSimpArgs false
theorem bitLenAux_zero (f x : Nat) (hf : 0 < f) : Lib.bitLenAux f x = 0 ↔ x = 0 := by
  cases f with
  | zero => omega
  | succ f =>
    unfold Lib.bitLenAux
    split
    · simp_all
    · rename_i h
      simp only [h, iff_false]
      omega
theorem bitLenAux_one (f x : Nat) (hf : 1 < f) : Lib.bitLenAux f x ≤ 1 ↔ x ≤ 1 := by
  cases f with
  | zero => omega
  | succ f =>
    unfold Lib.bitLenAux
    split
    · omega
    · rename_i h
      have := bitLenAux_zero f (x / 2) (by omega)
      omega
theorem bitLenAux_le : ∀ f x, Lib.bitLenAux f x ≤ f
  | 0, x => by simp [Lib.bitLenAux]
  | f + 1, x => by
    unfold Lib.bitLenAux
    have := bitLenAux_le f (x / 2)
    split <;> omega
/-- The length in bits. -/
def bitsN (l : List Nat) : Nat := if l.length = 0 then 0 else 32 * (l.length - 1) + Lib.bitLen (l.getD (l.length - 1) 0)
theorem bitsN_zero {l : List Nat} (hn : Normal l) : bitsN l = 0 ↔ nval l = 0 := by
  rw [hn.zero]
  unfold bitsN
  split
  · rename_i h; simp [List.eq_nil_of_length_eq_zero h]
  · rename_i h
    have hne : l ≠ [] := fun e => h (by simp [e])
    rcases hn with h1 | h1
    · exact absurd h1 hne
    · have h2 := bitLenAux_zero 64 (l.getD (l.length - 1) 0) (by omega)
      unfold Lib.bitLen
      simp only [hne, iff_false]
      omega
theorem bitsN_one {l : List Nat} (hn : Normal l) (hd : Digs l) : bitsN l ≤ 1 ↔ nval l ≤ 1 := by
  unfold bitsN
  split
  · rename_i h; rw [List.eq_nil_of_length_eq_zero h]; simp [nval]
  · rename_i h
    have hne : l ≠ [] := fun e => h (by simp [e])
    rcases Nat.lt_or_ge 1 l.length with h2 | h2
    · have h3 := hn.ge hne
      have h4 : 4294967296 ^ 1 ≤ 4294967296 ^ (l.length - 1) := Nat.pow_le_pow_right (by omega) (by omega)
      omega
    · match l, h2, h with
      | [x], _, _ =>
        have := bitLenAux_one 64 x (by omega)
        simp [nval, Lib.bitLen]
        exact this
def nb (n : Nat) : Nat := bitsN (dg n)
theorem nb_zero (n : Nat) : nb n = 0 ↔ n = 0 := by
  have := bitsN_zero (normal_dg n); rw [nval_dg] at this; exact this
theorem nb_one (n : Nat) : nb n ≤ 1 ↔ n ≤ 1 := by
  have := bitsN_one (normal_dg n) (digs_dg n); rw [nval_dg] at this; exact this
theorem nb_le (n : Nat) : nb n ≤ 32 * (dg n).length + 64 := by
  unfold nb bitsN
  have := bitLenAux_le 64 ((dg n).getD ((dg n).length - 1) 0)
  unfold Lib.bitLen
  split <;> omega
theorem dg_small (n : Nat) (h : n < 4294967296) : (dg n).length ≤ 1 := by
  unfold dg; split
  · simp
  · rw [show n / 4294967296 = 0 by omega]; unfold dg; simp
theorem dg_len_pow (n k : Nat) (h : n < 4294967296 ^ k) : (dg n).length ≤ k := by
  refine Decidable.byContradiction fun hk => ?_
  have hne : dg n ≠ [] := fun e => by rw [e] at hk; simp at hk
  have h1 := (normal_dg n).ge hne
  rw [nval_dg] at h1
  have h2 : 4294967296 ^ k ≤ 4294967296 ^ ((dg n).length - 1) := Nat.pow_le_pow_right (by omega) (by omega)
  omega
theorem dg_len0 (n : Nat) : (dg n).length = 0 ↔ n = 0 := by
  rw [List.length_eq_zero_iff, ← (normal_dg n).zero, nval_dg]
theorem dg_one (n : Nat) (h0 : n ≠ 0) (h : n < 4294967296) : dg n = [n] := by
  unfold dg; rw [dif_neg h0, show n / 4294967296 = 0 by omega, show n % 4294967296 = n by omega]; unfold dg; simp
/-- Sub: a digit and the borrow. -/
def subD (x c y : Nat) : Nat := (x + 4294967296 * 2 - c - y) % 4294967296
def subC (x c y : Nat) : Nat := if x < c + y then 1 else 0
theorem sub_dig {x c y : Nat} (hx : x < 4294967296) (hy : y < 4294967296) (hc : c ≤ 1) : x + 4294967296 * subC x c y = subD x c y + y + c ∧ subC x c y ≤ 1 ∧ subD x c y < 4294967296 := by
  unfold subC subD
  split <;> omega
theorem sub_step {A B cur : List Nat} {k c : Nat} (hA : Digs A) (hB : Digs B) (hk : k < cur.length) (hc : c ≤ 1) (h : nval (A.take k) + 4294967296 ^ k * c = nval (cur.take k) + nval (B.take k)) :
    nval (A.take (k + 1)) + 4294967296 ^ (k + 1) * subC (A.getD k 0) c (B.getD k 0) = nval ((cur.set k (subD (A.getD k 0) c (B.getD k 0))).take (k + 1)) + nval (B.take (k + 1)) := by
  obtain ⟨e1, e2, e3⟩ := sub_dig (hA k) (hB k) hc
  rw [nval_take_succ, nval_take_succ, nval_take_succ, take_set, getD_set _ _ _ _ (by omega), if_pos rfl]
  generalize A.getD k 0 = x at *
  generalize B.getD k 0 = y at *
  have h6 : 4294967296 ^ k * x + 4294967296 ^ (k + 1) * subC x c y = 4294967296 ^ k * subD x c y + 4294967296 ^ k * y + 4294967296 ^ k * c := by
    rw [Nat.pow_succ, Nat.mul_assoc, ← Nat.mul_add, e1, Nat.mul_add, Nat.mul_add]
  omega
theorem sub_end {A B cur : List Nat} {c : Nat} (hlen : cur.length = A.length) (hB : B.length ≤ A.length) (hge : nval B ≤ nval A) (hd : Digs cur) (h : nval (A.take A.length) + 4294967296 ^ A.length * c = nval (cur.take A.length) + nval (B.take A.length)) : nval cur = nval A - nval B := by
  rw [List.take_length, List.take_of_length_le (by omega), List.take_of_length_le hB] at h
  have h1 := nval_lt cur hd
  rw [hlen] at h1
  rcases Nat.eq_zero_or_pos c with h0 | h0
  · subst h0; omega
  · have : 4294967296 ^ A.length * 1 ≤ 4294967296 ^ A.length * c := Nat.mul_le_mul_left _ h0
    omega
/-- divDigit: one digit -/
theorem nval_drop' (l : List Nat) (k : Nat) (h : k < l.length) : nval (l.drop k) = l.getD k 0 + 4294967296 * nval (l.drop (k + 1)) := by
  rw [List.drop_eq_getElem_cons h, nval]; simp [h]
theorem getD_takeN (l : List Nat) (n k : Nat) (h : k < n) : (l.take n).getD k 0 = l.getD k 0 := by
  simp [List.getD_eq_getElem?_getD, List.getElem?_take, h]
theorem div_step {A cur : List Nat} {k r d : Nat} (hk : k < A.length) (hl : cur.length = A.length) (hd : 0 < d) (h1 : cur.take (k + 1) = A.take (k + 1)) (h2 : nval (cur.drop (k + 1)) * d + r = nval (A.drop (k + 1))) (h3 : r < d) :
    let t := r * 4294967296 + A.getD k 0
    cur.getD k 0 = A.getD k 0 ∧ (cur.set k (t / d)).take k = A.take k ∧ nval ((cur.set k (t / d)).drop k) * d + t % d = nval (A.drop k) := by
  intro t
  have e0 : cur.getD k 0 = A.getD k 0 := by
    rw [← getD_takeN cur (k + 1) k (by omega), h1, getD_takeN A (k + 1) k (by omega)]
  refine ⟨e0, ?_, ?_⟩
  · rw [take_set]
    have := congrArg (List.take k) h1
    rw [List.take_take, List.take_take, Nat.min_eq_left (by omega)] at this
    exact this
  · rw [nval_drop' _ k (by rw [List.length_set]; omega), getD_set _ _ _ _ (by omega), if_pos rfl, List.drop_set_of_lt (by omega), nval_drop' A k hk, ← h2]
    have e := Nat.div_add_mod t d
    have e' : t = r * 4294967296 + A.getD k 0 := rfl
    generalize t / d = q at *
    generalize t % d = m at *
    generalize nval (cur.drop (k + 1)) = x at *
    rw [Nat.add_mul, Nat.mul_add, Nat.mul_assoc, Nat.mul_comm q d]
    generalize x * d = z at *
    omega
theorem div_dig_lt {r a d : Nat} (hr : r < d) (ha : a < 4294967296) : (r * 4294967296 + a) / d < 4294967296 := by
  rw [Nat.div_lt_iff_lt_mul (by omega)]
  have : (r + 1) * 4294967296 ≤ d * 4294967296 := Nat.mul_le_mul_right _ (by omega)
  omega
theorem div_end {q d r n : Nat} (hr : r < d) (h : q * d + r = n) : q = n / d ∧ r = n % d := by
  have hd : 0 < d := by omega
  subst h
  refine ⟨?_, ?_⟩
  · rw [Nat.mul_comm, Nat.mul_add_div hd, Nat.div_eq_of_lt hr]; rfl
  · rw [Nat.mul_comm, Nat.mul_add_mod, Nat.mod_eq_of_lt hr]
/-- n digits of v -/
def dgn : Nat → Nat → List Nat
  | 0, _ => []
  | n + 1, v => v % 4294967296 :: dgn n (v / 4294967296)
theorem dgn_len : ∀ n v, (dgn n v).length = n
  | 0, _ => rfl
  | n + 1, v => by rw [dgn, List.length_cons, dgn_len n]
theorem dgn_digs : ∀ n v, Digs (dgn n v)
  | 0, _ => Digs.nil
  | n + 1, v => Digs.mk (Nat.mod_lt _ (by decide)) (dgn_digs n _)
theorem dgn_nval : ∀ (l : List Nat), Digs l → dgn l.length (nval l) = l
  | [], _ => rfl
  | x :: l, h => by
    obtain ⟨h1, h2⟩ := h.cons
    rw [List.length_cons, dgn, nval, show (x + 4294967296 * nval l) % 4294967296 = x by omega, show (x + 4294967296 * nval l) / 4294967296 = nval l by omega, dgn_nval l h2]
theorem nval_dgn : ∀ n v, v < 4294967296 ^ n → nval (dgn n v) = v
  | 0, v, h => by simp only [dgn, nval]; have : (4294967296 : Nat) ^ 0 = 1 := rfl; omega
  | n + 1, v, h => by
    rw [dgn, nval, nval_dgn n _ (by rw [Nat.pow_succ] at h; exact Nat.div_lt_of_lt_mul (by rw [Nat.mul_comm]; exact h))]
    omega
theorem or_add (i m a : Nat) (hi : i ≤ 64) (hm : m < 2 ^ i) (ha : a * 2 ^ i + m < 18446744073709551616) : ((BitVec.ofInt 64 ((a * 2 ^ i : Nat) : Int) ||| BitVec.ofInt 64 (m : Int)).toNat : Int) = ((a * 2 ^ i + m : Nat) : Int) := by
  rw [BitVec.ofInt_natCast, BitVec.ofInt_natCast, BitVec.toNat_or, BitVec.toNat_ofNat, BitVec.toNat_ofNat, Nat.mod_eq_of_lt (by omega), Nat.mod_eq_of_lt (by omega), ← Nat.shiftLeft_eq, ← Nat.shiftLeft_add_eq_or_of_lt hm]
theorem or_add' (i m a : Nat) (hi : i ≤ 64) (hm : m < 2 ^ i) (ha : a * 2 ^ i + m < 18446744073709551616) : ((BitVec.ofInt 64 (m : Int) ||| BitVec.ofInt 64 ((a * 2 ^ i : Nat) : Int)).toNat : Int) = ((a * 2 ^ i + m : Nat) : Int) := by
  rw [BitVec.or_comm]; exact or_add i m a hi hm ha
end Go.Proofs.Ytgbhoceamcomfaa

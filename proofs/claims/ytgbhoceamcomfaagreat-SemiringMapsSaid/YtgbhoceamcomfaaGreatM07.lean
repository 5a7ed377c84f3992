/- Texts of this claim, joined: Dc DgP Sem Dxp Dai WhP Sc Dyp So Dq Du AxP Daw Dd -/
import Derived.Test.YtgbhoceamcomfaaGreatM06
import Derived.Lib.BitFns
import Derived.Lib.SlicesCompact
import Derived.Test.YtgbhoceamcomfaaGreatShelf
import Derived.Lib.RowBridge
import Derived.Sort.AssemblyPlain
namespace Go.Proofs.YtgbhoceamcomfaaGreat
open Go.RowKit
attribute [local irreducible] seqW awp thenW nextW blockW Weak updS deadS retL Pure Acts
set_option linter.unusedVariables false
set_option linter.unusedSimpArgs false
set_option maxRecDepth 4096
theorem cmpD_zero (x y : Nat) : (cmpD x y == 0) = decide (x = y) := by
  unfold cmpD
  (repeat' split) <;> simp <;> omega
theorem norm_c (l : List Nat) (n : Nat) (hn : l.length = n) (hl : n ≤ 1000000) (hd : Digs l) : Pure Tryz.prog 115 [.row (l.map dig) n] [] (natD (nval l)) := by
  subst hn
  have h1 := dg_len hd
  refine pure_of_awp Tz_ok mixed Tryz.func115 rfl ?_
  focus
    refine awp_seq (awp_region rfl ?_)
    refine st_end0 [] [] [] (True) [(2, nl)] (by kernel_rfl) trivial ?_
    refine awp_seq (awp_region rfl ?_)
    refine st_run0 1 [] [] (True) [(3, digR l)] (by kernel_rfl) trivial ?_
    refine st_callr [digR l] (by kernel_rfl) (by exact trim_c l _ rfl (by omega) hd) ?_
    refine st_callr [natD (nval l)] (by kernel_rfl) (by exact clone_nat ((dg (nval l)).map dig) _ (by simp) (by omega)) ?_
    refine st_end0 [] [] [0, 3, 4, 5] (True) [(2, natD (nval l))] (by kernel_rfl) trivial ?_
    refine awp_ret ?_
    refine ret_run (True) (natD (nval l)) (natD (nval l)) (.inr rfl) (by kernel_rfl) trivial rfl rfl
theorem czero_c : Pure Tryz.prog 30 [.agg []] [] (natD 0) := by
  refine pure_of_awp Tz_ok mixed Tryz.func30 rfl ?_
  focus
    refine awp_seq (awp_region rfl ?_)
    refine st_end [] [] [0, 1] (True) [(2, nl)] [Bk.mk [] 60 0 false false] (by kernel_rfl) trivial ?_
    refine awp_seq (awp_region rfl ?_)
    refine st_end0 [] [] [] (True) [] (by kernel_rfl) trivial ?_
    refine awp_ret ?_
    refine ret_run (True) (D.row [] 0) (D.row [] 0) (.inr rfl) (by kernel_rfl) trivial rfl ?_
    rotate_left
  simp [natD, dg]
theorem cone_c : Pure Tryz.prog 31 [.agg []] [] (natD 1) := by
  refine pure_of_awp Tz_ok mixed Tryz.func31 rfl ?_
  focus
    refine awp_seq (awp_region rfl ?_)
    refine st_end [] [] [0, 1] (True) [(2, nl)] [Bk.mk [] 60 0 false false] (by kernel_rfl) trivial ?_
    refine awp_seq (awp_region rfl ?_)
    refine st_callr [D.val (Value.int IntKind.u64 (1 : Int))] (by kernel_rfl) (by exact of_c 1 (by decide)) ?_
    refine st_end0 [] [] [3] (True) [(2, D.row [dig (1 : Nat)] 1)] (by kernel_rfl) trivial ?_
    refine awp_ret ?_
    refine ret_run (True) (D.row [dig (1 : Nat)] 1) (D.row [dig (1 : Nat)] 1) (.inr rfl) (by kernel_rfl) trivial rfl ?_
    rotate_left
  simp [dg]
theorem cadd_c (a b : List Nat) (n m : Nat) (hn : a.length = n) (hm : b.length = m) (hl : n ≤ 1000000) (hl' : m ≤ 1000000) (ha : Digs a) (hb : Digs b) : Pure Tryz.prog 32 [.agg [], .row (a.map dig) n, .row (b.map dig) m] [] (natD (nval a + nval b)) := by
  refine pure_of_awp Tz_ok mixed Tryz.func32 rfl ?_
  focus
    refine awp_seq (awp_region rfl ?_)
    refine st_end [] [] [0, 3] (True) [(6, nl)] [Bk.mk [] 60 0 false false] (by kernel_rfl) trivial ?_
    refine awp_seq (awp_region rfl ?_)
    refine st_run0 2 [] [] (True) [(7, D.row (List.map dig a) n), (8, D.row (List.map dig b) m)] (by kernel_rfl) trivial ?_
    refine st_callr [D.row (List.map dig a) n, D.row (List.map dig b) m] (by kernel_rfl) (by exact add_c a b _ _ hn hm hl hl' ha hb) ?_
    refine st_end0 [] [] [1, 2, 7, 8, 9] (True) [(6, natD (nval a + nval b))] (by kernel_rfl) trivial ?_
    refine awp_ret ?_
    refine ret_run (True) (natD (nval a + nval b)) (natD (nval a + nval b)) (.inr rfl) (by kernel_rfl) trivial rfl rfl
theorem cmul_c (a b : List Nat) (n m : Nat) (hn : a.length = n) (hm : b.length = m) (hl : n ≤ 1000000) (hl' : m ≤ 1000000) (ha : Digs a) (hb : Digs b) : Pure Tryz.prog 34 [.agg [], .row (a.map dig) n, .row (b.map dig) m] [] (natD (nval a * nval b)) := by
  refine pure_of_awp Tz_ok mixed Tryz.func34 rfl ?_
  focus
    refine awp_seq (awp_region rfl ?_)
    refine st_end [] [] [0, 3] (True) [(6, nl)] [Bk.mk [] 60 0 false false] (by kernel_rfl) trivial ?_
    refine awp_seq (awp_region rfl ?_)
    refine st_run0 2 [] [] (True) [(7, D.row (List.map dig a) n), (8, D.row (List.map dig b) m)] (by kernel_rfl) trivial ?_
    refine st_callr [D.row (List.map dig a) n, D.row (List.map dig b) m] (by kernel_rfl) (by exact mul_c a b _ _ hn hm hl hl' ha hb) ?_
    refine st_end0 [] [] [1, 2, 7, 8, 9] (True) [(6, natD (nval a * nval b))] (by kernel_rfl) trivial ?_
    refine awp_ret ?_
    refine ret_run (True) (natD (nval a * nval b)) (natD (nval a * nval b)) (.inr rfl) (by kernel_rfl) trivial rfl rfl
theorem cequal_c (a b : List Nat) (n m : Nat) (hn : a.length = n) (hm : b.length = m) (hl : n ≤ 1000000) (hl' : m ≤ 1000000) (ha : Digs a) (hb : Digs b) : Pure Tryz.prog 36 [.agg [], .row (a.map dig) n, .row (b.map dig) m] [] (bD (decide (nval a = nval b))) := by
  refine pure_of_awp Tz_ok mixed Tryz.func36 rfl ?_
  focus
    refine awp_seq (awp_region rfl ?_)
    refine st_end [] [] [0, 3] (True) [(6, bD false)] [Bk.mk [] 60 0 false false] (by kernel_rfl) trivial ?_
    refine awp_seq (awp_region rfl ?_)
    refine st_run0 2 [] [] (True) [(7, D.row (List.map dig a) n), (8, D.row (List.map dig b) m)] (by kernel_rfl) trivial ?_
    refine st_callr [D.row (List.map dig a) n, D.row (List.map dig b) m] (by kernel_rfl) (by exact cmp_c a b _ _ hn hm hl hl' ha hb) ?_
    refine st_run0 1 [] [] (True) [(10, bD (cmpD (↑(nval a) : Int) (↑(nval b) : Int) == (0 : Int)))] (by kernel_rfl) trivial ?_
    refine st_slot 10 (bD (cmpD (↑(nval a) : Int) (↑(nval b) : Int) == (0 : Int))) (bD (decide (nval a = nval b))) (by kernel_rfl) (by simp (disch := omega) only [cmpD_zero]) (by kernel_rfl) ?_
    refine st_end0 [] [] [1, 2, 7, 8, 9, 10] (True) [(6, bD (decide (nval a = nval b)))] (by kernel_rfl) trivial ?_
    refine awp_ret ?_
    refine ret_run (True) (bD (decide (nval a = nval b))) (D.val (Value.bool (decide (nval a = nval b)))) (.inr rfl) (by kernel_rfl) trivial rfl rfl
end Go.Proofs.YtgbhoceamcomfaaGreat
namespace Go.Proofs.YtgbhoceamcomfaaGreat
open Go.RowKit
set_option linter.unusedVariables false
set_option linter.unusedSimpArgs false
theorem bitLenAux_zero (f x : Nat) (hf : 0 < f) : Lib.bitLenAux f x = 0 ↔ x = 0 := by
  cases f with
  | zero => omega
  | succ f =>
    unfold Lib.bitLenAux
    split
    · simp_all
    · rename_i h
      simp only [h, iff_false]
      omega
theorem bitLenAux_one (f x : Nat) (hf : 1 < f) : Lib.bitLenAux f x ≤ 1 ↔ x ≤ 1 := by
  cases f with
  | zero => omega
  | succ f =>
    unfold Lib.bitLenAux
    split
    · omega
    · rename_i h
      have := bitLenAux_zero f (x / 2) (by omega)
      omega
theorem bitLenAux_le : ∀ f x, Lib.bitLenAux f x ≤ f
  | 0, x => by simp [Lib.bitLenAux]
  | f + 1, x => by
    unfold Lib.bitLenAux
    have := bitLenAux_le f (x / 2)
    split <;> omega
def bitsN (l : List Nat) : Nat := if l.length = 0 then 0 else 32 * (l.length - 1) + Lib.bitLen (l.getD (l.length - 1) 0)
theorem bitsN_zero {l : List Nat} (hn : Normal l) : bitsN l = 0 ↔ nval l = 0 := by
  rw [hn.zero]
  unfold bitsN
  split
  · rename_i h; simp [List.eq_nil_of_length_eq_zero h]
  · rename_i h
    have hne : l ≠ [] := fun e => h (by simp [e])
    rcases hn with h1 | h1
    · exact absurd h1 hne
    · have h2 := bitLenAux_zero 64 (l.getD (l.length - 1) 0) (by omega)
      unfold Lib.bitLen
      simp only [hne, iff_false]
      omega
theorem bitsN_one {l : List Nat} (hn : Normal l) (hd : Digs l) : bitsN l ≤ 1 ↔ nval l ≤ 1 := by
  unfold bitsN
  split
  · rename_i h; rw [List.eq_nil_of_length_eq_zero h]; simp [nval]
  · rename_i h
    have hne : l ≠ [] := fun e => h (by simp [e])
    rcases Nat.lt_or_ge 1 l.length with h2 | h2
    · have h3 := hn.ge hne
      have h4 : 4294967296 ^ 1 ≤ 4294967296 ^ (l.length - 1) := Nat.pow_le_pow_right (by omega) (by omega)
      omega
    · match l, h2, h with
      | [x], _, _ =>
        have := bitLenAux_one 64 x (by omega)
        simp [nval, Lib.bitLen]
        exact this
def nb (n : Nat) : Nat := bitsN (dg n)
theorem nb_zero (n : Nat) : nb n = 0 ↔ n = 0 := by
  have := bitsN_zero (normal_dg n); rw [nval_dg] at this; exact this
theorem nb_one (n : Nat) : nb n ≤ 1 ↔ n ≤ 1 := by
  have := bitsN_one (normal_dg n) (digs_dg n); rw [nval_dg] at this; exact this
theorem nb_le (n : Nat) : nb n ≤ 32 * (dg n).length + 64 := by
  unfold nb bitsN
  have := bitLenAux_le 64 ((dg n).getD ((dg n).length - 1) 0)
  unfold Lib.bitLen
  split <;> omega
theorem dg_small (n : Nat) (h : n < 4294967296) : (dg n).length ≤ 1 := by
  unfold dg; split
  · simp
  · rw [show n / 4294967296 = 0 by omega]; unfold dg; simp
theorem dg_len_pow (n k : Nat) (h : n < 4294967296 ^ k) : (dg n).length ≤ k := by
  refine Decidable.byContradiction fun hk => ?_
  have hne : dg n ≠ [] := fun e => by rw [e] at hk; simp at hk
  have h1 := (normal_dg n).ge hne
  rw [nval_dg] at h1
  have h2 : 4294967296 ^ k ≤ 4294967296 ^ ((dg n).length - 1) := Nat.pow_le_pow_right (by omega) (by omega)
  omega
theorem dg_len0 (n : Nat) : (dg n).length = 0 ↔ n = 0 := by
  rw [List.length_eq_zero_iff, ← (normal_dg n).zero, nval_dg]
theorem dg_one (n : Nat) (h0 : n ≠ 0) (h : n < 4294967296) : dg n = [n] := by
  unfold dg; rw [dif_neg h0, show n / 4294967296 = 0 by omega, show n % 4294967296 = n by omega]; unfold dg; simp
def subD (x c y : Nat) : Nat := (x + 4294967296 * 2 - c - y) % 4294967296
def subC (x c y : Nat) : Nat := if x < c + y then 1 else 0
theorem sub_dig {x c y : Nat} (hx : x < 4294967296) (hy : y < 4294967296) (hc : c ≤ 1) : x + 4294967296 * subC x c y = subD x c y + y + c ∧ subC x c y ≤ 1 ∧ subD x c y < 4294967296 := by
  unfold subC subD
  split <;> omega
theorem sub_step {A B cur : List Nat} {k c : Nat} (hA : Digs A) (hB : Digs B) (hk : k < cur.length) (hc : c ≤ 1) (h : nval (A.take k) + 4294967296 ^ k * c = nval (cur.take k) + nval (B.take k)) :
    nval (A.take (k + 1)) + 4294967296 ^ (k + 1) * subC (A.getD k 0) c (B.getD k 0) = nval ((cur.set k (subD (A.getD k 0) c (B.getD k 0))).take (k + 1)) + nval (B.take (k + 1)) := by
  obtain ⟨e1, e2, e3⟩ := sub_dig (hA k) (hB k) hc
  rw [nval_take_succ, nval_take_succ, nval_take_succ, take_set, getD_set _ _ _ _ (by omega), if_pos rfl]
  generalize A.getD k 0 = x at *
  generalize B.getD k 0 = y at *
  have h6 : 4294967296 ^ k * x + 4294967296 ^ (k + 1) * subC x c y = 4294967296 ^ k * subD x c y + 4294967296 ^ k * y + 4294967296 ^ k * c := by
    rw [Nat.pow_succ, Nat.mul_assoc, ← Nat.mul_add, e1, Nat.mul_add, Nat.mul_add]
  omega
theorem sub_end {A B cur : List Nat} {c : Nat} (hlen : cur.length = A.length) (hB : B.length ≤ A.length) (hge : nval B ≤ nval A) (hd : Digs cur) (h : nval (A.take A.length) + 4294967296 ^ A.length * c = nval (cur.take A.length) + nval (B.take A.length)) : nval cur = nval A - nval B := by
  rw [List.take_length, List.take_of_length_le (by omega), List.take_of_length_le hB] at h
  have h1 := nval_lt cur hd
  rw [hlen] at h1
  rcases Nat.eq_zero_or_pos c with h0 | h0
  · subst h0; omega
  · have : 4294967296 ^ A.length * 1 ≤ 4294967296 ^ A.length * c := Nat.mul_le_mul_left _ h0
    omega
theorem nval_drop' (l : List Nat) (k : Nat) (h : k < l.length) : nval (l.drop k) = l.getD k 0 + 4294967296 * nval (l.drop (k + 1)) := by
  rw [List.drop_eq_getElem_cons h, nval]; simp [h]
theorem getD_takeN (l : List Nat) (n k : Nat) (h : k < n) : (l.take n).getD k 0 = l.getD k 0 := by
  simp [List.getD_eq_getElem?_getD, List.getElem?_take, h]
theorem div_step {A cur : List Nat} {k r d : Nat} (hk : k < A.length) (hl : cur.length = A.length) (hd : 0 < d) (h1 : cur.take (k + 1) = A.take (k + 1)) (h2 : nval (cur.drop (k + 1)) * d + r = nval (A.drop (k + 1))) (h3 : r < d) :
    let t := r * 4294967296 + A.getD k 0
    cur.getD k 0 = A.getD k 0 ∧ (cur.set k (t / d)).take k = A.take k ∧ nval ((cur.set k (t / d)).drop k) * d + t % d = nval (A.drop k) := by
  intro t
  have e0 : cur.getD k 0 = A.getD k 0 := by
    rw [← getD_takeN cur (k + 1) k (by omega), h1, getD_takeN A (k + 1) k (by omega)]
  refine ⟨e0, ?_, ?_⟩
  · rw [take_set]
    have := congrArg (List.take k) h1
    rw [List.take_take, List.take_take, Nat.min_eq_left (by omega)] at this
    exact this
  · rw [nval_drop' _ k (by rw [List.length_set]; omega), getD_set _ _ _ _ (by omega), if_pos rfl, List.drop_set_of_lt (by omega), nval_drop' A k hk, ← h2]
    have e := Nat.div_add_mod t d
    have e' : t = r * 4294967296 + A.getD k 0 := rfl
    generalize t / d = q at *
    generalize t % d = m at *
    generalize nval (cur.drop (k + 1)) = x at *
    rw [Nat.add_mul, Nat.mul_add, Nat.mul_assoc, Nat.mul_comm q d]
    generalize x * d = z at *
    omega
theorem div_dig_lt {r a d : Nat} (hr : r < d) (ha : a < 4294967296) : (r * 4294967296 + a) / d < 4294967296 := by
  rw [Nat.div_lt_iff_lt_mul (by omega)]
  have : (r + 1) * 4294967296 ≤ d * 4294967296 := Nat.mul_le_mul_right _ (by omega)
  omega
theorem div_end {q d r n : Nat} (hr : r < d) (h : q * d + r = n) : q = n / d ∧ r = n % d := by
  have hd : 0 < d := by omega
  subst h
  refine ⟨?_, ?_⟩
  · rw [Nat.mul_comm, Nat.mul_add_div hd, Nat.div_eq_of_lt hr]; rfl
  · rw [Nat.mul_comm, Nat.mul_add_mod, Nat.mod_eq_of_lt hr]
def dgn : Nat → Nat → List Nat
  | 0, _ => []
  | n + 1, v => v % 4294967296 :: dgn n (v / 4294967296)
theorem dgn_len : ∀ n v, (dgn n v).length = n
  | 0, _ => rfl
  | n + 1, v => by rw [dgn, List.length_cons, dgn_len n]
theorem dgn_digs : ∀ n v, Digs (dgn n v)
  | 0, _ => Digs.nil
  | n + 1, v => Digs.mk (Nat.mod_lt _ (by decide)) (dgn_digs n _)
theorem dgn_nval : ∀ (l : List Nat), Digs l → dgn l.length (nval l) = l
  | [], _ => rfl
  | x :: l, h => by
    obtain ⟨h1, h2⟩ := h.cons
    rw [List.length_cons, dgn, nval, show (x + 4294967296 * nval l) % 4294967296 = x by omega, show (x + 4294967296 * nval l) / 4294967296 = nval l by omega, dgn_nval l h2]
theorem nval_dgn : ∀ n v, v < 4294967296 ^ n → nval (dgn n v) = v
  | 0, v, h => by simp only [dgn, nval]; have : (4294967296 : Nat) ^ 0 = 1 := rfl; omega
  | n + 1, v, h => by
    rw [dgn, nval, nval_dgn n _ (by rw [Nat.pow_succ] at h; exact Nat.div_lt_of_lt_mul (by rw [Nat.mul_comm]; exact h))]
    omega
theorem or_add (i m a : Nat) (hi : i ≤ 64) (hm : m < 2 ^ i) (ha : a * 2 ^ i + m < 18446744073709551616) : ((BitVec.ofInt 64 ((a * 2 ^ i : Nat) : Int) ||| BitVec.ofInt 64 (m : Int)).toNat : Int) = ((a * 2 ^ i + m : Nat) : Int) := by
  rw [BitVec.ofInt_natCast, BitVec.ofInt_natCast, BitVec.toNat_or, BitVec.toNat_ofNat, BitVec.toNat_ofNat, Nat.mod_eq_of_lt (by omega), Nat.mod_eq_of_lt (by omega), ← Nat.shiftLeft_eq, ← Nat.shiftLeft_add_eq_or_of_lt hm]
theorem or_add' (i m a : Nat) (hi : i ≤ 64) (hm : m < 2 ^ i) (ha : a * 2 ^ i + m < 18446744073709551616) : ((BitVec.ofInt 64 (m : Int) ||| BitVec.ofInt 64 ((a * 2 ^ i : Nat) : Int)).toNat : Int) = ((a * 2 ^ i + m : Nat) : Int) := by
  rw [BitVec.or_comm]; exact or_add i m a hi hm ha
theorem dlen_mul (x y : Nat) : (dg (x * y)).length ≤ (dg x).length + (dg y).length := by
  refine dg_len_pow _ _ ?_
  have h1 := nval_lt (dg x) (digs_dg x)
  have h2 := nval_lt (dg y) (digs_dg y)
  rw [nval_dg] at h1 h2
  rw [Nat.pow_add]
  exact Nat.mul_lt_mul_of_lt_of_lt h1 h2
theorem dlen_le {x y : Nat} (h : x ≤ y) : (dg x).length ≤ (dg y).length := by
  refine dg_len_pow _ _ ?_
  have h2 := nval_lt (dg y) (digs_dg y)
  rw [nval_dg] at h2; omega
theorem dlen_add (x y k : Nat) (hx : (dg x).length ≤ k) (hy : (dg y).length ≤ k) : (dg (x + y)).length ≤ k + 1 := by
  refine dg_len_pow _ _ ?_
  have h1 := nval_lt (dg x) (digs_dg x)
  have h2 := nval_lt (dg y) (digs_dg y)
  rw [nval_dg] at h1 h2
  have h3 : 4294967296 ^ (dg x).length ≤ 4294967296 ^ k := Nat.pow_le_pow_right (by decide) hx
  have h4 : 4294967296 ^ (dg y).length ≤ 4294967296 ^ k := Nat.pow_le_pow_right (by decide) hy
  rw [Nat.pow_succ]; omega
end Go.Proofs.YtgbhoceamcomfaaGreat
namespace Go.Proofs.YtgbhoceamcomfaaGreat
open Go.RowKit
set_option linter.unusedVariables false
set_option linter.unusedSimpArgs false
structure SemX (X : Type) where
  R : X → D
  Ok : Nat → X → Prop
  A : X → X → X
  M : X → X → X
  z : X
  o : X
  eq : X → X → Bool
def SemX.ax {X : Type} (s : SemX X) (a b c : X) : Prop :=
  s.eq (s.A (s.A a b) c) (s.A a (s.A b c)) = true ∧ s.eq (s.A a b) (s.A b a) = true ∧ s.eq (s.A a s.z) a = true ∧ s.eq (s.M (s.M a b) c) (s.M a (s.M b c)) = true ∧
  s.eq (s.M a b) (s.M b a) = true ∧ s.eq (s.M a s.o) a = true ∧ s.eq (s.M a s.z) s.z = true ∧ s.eq (s.M a (s.A b c)) (s.A (s.M a b) (s.M a c)) = true
structure SemC (P : Program) (fZ fO fA fM fE : FuncId) (S : D) {X : Type} (s : SemX X) : Prop where
  up : ∀ {n x}, s.Ok n x → s.Ok (n + 1) x
  add : ∀ {n x y}, n ≤ 1 → s.Ok n x → s.Ok n y → Pure P fA [S, s.R x, s.R y] [] (s.R (s.A x y)) ∧ s.Ok (n + 1) (s.A x y)
  mul : ∀ {n x y}, n ≤ 1 → s.Ok n x → s.Ok n y → Pure P fM [S, s.R x, s.R y] [] (s.R (s.M x y)) ∧ s.Ok (n + 1) (s.M x y)
  zero : Pure P fZ [S] [] (s.R s.z) ∧ s.Ok 0 s.z
  one : Pure P fO [S] [] (s.R s.o) ∧ s.Ok 0 s.o
  equal : ∀ {x y}, s.Ok 2 x → s.Ok 2 y → Pure P fE [S, s.R x, s.R y] [] (.val (.bool (s.eq x y)))
  ax : ∀ {a b c}, s.Ok 0 a → s.Ok 0 b → s.Ok 0 c → s.ax a b c
section
variable {P : Program} {fZ fO fA fM fE : FuncId} {S : D} {X : Type} {s : SemX X}
theorem SemC.addV (C : SemC P fZ fO fA fM fE S s) {n : Nat} {x y : X} (hn : n ≤ 1) (hx : s.Ok n x) (hy : s.Ok n y) : ∃ v, s.A x y = v ∧ Pure P fA [S, s.R x, s.R y] [] (s.R v) ∧ s.Ok (n + 1) v := ⟨_, rfl, C.add hn hx hy⟩
theorem SemC.mulV (C : SemC P fZ fO fA fM fE S s) {n : Nat} {x y : X} (hn : n ≤ 1) (hx : s.Ok n x) (hy : s.Ok n y) : ∃ v, s.M x y = v ∧ Pure P fM [S, s.R x, s.R y] [] (s.R v) ∧ s.Ok (n + 1) v := ⟨_, rfl, C.mul hn hx hy⟩
theorem SemC.zeroV (C : SemC P fZ fO fA fM fE S s) : ∃ v, s.z = v ∧ Pure P fZ [S] [] (s.R v) ∧ s.Ok 0 v := ⟨_, rfl, C.zero⟩
theorem SemC.oneV (C : SemC P fZ fO fA fM fE S s) : ∃ v, s.o = v ∧ Pure P fO [S] [] (s.R v) ∧ s.Ok 0 v := ⟨_, rfl, C.one⟩
theorem SemC.eqV (C : SemC P fZ fO fA fM fE S s) {x y : X} (hx : s.Ok 2 x) (hy : s.Ok 2 y) (h : s.eq x y = true) : Pure P fE [S, s.R x, s.R y] [] (.val (.bool true)) := h ▸ C.equal hx hy
end
end Go.Proofs.YtgbhoceamcomfaaGreat
namespace Go.Proofs.YtgbhoceamcomfaaGreat
open Go.RowKit
attribute [local irreducible] seqW awp thenW nextW blockW Weak updS deadS retL Pure Acts
set_option linter.unusedVariables false
set_option linter.unusedSimpArgs false
set_option maxRecDepth 4096
noncomputable abbrev Tx : Par := TM Tryz.prog (fun _ => false) (fun _ => false)
theorem Tx_ok : MethOk Tryz.prog Tx := TM_ok _ _ _
def OkD (n : Nat) (x : List Nat) : Prop := Digs x ∧ x.length ≤ 10 * 4 ^ n
theorem pow_big {n : Nat} (h : n ≤ 3) : (10 : Nat) * 4 ^ n ≤ 640 := by
  have : (4 : Nat) ^ n ≤ 4 ^ 3 := Nat.pow_le_pow_right (by decide) h
  omega
theorem pow_one (n : Nat) : 1 ≤ 4 ^ n := Nat.one_le_pow _ _ (by decide)
theorem OkD.up {n : Nat} {x : List Nat} (h : OkD n x) : OkD (n + 1) x := ⟨h.1, by have := h.2; rw [Nat.pow_succ]; omega⟩
theorem OkD.add {n : Nat} {x y : List Nat} (h : OkD n x) (k : OkD n y) : OkD (n + 1) (dg (nval x + nval y)) := by
  refine ⟨digs_dg _, ?_⟩
  have := dlen_add (nval x) (nval y) (10 * 4 ^ n) (Nat.le_trans (dg_len h.1) h.2) (Nat.le_trans (dg_len k.1) k.2)
  have := pow_one n
  rw [Nat.pow_succ]; omega
theorem OkD.mul {n : Nat} {x y : List Nat} (h : OkD n x) (k : OkD n y) : OkD (n + 1) (dg (nval x * nval y)) := by
  refine ⟨digs_dg _, ?_⟩
  have h1 := dlen_mul (nval x) (nval y)
  have h2 := dg_len h.1
  have h3 := dg_len k.1
  have h4 := h.2
  have h5 := k.2
  rw [Nat.pow_succ]; omega
theorem OkD.small {n : Nat} {x : List Nat} (h : OkD n x) (hn : n ≤ 3) : x.length ≤ 1000000 := by
  have := h.2
  have := pow_big hn
  omega
theorem OkD.dg {n v : Nat} (h : v < 4294967296) : OkD n (dg v) := ⟨digs_dg _, by have := dg_small v h; have := pow_one n; omega⟩
end Go.Proofs.YtgbhoceamcomfaaGreat
namespace Go.Proofs.YtgbhoceamcomfaaGreat
open Go.RowKit
attribute [local irreducible] seqW awp thenW nextW blockW Weak updS deadS retL Pure Acts
set_option linter.unusedVariables false
set_option linter.unusedSimpArgs false
set_option maxRecDepth 4096
def cntS : SemX (List Nat) where
  R x := digR x
  Ok := OkD
  A x y := dg (nval x + nval y)
  M x y := dg (nval x * nval y)
  z := dg 0
  o := dg 1
  eq x y := decide (nval x = nval y)
theorem cntS_ok : SemC Tryz.prog 30 31 32 34 36 (.agg []) cntS where
  up h := OkD.up h
  add hn h k := ⟨cadd_c _ _ _ _ rfl rfl (OkD.small h (by omega)) (OkD.small k (by omega)) h.1 k.1, OkD.add h k⟩
  mul hn h k := ⟨cmul_c _ _ _ _ rfl rfl (OkD.small h (by omega)) (OkD.small k (by omega)) h.1 k.1, OkD.mul h k⟩
  zero := ⟨czero_c, OkD.dg (by decide)⟩
  one := ⟨cone_c, OkD.dg (by decide)⟩
  equal h k := cequal_c _ _ _ _ rfl rfl (OkD.small h (by decide)) (OkD.small k (by decide)) h.1 k.1
  ax {a b c} _ _ _ := by
    unfold SemX.ax cntS
    simp only [nval_dg, decide_eq_true_eq]
    exact ⟨Nat.add_assoc _ _ _, Nat.add_comm _ _, Nat.add_zero _, Nat.mul_assoc _ _ _, Nat.mul_comm _ _, Nat.mul_one _, Nat.mul_zero _, Nat.mul_add _ _ _⟩
end Go.Proofs.YtgbhoceamcomfaaGreat
namespace Go.Proofs.YtgbhoceamcomfaaGreat
open Go.Proofs
set_option linter.unusedVariables false
set_option linter.unusedSimpArgs false
structure Cm {α : Type} (c : α → α → Int) : Prop where
  eq : ∀ a b, c a b = 0 ↔ a = b
  neg : ∀ a b, c b a = 0 - c a b
  tr : ∀ a b d, c a b < 0 → c b d < 0 → c a d < 0
def icmp (a b : Int) : Int := if a < b then -1 else if b < a then 1 else 0
theorem icmp_cm : Cm icmp := by
  refine ⟨fun a b => ?_, fun a b => ?_, fun a b d => ?_⟩ <;> unfold icmp <;> (repeat' split) <;> omega
def lcmp : List Int → List Int → Int
  | [], [] => 0
  | [], _ :: _ => -1
  | _ :: _, [] => 1
  | x :: a, y :: b => if x < y then -1 else if y < x then 1 else lcmp a b
theorem lcmp_eq : ∀ a b, lcmp a b = 0 ↔ a = b
  | [], [] => by simp [lcmp]
  | [], _ :: _ => by simp [lcmp]
  | _ :: _, [] => by simp [lcmp]
  | x :: a, y :: b => by
    have := lcmp_eq a b
    simp only [lcmp, List.cons.injEq]
    by_cases h1 : x < y
    · rw [if_pos h1]; constructor
      · intro h; cases h
      · rintro ⟨rfl, _⟩; omega
    · by_cases h2 : y < x
      · rw [if_neg h1, if_pos h2]; constructor
        · intro h; cases h
        · rintro ⟨rfl, _⟩; omega
      · rw [if_neg h1, if_neg h2, this]
        exact ⟨fun h => ⟨by omega, h⟩, fun h => h.2⟩
theorem lcmp_neg : ∀ a b, lcmp b a = 0 - lcmp a b
  | [], [] => by simp [lcmp]
  | [], _ :: _ => by simp [lcmp]
  | _ :: _, [] => by simp [lcmp]
  | x :: a, y :: b => by
    have := lcmp_neg a b
    simp only [lcmp]
    (repeat' split) <;> omega
theorem lcmp_tr : ∀ a b d, lcmp a b < 0 → lcmp b d < 0 → lcmp a d < 0
  | [], [], d, h, k => by simp [lcmp] at h
  | _ :: _, [], d, h, k => by simp [lcmp] at h
  | _, _ :: _, [], h, k => by simp [lcmp] at k
  | [], y :: b, z :: d, h, k => by simp [lcmp]
  | x :: a, y :: b, z :: d, h, k => by
    have ih := lcmp_tr a b d
    simp only [lcmp] at h k ⊢
    by_cases h1 : x < y
    · by_cases h2 : y < z
      · rw [if_pos (by omega)]; omega
      · by_cases h3 : z < y
        · rw [if_neg h2, if_pos h3] at k; omega
        · rw [if_pos (by omega)]; omega
    · by_cases h4 : y < x
      · rw [if_neg h1, if_pos h4] at h; omega
      · rw [if_neg h1, if_neg h4] at h
        have e : x = y := by omega
        subst e
        by_cases h2 : x < z
        · rw [if_pos h2]; omega
        · by_cases h3 : z < x
          · rw [if_neg h2, if_pos h3] at k; omega
          · rw [if_neg h2, if_neg h3] at k ⊢
            exact ih h k
theorem lcmp_cm : Cm lcmp := ⟨lcmp_eq, lcmp_neg, lcmp_tr⟩
section
variable {α : Type} {c : α → α → Int}
def Asc (c : α → α → Int) (l : List α) : Prop := l.Pairwise fun a b => c a b < 0
def putG (c : α → α → Int) (x : α) : List α → Bool → List α
  | [], done => if done then [] else [x]
  | y :: l, done => (if !done && decide (0 ≤ c y x) then [x] else []) ++ (if c y x ≠ 0 then [y] else []) ++ putG c x l (done || decide (0 ≤ c y x))
def setG (c : α → α → Int) (l : List α) : List α := l.foldl (fun o x => putG c x o false) []
theorem putG_mem (hc : Cm c) (x z : α) : ∀ (l : List α) (done : Bool), z ∈ putG c x l done ↔ (done = false ∧ z = x) ∨ (z ∈ l ∧ z ≠ x)
  | [], done => by cases done <;> simp [putG]
  | y :: l, done => by
    simp only [putG, List.mem_append, putG_mem hc x z l, List.mem_cons]
    have e := hc.eq y x
    by_cases h : c y x = 0
    · have := e.1 h
      subst this
      by_cases hx : z = y <;> cases done <;> simp [h, hx]
    · have hyx : y ≠ x := fun h' => h (e.2 h')
      by_cases h0 : 0 ≤ c y x <;> cases done <;> simp [h, h0] <;> (constructor <;> intro hz) <;> (by_cases hx : z = x <;> by_cases hy : z = y <;> simp_all)
theorem putG_done (hc : Cm c) (x : α) : ∀ (l : List α), Asc c l → Asc c (putG c x l true)
  | [], h => by simp [putG, Asc]
  | y :: l, h => by
    unfold Asc at h
    rw [List.pairwise_cons] at h
    have ih := putG_done hc x l h.2
    simp only [putG, Bool.not_true, Bool.false_and, Bool.false_eq_true, if_false, List.nil_append, Bool.true_or]
    split
    · unfold Asc
      rw [List.singleton_append, List.pairwise_cons]
      refine ⟨fun z hz => ?_, ih⟩
      rw [putG_mem hc] at hz
      rcases hz with hz | hz
      · cases hz.1
      · exact h.1 z hz.1
    · exact ih
theorem putG_asc (hc : Cm c) (x : α) : ∀ (l : List α), Asc c l → Asc c (putG c x l false)
  | [], h => by simp [putG, Asc]
  | y :: l, h => by
    unfold Asc at h
    rw [List.pairwise_cons] at h
    by_cases h0 : 0 ≤ c y x
    · have hd := putG_done hc x l h.2
      simp only [putG, h0, decide_true, Bool.not_false, Bool.and_self, if_true, Bool.or_true]
      have hxl : ∀ z ∈ l, c x z < 0 := by
        intro z hz
        have := h.1 z hz
        by_cases he : c y x = 0
        · rw [(hc.eq y x).1 he] at this; exact this
        · exact hc.tr x y z (by have := hc.neg y x; omega) this
      have hx2 : ∀ z ∈ putG c x l true, z ∈ l := by
        intro z hz
        rw [putG_mem hc] at hz
        rcases hz with hz | hz
        · cases hz.1
        · exact hz.1
      unfold Asc
      split
      · rename_i hne
        simp only [List.cons_append, List.nil_append, List.pairwise_cons, List.mem_cons]
        refine ⟨fun z hz => ?_, fun z hz => h.1 z (hx2 z hz), hd⟩
        rcases hz with rfl | hz
        · have := hc.neg z x; omega
        · exact hxl z (hx2 z hz)
      · simp only [List.cons_append, List.nil_append, List.pairwise_cons]
        exact ⟨fun z hz => hxl z (hx2 z hz), hd⟩
    · have ih := putG_asc hc x l h.2
      have hne : c y x ≠ 0 := by omega
      simp only [putG, h0, decide_false, Bool.and_false, Bool.false_eq_true, if_false, List.nil_append, hne, ne_eq, not_false_eq_true, if_true, Bool.or_false]
      unfold Asc
      rw [List.singleton_append, List.pairwise_cons]
      refine ⟨fun z hz => ?_, ih⟩
      rw [putG_mem hc] at hz
      rcases hz with hz | hz
      · rw [hz.2]; omega
      · exact h.1 z hz.1
theorem setG_foldl (hc : Cm c) (z : α) : ∀ (l o : List α), Asc c o → Asc c (l.foldl (fun o x => putG c x o false) o) ∧ (z ∈ l.foldl (fun o x => putG c x o false) o ↔ z ∈ l ∨ z ∈ o)
  | [], o, h => by simp [h]
  | x :: l, o, h => by
    have := setG_foldl hc z l (putG c x o false) (putG_asc hc x o h)
    rw [List.foldl_cons]
    refine ⟨this.1, ?_⟩
    rw [this.2, putG_mem hc, List.mem_cons]
    constructor
    · rintro (h | ⟨_, h⟩ | h)
      · exact .inl (.inr h)
      · exact .inl (.inl h)
      · exact .inr h.1
    · rintro ((h | h) | h)
      · exact .inr (.inl ⟨rfl, h⟩)
      · exact .inl h
      · by_cases hx : z = x
        · exact .inr (.inl ⟨rfl, hx⟩)
        · exact .inr (.inr ⟨h, hx⟩)
theorem setG_asc (hc : Cm c) (l : List α) : Asc c (setG c l) := by
  cases l with
  | nil => exact List.Pairwise.nil
  | cons x l => exact (setG_foldl hc x (x :: l) [] List.Pairwise.nil).1
theorem setG_mem (hc : Cm c) (l : List α) (z : α) : z ∈ setG c l ↔ z ∈ l := by
  have := (setG_foldl hc z l [] List.Pairwise.nil).2
  simpa [setG] using this
theorem asc_ext (hc : Cm c) : ∀ {l m : List α}, Asc c l → Asc c m → (∀ z, z ∈ l ↔ z ∈ m) → l = m
  | [], [], _, _, _ => rfl
  | [], y :: m, _, _, h => by have := (h y).2 (List.mem_cons_self ..); cases this
  | x :: l, [], _, _, h => by have := (h x).1 (List.mem_cons_self ..); cases this
  | x :: l, y :: m, hl, hm, h => by
    unfold Asc at hl hm
    rw [List.pairwise_cons] at hl hm
    have irr : ∀ a, ¬ c a a < 0 := fun a => by have := (hc.eq a a).2 rfl; omega
    have e : x = y := by
      have h1 := (h x).1 (List.mem_cons_self ..)
      have h2 := (h y).2 (List.mem_cons_self ..)
      rcases List.mem_cons.1 h1 with h1 | h1
      · exact h1
      · rcases List.mem_cons.1 h2 with h2 | h2
        · exact h2.symm
        · exact absurd (hc.tr _ _ _ (hl.1 y h2) (hm.1 x h1)) (irr x)
    subst e
    congr 1
    refine asc_ext hc hl.2 hm.2 fun z => ?_
    have := h z
    rw [List.mem_cons, List.mem_cons] at this
    constructor
    · intro hz
      rcases this.1 (.inr hz) with e | e
      · subst e; exact absurd (hl.1 z hz) (irr z)
      · exact e
    · intro hz
      rcases this.2 (.inr hz) with e | e
      · subst e; exact absurd (hm.1 z hz) (irr z)
      · exact e
theorem setG_of_asc (hc : Cm c) {l : List α} (h : Asc c l) : setG c l = l := asc_ext hc (setG_asc hc l) h fun z => setG_mem hc l z
theorem setG_congr (hc : Cm c) {l m : List α} (h : ∀ z, z ∈ l ↔ z ∈ m) : setG c l = setG c m := asc_ext hc (setG_asc hc l) (setG_asc hc m) fun z => by rw [setG_mem hc, setG_mem hc, h]
def dedG [DecidableEq α] (p : α) : List α → List α
  | [] => []
  | x :: l => if x = p then dedG p l else x :: dedG x l
def ddG [DecidableEq α] : List α → List α
  | [] => []
  | x :: l => x :: dedG x l
theorem dedG_spec [DecidableEq α] (hc : Cm c) : ∀ (l : List α) (p : α), (p :: l).Pairwise (fun a b => ¬ c b a < 0) → Asc c (p :: dedG p l) ∧ ∀ z, z ∈ p :: dedG p l ↔ z ∈ p :: l
  | [], p, h => by simp [dedG, Asc]
  | x :: l, p, h => by
    rw [List.pairwise_cons] at h
    have hpx := h.1 x (List.mem_cons_self ..)
    have ih := dedG_spec hc l x h.2
    unfold dedG
    split
    · rename_i e
      subst e
      refine ⟨ih.1, fun z => ?_⟩
      rw [ih.2]; simp
    · rename_i hne
      have hlt : c p x < 0 := by
        have h1 := hc.neg p x
        have h2 : c p x ≠ 0 := fun h => hne ((hc.eq p x).1 h).symm
        omega
      refine ⟨?_, fun z => by rw [List.mem_cons, ih.2, List.mem_cons (a := z) (b := p)]⟩
      unfold Asc
      rw [List.pairwise_cons]
      refine ⟨fun z hz => ?_, ih.1⟩
      rcases List.mem_cons.1 hz with rfl | hz
      · exact hlt
      · have := ih.1
        unfold Asc at this
        rw [List.pairwise_cons] at this
        exact hc.tr _ _ _ hlt (this.1 z hz)
theorem ddG_sorted [DecidableEq α] (hc : Cm c) {l : List α} (h : l.Pairwise (fun a b => ¬ c b a < 0)) : ddG l = setG c l := by
  cases l with
  | nil => rfl
  | cons x l =>
    have := dedG_spec hc l x h
    exact asc_ext hc this.1 (setG_asc hc _) fun z => by rw [setG_mem hc]; exact this.2 z
end
theorem compact_cons (x : Int) (l : List Int) : Lib.compact (x :: l) = x :: dedG x l := by
  have key : ∀ (l : List Int) (x : Int), Lib.compact (x :: l) = x :: dedG x l := by
    intro l
    induction l with
    | nil => intro x; simp [Lib.compact, Lib.compactUpTo, dedG, List.range_succ, Lib.keeps]
    | cons y l ih =>
      intro x
      have h1 : Lib.compact (x :: y :: l) = x :: (if y = x then (Lib.compact (y :: l)).tail else Lib.compact (y :: l)) := by
        simp only [Lib.compact, Lib.compactUpTo, List.length_cons]
        rw [List.range_succ_eq_map, List.filter_cons]
        have hk0 : Lib.keeps (x :: y :: l).toArray 0 = true := by simp [Lib.keeps]
        rw [if_pos hk0, List.map_cons, List.filter_map, List.map_map]
        congr 1
        have hfun : ((fun x_1 => (x :: y :: l).toArray[x_1]!) ∘ Nat.succ) = fun i => (y :: l).toArray[i]! := by funext i; simp
        rw [hfun]
        rw [List.range_succ_eq_map]
        simp only [List.filter_cons, List.filter_map, List.map_cons, List.map_map]
        have hk1 : (Lib.keeps (x :: y :: l).toArray ∘ Nat.succ) 0 = decide (y ≠ x) := by
          simp [Lib.keeps]
        have hk2 : Lib.keeps (y :: l).toArray 0 = true := by simp [Lib.keeps]
        have hk3 : ((Lib.keeps (x :: y :: l).toArray ∘ Nat.succ) ∘ Nat.succ) = (Lib.keeps (y :: l).toArray ∘ Nat.succ) := by
          funext i; simp [Lib.keeps]
        rw [hk1, hk2, hk3]
        by_cases hyx : y = x <;> simp [hyx]
      rw [h1, ih y]
      simp only [dedG, List.tail_cons]
      split
      · rename_i e; rw [e]
      · rfl
  exact key l x
theorem compact_dd (l : List Int) : Lib.compact l = ddG l := by
  cases l with
  | nil => rfl
  | cons x l => exact compact_cons x l
def wset (w : List (List Int)) : List (List Int) := setG lcmp (w.map (setG icmp))
theorem wset_sets (w : List (List Int)) : ∀ s ∈ wset w, setG icmp s = s := fun s hs => by
  rw [wset, setG_mem lcmp_cm, List.mem_map] at hs
  obtain ⟨t, _, rfl⟩ := hs
  exact setG_of_asc icmp_cm (setG_asc icmp_cm t)
theorem map_sets (w : List (List Int)) : (wset w).map (setG icmp) = wset w := by
  rw [List.map_congr_left (wset_sets w), List.map_id']
def prodL (a b : List (List Int)) : List (List Int) := a.flatMap fun x => b.map fun y => x ++ y
end Go.Proofs.YtgbhoceamcomfaaGreat
namespace Go.Proofs.YtgbhoceamcomfaaGreat
open Go.RowKit
set_option linter.unusedVariables false
set_option linter.unusedSimpArgs false
theorem cmpInt_cases (x y : Int) : (x < y ∧ Lib.compareInt x y = -1) ∨ (x = y ∧ Lib.compareInt x y = 0) ∨ (y < x ∧ Lib.compareInt x y = 1) := by
  unfold Lib.compareInt
  by_cases h1 : x < y
  · exact .inl ⟨h1, by simp [h1]⟩
  · by_cases h2 : y < x
    · exact .inr (.inr ⟨h2, by simp [h1, h2]⟩)
    · exact .inr (.inl ⟨by omega, by simp [h1, h2]⟩)
theorem lc_step {a b : List Int} {i : Nat} (ha : i < a.length) (hb : i < b.length) : lcmp (a.drop i) (b.drop i) = if a.getD i 0 < b.getD i 0 then -1 else if b.getD i 0 < a.getD i 0 then 1 else lcmp (a.drop (i + 1)) (b.drop (i + 1)) := by
  rw [List.drop_eq_getElem_cons ha, List.drop_eq_getElem_cons hb]
  simp [lcmp, ha, hb]
theorem lc_end1 {a b : List Int} {i : Nat} (ha : i < a.length) (hb : b.length ≤ i) : lcmp (a.drop i) (b.drop i) = 1 := by
  rw [List.drop_eq_getElem_cons ha, List.drop_of_length_le hb]; rfl
theorem lc_end2 {a b : List Int} {i : Nat} (ha : a.length ≤ i) (hb : i < b.length) : lcmp (a.drop i) (b.drop i) = -1 := by
  rw [List.drop_eq_getElem_cons hb, List.drop_of_length_le ha]; rfl
theorem lc_end3 {a b : List Int} {i : Nat} (ha : a.length ≤ i) (hb : b.length ≤ i) : lcmp (a.drop i) (b.drop i) = 0 := by
  rw [List.drop_of_length_le ha, List.drop_of_length_le hb]; rfl
theorem cells_int {w : World} {p : Option Addr} {a : List Int} (h : RowAt (fun _ => True) w p (a.map (Value.int .i64))) {i : Nat} (hi : i < a.length) : ∃ b o, p = some ⟨b, o, none⟩ ∧ w.cell? ⟨b, o + i, none⟩ = some (.int .i64 (a.getD i 0)) := by
  rcases h with h | ⟨b, o, rfl, _, h⟩
  · rw [List.map_eq_nil_iff] at h; subst h; simp at hi
  · refine ⟨b, o, rfl, ?_⟩
    rw [h i (by simpa using hi)]
    simp [List.getD, hi]
set_option maxHeartbeats 1000000 in
theorem scompare_walk (a b : List Int) (p q : Option Addr) (c d : Nat) (w : World) (ha : RowAt (fun _ => True) w p (a.map (Value.int .i64))) (hb : RowAt (fun _ => True) w q (b.map (Value.int .i64))) (la : a.length ≤ 9223372036854775807) (lb : b.length ≤ 9223372036854775807) :
    Calls Tryz.prog 111 #[.slice p a.length c, .slice q b.length d] w fun e w' => e = .returned (.int .i64 (lcmp a b)) ∧ w' = w := by
  have H1 := Lib.hid ha
  have H2 := Lib.hid hb
  clear ha hb
  go_enter Tryz.func111, Tryz.ntmps111
  go_wp2_with fail
  go_loopw [11] (fun iv wr => ∃ i : Nat, i ≤ a.length ∧ i ≤ b.length ∧ iv = .int .i64 i ∧ Hid (lcmp (a.drop i) (b.drop i) = lcmp a b) ∧ wr = w) (fun iv _ => a.length - (intOf iv).toNat)
  case atStart => exact ⟨0, Nat.zero_le _, Nat.zero_le _, rfl, Lib.hid (by simp), rfl⟩
  case round =>
    obtain ⟨i, h1, h2, rfl, HD, rfl⟩ := hrel
    by_cases h3 : i < a.length
    · obtain ⟨b1, o1, rfl, hc1⟩ := cells_int H1.out h3
      by_cases h4 : i < b.length
      · obtain ⟨b2, o2, rfl, hc2⟩ := cells_int H2.out h4
        have HS := Lib.hid (HD.out.symm.trans (lc_step h3 h4))
        generalize hx : a.getD i 0 = x at *
        generalize hy : b.getD i 0 = y at *
        have HX := Lib.hid (And.intro hx hy)
        clear hx hy
        rcases cmpInt_cases x y with ⟨h5, h6⟩ | ⟨h5, h6⟩ | ⟨h5, h6⟩
        · have HC := Lib.hid h5
          clear h5
          go_wp2_with (go_at_call 99; refine (Tryz.cmp_Compare_int _ _ _).mono ?_; rintro e w' ⟨rfl, rfl⟩; rw [h6])
          go_ret
          exact ⟨by rw [HS.out, if_pos HC.out]; rfl, rfl⟩
        · have HC := Lib.hid h5
          clear h5
          go_wp2_with (go_at_call 99; refine (Tryz.cmp_Compare_int _ _ _).mono ?_; rintro e w' ⟨rfl, rfl⟩; rw [h6])
          go_roundw
          case rel => exact ⟨i + 1, by omega, by omega, by simp, Lib.hid (by rw [HS.out, if_neg (by have := HC.out; omega), if_neg (by have := HC.out; omega)]), by first | rfl | trivial⟩
          case measure => simp [intOf]; omega
        · have HC := Lib.hid h5
          clear h5
          go_wp2_with (go_at_call 99; refine (Tryz.cmp_Compare_int _ _ _).mono ?_; rintro e w' ⟨rfl, rfl⟩; rw [h6])
          go_ret
          exact ⟨by rw [HS.out, if_neg (by have := HC.out; omega), if_pos HC.out]; rfl, rfl⟩
      · have HS := Lib.hid (HD.out.symm.trans (lc_end1 h3 (by omega)))
        go_wp2_with fail
        go_ret
        exact ⟨by rw [HS.out]; rfl, rfl⟩
    · by_cases h4 : i < b.length
      · have HS := Lib.hid (HD.out.symm.trans (lc_end2 (by omega) h4))
        go_wp2_with fail
        go_ret
        exact ⟨by rw [HS.out]; rfl, rfl⟩
      · have HS := Lib.hid (HD.out.symm.trans (lc_end3 (a := a) (b := b) (i := i) (by omega) (by omega)))
        go_wp2_with fail
        go_ret
        exact ⟨by rw [HS.out]; rfl, rfl⟩
end Go.Proofs.YtgbhoceamcomfaaGreat
namespace Go.Proofs.YtgbhoceamcomfaaGreat
open Go.RowKit
attribute [local irreducible] seqW awp thenW nextW blockW Weak updS deadS retL Pure Acts
set_option linter.unusedVariables false
set_option linter.unusedSimpArgs false
set_option maxRecDepth 4096
theorem setG_take {α : Type} {c : α → α → Int} (d0 : α) {l : List α} {i : Nat} (h : i < l.length) : setG c (l.take (i + 1)) = putG c (l.getD i d0) (setG c (l.take i)) false := by
  rw [List.take_succ_eq_append_getElem h, setG, List.foldl_append]
  have e : l.getD i d0 = l[i] := by rw [List.getD_eq_getElem?_getD, List.getElem?_eq_getElem h]; rfl
  rw [e]; rfl
theorem headD_int (l : List Int) (k : Nat) (h : k < l.length) : ((l.map intD).drop k).headD .unk = intD (l.getD k 0) := headD_map intD l 0 k h
theorem put_lenT {α : Type} {c : α → α → Int} (n : α) : ∀ l : List α, (putG c n l true).length ≤ l.length
  | [] => by simp [putG]
  | z :: l => by
    have := put_lenT (c := c) n l
    simp only [putG, List.length_append, List.length_cons, Bool.not_true, Bool.false_and, Bool.false_eq_true, if_false, List.nil_append, Bool.true_or]; split <;> simp <;> omega
theorem put_len {α : Type} {c : α → α → Int} (n : α) : ∀ l : List α, (putG c n l false).length ≤ l.length + 1
  | [] => by simp [putG]
  | y :: l => by
    have h2 := put_lenT (c := c) n l
    have h3 := put_len (c := c) n l
    simp only [putG, List.length_append, List.length_cons]
    by_cases h0 : 0 ≤ c y n <;> by_cases h1 : c y n = 0 <;> simp [h0, h1] <;> omega
theorem set_len {α : Type} {c : α → α → Int} (l : List α) : ∀ i, i ≤ l.length → (setG c (l.take i)).length ≤ i
  | 0, _ => by simp [setG]
  | i + 1, h => by
    have h1 : i < l.length := by omega
    rw [setG_take (l[i]) h1]
    have := put_len (c := c) (l.getD i l[i]) (setG c (l.take i))
    have := set_len (c := c) l i (by omega)
    omega
theorem headD_why (w : List (List Int)) (k : Nat) (h : k < w.length) : ((w.map intsD).drop k).headD .unk = intsD (w.getD k []) := headD_map intsD w [] k h
theorem app_why (w : List (List Int)) (x : List Int) : w.map intsD ++ [.row (x.map intD) x.length] = (w ++ [x]).map intsD := by simp
def Short (k : Nat) (w : List (List Int)) : Prop := ∀ s ∈ w, s.length ≤ k
theorem Short.get {k : Nat} {w : List (List Int)} (h : Short k w) (i : Nat) : (w.getD i []).length ≤ k := by
  rw [List.getD_eq_getElem?_getD]
  cases hi : w[i]? with
  | none => simp
  | some x => simpa using h x (List.mem_of_getElem? hi)
theorem short_set {k : Nat} {w : List (List Int)} (h : Short k w) : Short k (w.map (setG icmp)) := fun s hs => by
  obtain ⟨t, ht, rfl⟩ := List.mem_map.1 hs
  have := set_len (c := icmp) t t.length (Nat.le_refl _)
  rw [List.take_length] at this
  exact Nat.le_trans this (h t ht)
theorem short_wset {k : Nat} {w : List (List Int)} (h : Short k w) : Short k (wset w) := fun s hs => by
  rw [wset, setG_mem lcmp_cm] at hs
  exact short_set h s hs
theorem wset_len (w : List (List Int)) : (wset w).length ≤ w.length := by
  have := set_len (c := lcmp) (w.map (setG icmp)) w.length (by simp)
  rwa [List.take_of_length_le (by simp)] at this
theorem set_len' (l : List Int) : (setG icmp l).length ≤ l.length := by
  have := set_len (c := icmp) l l.length (Nat.le_refl _)
  rwa [List.take_length] at this
theorem short_app {k : Nat} {a b : List (List Int)} (ha : Short k a) (hb : Short k b) : Short k (a ++ b) := fun s hs => by
  rcases List.mem_append.1 hs with h | h
  · exact ha s h
  · exact hb s h
def prodT (a b : List (List Int)) (i j : Nat) : List (List Int) := prodL (a.take i) b ++ (b.take j).map fun y => a.getD i [] ++ y
theorem prodT_succ (a b : List (List Int)) (i j : Nat) (h : j < b.length) : prodT a b i (j + 1) = prodT a b i j ++ [a.getD i [] ++ b.getD j []] := by
  have e : b.getD j [] = b[j] := by rw [List.getD_eq_getElem?_getD, List.getElem?_eq_getElem h]; rfl
  rw [prodT, prodT, List.take_succ_eq_append_getElem h, List.map_append, e, List.append_assoc]; rfl
theorem prodT_next (a b : List (List Int)) (i : Nat) (h : i < a.length) : prodT a b i b.length = prodT a b (i + 1) 0 := by
  have e : a.getD i [] = a[i] := by rw [List.getD_eq_getElem?_getD, List.getElem?_eq_getElem h]; rfl
  rw [prodT, prodT, List.take_length, List.take_zero, List.map_nil, List.append_nil, prodL, prodL, List.take_succ_eq_append_getElem h, List.flatMap_append, e]
  simp
theorem prodT_len (a b : List (List Int)) (i j : Nat) (hi : i ≤ a.length) (hj : j ≤ b.length) : (prodT a b i j).length = i * b.length + j := by
  rw [prodT, List.length_append, List.length_map, List.length_take, Nat.min_eq_left hj, prodL, List.length_flatMap]
  simp only [List.length_map]
  rw [List.map_const', List.sum_replicate_nat, List.length_take, Nat.min_eq_left hi]
theorem short_prod {k l : Nat} {a b : List (List Int)} (ha : Short k a) (hb : Short l b) (i j : Nat) : Short (k + l) (prodT a b i j) := fun s hs => by
  rcases List.mem_append.1 hs with h | h
  · rw [prodL, List.mem_flatMap] at h
    obtain ⟨x, hx, h⟩ := h
    obtain ⟨y, hy, rfl⟩ := List.mem_map.1 h
    have h1 := ha x (List.mem_of_mem_take hx)
    have h2 := hb y hy
    rw [List.length_append]; omega
  · obtain ⟨y, hy, rfl⟩ := List.mem_map.1 h
    have h1 := ha.get i
    have h2 := hb y (List.mem_of_mem_take hy)
    rw [List.length_append]; omega
theorem mul_le {i n m : Nat} (h : i ≤ n) : i * m ≤ n * m := Nat.mul_le_mul_right m h
end Go.Proofs.YtgbhoceamcomfaaGreat
namespace Go.Proofs.YtgbhoceamcomfaaGreat
open Go.RowKit Go.Sort Go.Lib Go.Shelf
set_option linter.unusedVariables false
set_option linter.unusedSimpArgs false
section
variable {P : Program} {I : Im} {w : World} {β : Be} {sl : List D} {st : List Bk} {tm : List Value}
theorem grow_heap (w : World) (os : Array Obj) {b : Nat} (h : b < w.heap.size) : (grow w os).heap[b]? = w.heap[b]? := by
  simp [grow, Array.getElem?_append_left h]
theorem Fix.grow (hi : ImB I w) (os : Array Obj) : Fix I w I (grow w os) := fun b o h => ⟨h, fun v hv => by
  simp only [World.cell?] at hv ⊢
  rw [grow_heap w os (hi b o h)]; exact hv⟩
theorem Sim.grow (h : Sim β I w sl st tm) (os : Array Obj) : Sim β I (grow w os) sl st tm := by
  have hf := Fix.grow h.imb os
  refine ⟨RelT.mono hf β β (BeLe.refl _) _ _ h.rel, fun k b c hk => ?_, h.inj, h.fz, h.dom, fun b o hb => ?_⟩
  · obtain ⟨e, h1, h2⟩ := h.sr k b c hk
    exact ⟨e, h1, h2.mono (grow_heap w os h2.lt) hf (BeLe.refl _)⟩
  · have := h.imb b o hb
    simp [Go.Sort.grow]; omega
theorem Stp.grow (hi : ImB I w) (β : Be) (os : Array Obj) : Stp β I w β I (grow w os) := ⟨Fix.grow hi os, by simp [Go.Sort.grow], fun b hb _ => grow_heap w os hb, rfl, rfl, rfl, fun k b c h => .inl ⟨k, c, h⟩, fun _ _ h => .inl h⟩
theorem setAt_all : ∀ (xs ys pre : List D), xs.length = ys.length → setAt (pre ++ xs) pre.length ys = pre ++ ys
  | xs, [], pre, hl => by
    obtain rfl : xs = [] := List.eq_nil_of_length_eq_zero (by simpa using hl)
    rfl
  | [], y :: ys, pre, hl => by simp at hl
  | x :: xs, y :: ys, pre, hl => by
    simp only [setAt]
    have e1 : (pre ++ x :: xs).set pre.length y = (pre ++ [y]) ++ xs := by simp
    rw [e1]
    have := setAt_all xs ys (pre ++ [y]) (by simpa using hl)
    simp only [List.length_append, List.length_cons, List.length_nil] at this
    rw [this]; simp
theorem acts_rowG {f : FuncId} {k n : Nat} {e : Bk} {wh : Bool} {ds' : List D} {margs : List D} {more : List Value} (hmore : ∀ I w β vs, RelT I w β margs vs → vs = more) (he : st[k]? = some e) (ha : e.arr = true) (hf : e.fz = false) (hlen : e.cells.length = n) (hl' : ds'.length = n) (hpos : 0 < n)
    (h : ∀ (I : Im) b c w us, ImB I w → (∀ j, ¬ I b j) → RelL I w noB e.cells us → (∃ cur t, w.heap[b]? = some (.cells cur t (0, 0))) → (∀ j, j < n → w.cell? ⟨b, 0 + j, none⟩ = some (us.getD j undef)) → (∀ j, j < n → w.frozen? ⟨b, 0 + j, none⟩ = false) → n ≤ c → Calls P f (#[.slice (some ⟨b, 0, none⟩) n c] ++ more.toArray) w fun x w' => x = .returned (.tuple #[]) ∧ ∃ vs q os, w' = grow ((w.drewN q).setCells b 0 vs) os ∧ RelL I w noB ds' vs) :
    Acts P f (.osl k 0 n n wh :: margs) st [] (.val (.tuple #[])) (st.set k { e with cells := ds' }) := by
  intro β I w xs hr hsr hinj hfz hdom hi
  simp only [RelT] at hr
  obtain ⟨v, ys, rfl, hr, hys⟩ := hr
  obtain rfl := hmore _ _ _ _ hys
  simp only [Rel] at hr
  rcases hr with ⟨e0, _, rfl⟩ | ⟨e0, _, _, a, c, rfl, _⟩ | ⟨b, c, cap, hb, rfl, k1, k2, k3⟩
  · omega
  · omega
  have hs0 : Sim β I w ([] : List D) st ({ tmps := #[], defers := [] } : Act).tmps.toList := ⟨by simp only [RelT], hsr, hinj, hfz, hdom, hi⟩
  obtain ⟨e', he', cur, c1, c2, c3, c4⟩ := hsr k b c hb
  rw [he] at he'; cases he'
  rw [ha] at c3
  simp only [if_true] at c3
  have hno : ∀ j, ¬ I b j := fun j hij => by
    have := (hfz k b c j e hb he hij).1
    rw [hf] at this; cases this
  have hpre := (hs0.put (off := 0) (cs := e.cells) (vs := cur.take e.cells.length) (ks := []) hb he hf (by simp) (by rw [ha]; simp only [if_true]; exact RelL.mono (fixI_le _) _ _ (BeLe.refl _) _ _ c3) (by simp) none undef).2.2
  have hlc : (cur.take e.cells.length).length = n := by rw [← c3.length]; exact hlen
  have e1 : (#[Value.slice (some ⟨b, 0, none⟩) n cap] ++ ys.toArray) = (Value.slice (some ⟨b, 0, none⟩) n cap :: ys).toArray := by apply Array.ext'; simp
  rw [← e1]
  refine (h I b cap w (cur.take e.cells.length) hi hno c3 ⟨_, _, c1⟩ (fun j hj => ?_) (fun j hj => (hpre j (by omega)).2) k1).mono ?_
  · have hlt : j < cur.length := by rw [List.length_take] at hlc; omega
    rw [List.getD_eq_getElem?_getD, List.getElem?_take, if_pos (by omega), List.getElem?_eq_getElem hlt]
    simp [World.cell?, c1, hlt]
  · rintro x w' ⟨rfl, vs, q, os, rfl, hvs⟩
    have hvs' : RelL (fixI I β st []) (w.drewN q) (if e.arr then noB else β) ds' vs := by
      rw [ha]; simp only [if_true]
      exact RelL.mono ((Fix.drew I w q).trans (fixI_le [])) _ _ (BeLe.refl _) _ _ hvs
    obtain ⟨s1, s2, s3⟩ := (hs0.drew q).put (off := 0) (cs := ds') (vs := vs) (ks := []) hb he hf (by simp) hvs' (by omega) none undef
    have hset2 : setAt e.cells 0 ds' = ds' := setAt_all e.cells ds' [] (by omega)
    rw [hset2] at s1
    have s4 := s1.grow os
    exact ⟨_, β, _, rfl, s4.imb, (Stp.drew β I w q).trans (s2.trans (Stp.grow s1.imb β os)), fun _ _ _ h => h, s4.sr, s4.inj, s4.fz, s4.dom, by simp only [Rel]⟩
theorem acts_row0 {f : FuncId} {k : Nat} {wh : Bool} (h0 : ∀ a c w, Calls P f #[.slice a 0 c] w fun x w' => x = .returned (.tuple #[]) ∧ w' = w) : Acts P f [.osl k 0 0 0 wh] st [] (.val (.tuple #[])) st := by
  intro β I w xs hr hsr hinj hfz hdom hi
  simp only [RelT] at hr
  obtain ⟨v, ys, rfl, hr, rfl⟩ := hr
  have : ∃ a c, v = .slice a 0 c := by
    simp only [Rel] at hr
    rcases hr with ⟨_, _, rfl⟩ | ⟨_, _, _, a, c, rfl, _⟩ | ⟨b, c, cap, hb, rfl, _⟩
    · exact ⟨none, 0, rfl⟩
    · exact ⟨a, c, rfl⟩
    · exact ⟨_, _, rfl⟩
  obtain ⟨a, c, rfl⟩ := this
  refine (h0 a c w).mono ?_
  rintro x w' ⟨rfl, rfl⟩
  exact ⟨_, β, I, rfl, hi, Stp.refl _ _ _, fun _ _ _ h => h, hsr, hinj, hfz, hdom, by simp only [Rel]⟩
end
def sortC {α : Type} (c : α → α → Int) (l : List α) : List α := l.mergeSort fun a b => decide (c a b ≤ 0)
section
variable {α : Type} {c : α → α → Int}
theorem sortC_perm (l : List α) : (sortC c l).Perm l := List.mergeSort_perm _ _
theorem Cm.le_tr (hc : Cm c) {a b d : α} (h : c a b ≤ 0) (k : c b d ≤ 0) : c a d ≤ 0 := by
  by_cases e1 : c a b = 0
  · rw [(hc.eq a b).1 e1]; exact k
  · by_cases e2 : c b d = 0
    · rw [← (hc.eq b d).1 e2]; exact h
    · have := hc.tr a b d (by omega) (by omega); omega
theorem sortC_sorted (hc : Cm c) (l : List α) : (sortC c l).Pairwise fun a b => ¬ c b a < 0 := by
  have := List.pairwise_mergeSort (le := fun a b => decide (c a b ≤ 0)) (fun a b d h k => by
    simp only [decide_eq_true_eq] at *; exact hc.le_tr h k) (fun a b => by
    have := hc.neg a b
    simp only [Bool.or_eq_true, decide_eq_true_eq]; omega) l
  refine this.imp fun {a b} h => ?_
  have := hc.neg a b
  simp only [decide_eq_true_eq] at h
  omega
theorem sortC_uniq (hc : Cm c) {l m : List α} (hp : m.Perm l) (hs : m.Pairwise fun a b => ¬ c b a < 0) : m = sortC c l := by
  refine List.Perm.eq_of_pairwise (le := fun a b => ¬ c b a < 0) (fun a b _ _ h k => ?_) hs (sortC_sorted hc l) (hp.trans (sortC_perm l).symm)
  have := hc.neg a b
  exact (hc.eq a b).1 (by omega)
theorem ddG_sort [DecidableEq α] (hc : Cm c) (l : List α) : ddG (sortC c l) = setG c l := by
  rw [ddG_sorted hc (sortC_sorted hc l)]
  exact setG_congr hc fun z => (sortC_perm l).mem_iff
end
theorem sortC_int (l : List Int) : sortC icmp l = l.mergeSort fun x y => decide (x ≤ y) := by
  unfold sortC
  congr 1
  funext a b
  unfold icmp
  (repeat' split) <;> simp <;> omega
theorem ints_vals (zs : List Int) : zs.map intD = (zs.map (Value.int .i64)).map .val := by simp
theorem sort_ints {st : List Bk} {k n : Nat} {e : Bk} {wh : Bool} {zs : List Int} (he : st[k]? = some e) (ha : e.arr = true) (hf : e.fz = false) (hc : e.cells = zs.map intD) (hn : zs.length = n) (hb : n ≤ 1000000) :
    Acts Tryz.prog 108 [.osl k 0 n n wh] st [] (.val (.tuple #[])) (st.set k { e with cells := (sortC icmp zs).map intD }) := by
  have hsl : (sortC icmp zs).length = n := by rw [(sortC_perm zs).length_eq, hn]
  rcases Nat.eq_zero_or_pos n with h0 | hpos
  · subst h0
    obtain rfl : zs = [] := List.eq_nil_of_length_eq_zero hn
    have e1 : ({ e with cells := (sortC icmp []).map intD } : Bk) = e := by
      rw [show (sortC icmp ([] : List Int)) = [] by rw [sortC_int]; simp, ← hc]
    rw [e1]
    have e2 : st.set k e = st := by
      apply List.ext_getElem?
      intro j
      rw [List.getElem?_set]
      split
      · rename_i ej; subst ej
        rw [he, if_pos (List.getElem?_eq_some_iff.1 he).1]
      · rfl
    rw [e2]
    exact acts_row0 fun a c w => Tryz.slices_Sort_int_none a c w
  · refine acts_rowG (margs := []) (more := []) (fun _ _ _ _ h => by simpa only [RelT] using h) he ha hf (by rw [hc, List.length_map, hn]) (by rw [List.length_map, hsl]) hpos ?_
    intro I b c w us hi hno hr hcur hcell hfr hcap
    rw [hc, ints_vals] at hr
    obtain rfl := relL_vals hr
    have hH : Holds (Value.int .i64) w b 0 zs.toArray := fun j hj => by
      have hj' : j < n := by simpa [hn] using hj
      refine ⟨?_, hfr j hj'⟩
      rw [hcell j hj']
      simp [List.getD, hn, hj']
    have hblk : b < w.heap.size := by
      obtain ⟨cur, t, h⟩ := hcur
      rw [Array.getElem?_eq_some_iff] at h
      exact h.1
    have := Tryz.slices_Sort_int b 0 c zs w hH hblk (by omega)
    rw [hn] at this
    refine this.mono ?_
    rintro x w' ⟨rfl, q, os, rfl⟩
    refine ⟨rfl, (sortC icmp zs).map (Value.int .i64), q, os, ?_, ?_⟩
    · rw [← sortC_int, putRow_eq_setCells (Value.int .i64) w b 0 zs.toArray (sortC icmp zs) q hH (by simp [hsl, hn])]
    · rw [ints_vals]
      exact relL_of_vals fun v hv => by obtain ⟨z, _, rfl⟩ := List.mem_map.1 hv; rfl
structure El2 (I : Im) (w : World) where
  l : List Int
  v : Value
  rel : Rel I w noB (intsD l) v
  one : v.oneCell' = true
  len : l.length ≤ 1000000
theorem pairs2 {I : Im} {w : World} : ∀ {l : List (List Int)} {us : List Value}, RelL I w noB (l.map intsD) us → Short 1000000 l → ∃ xs : List (El2 I w), xs.map (·.l) = l ∧ xs.map (·.v) = us
  | [], us, h, _ => by
    simp only [List.map_nil, RelL] at h
    exact ⟨[], rfl, by simp [h]⟩
  | s :: l, us, h, hs => by
    simp only [List.map_cons, RelL] at h
    obtain ⟨v, us, rfl, h1, h2, h3⟩ := h
    obtain ⟨xs, k1, k2⟩ := pairs2 h3 (fun t ht => hs t (List.mem_cons_of_mem _ ht))
    exact ⟨⟨s, v, h2, h1, hs s (List.mem_cons_self ..)⟩ :: xs, by simp [k1], by simp [k2]⟩
theorem rel2 {I : Im} {w : World} : ∀ (xs : List (El2 I w)), RelL I w noB ((xs.map (·.l)).map intsD) (xs.map (·.v))
  | [] => by simp only [List.map_nil, RelL]
  | x :: xs => by
    simp only [List.map_cons, RelL]
    exact ⟨_, _, rfl, x.one, x.rel, rel2 xs⟩
theorem swo2 {I : Im} {w : World} : SWO (ltOf fun x y : El2 I w => lcmp x.l y.l) := by
  refine ⟨fun x => ?_, fun x y z h k => ?_, fun x y z h k => ?_⟩
  · simp [ltOf, (lcmp_eq x.l x.l).2 rfl]
  · simp only [ltOf, decide_eq_true_eq] at *
    exact lcmp_tr _ _ _ h k
  · simp only [ltOf, decide_eq_false_iff_not] at *
    have h1 := lcmp_neg x.l y.l
    have h2 := lcmp_neg y.l z.l
    have h3 := lcmp_neg x.l z.l
    have := lcmp_cm.le_tr (a := z.l) (b := y.l) (d := x.l) (by omega) (by omega)
    omega
theorem row_of_rel {I : Im} {w : World} {s : List Int} {v : Value} (h : Rel I w noB (intsD s) v) : ∃ p c, v = .slice p s.length c ∧ RowAt (fun _ => True) w p (s.map (Value.int .i64)) := by
  simp only [Rel] at h
  obtain ⟨a, cap, rfl, h1, h2, h3, h4⟩ := h
  refine ⟨a, cap, rfl, ?_⟩
  rcases h4 with h4 | ⟨b, o, rfl, h4⟩
  · rw [List.map_eq_nil_iff] at h4; exact .inl (by rw [h4]; rfl)
  · refine .inr ⟨b, o, rfl, trivial, fun i hi => ?_⟩
    rw [List.length_map] at hi
    obtain ⟨_, v, k1, k2, k3⟩ := h4.get i (intD s[i]) (by simp [hi])
    simp only [Rel] at k3
    rw [k1, k3]
    simp [List.getD, hi]
theorem pdq_why {st : List Bk} {k n lim : Nat} {e : Bk} {wh : Bool} {l : List (List Int)} (he : st[k]? = some e) (ha : e.arr = true) (hf : e.fz = false) (hc : e.cells = l.map intsD) (hn : l.length = n) (hb : n ≤ 1000000) (hpos : 0 < n) (hlim : lim < 4611686018427387904) (hs : Short 1000000 l) :
    Acts Tryz.prog 127 [.osl k 0 n n wh, .val (.int .i64 (0 : Nat)), .val (.int .i64 n), .val (.int .i64 lim), .clo (.func 111) [] []] st [] (.val (.tuple #[])) (st.set k { e with cells := (sortC lcmp l).map intsD }) := by
  have hsl : (sortC lcmp l).length = n := by rw [(sortC_perm l).length_eq, hn]
  refine acts_rowG (margs := [.val (.int .i64 0), .val (.int .i64 n), .val (.int .i64 lim), .clo (.func 111) [] []]) (more := [.int .i64 0, .int .i64 n, .int .i64 lim, .func (.func 111) #[] #[]]) (fun I w β vs h => ?_) he ha hf (by rw [hc, List.length_map, hn]) (by rw [List.length_map, hsl]) hpos ?_
  · simp only [RelT, Rel] at h
    obtain ⟨_, _, rfl, rfl, _, _, rfl, rfl, _, _, rfl, rfl, _, _, rfl, ⟨vs, us, rfl, rfl, rfl⟩, rfl⟩ := h
    rfl
  intro I b c w us hi hno hr hcur hcell hfr hcap
  rw [hc] at hr
  obtain ⟨xs, x1, x2⟩ := pairs2 hr hs
  have hxl : xs.length = n := by rw [← hn, ← x1, List.length_map]
  obtain ⟨x0, hx0⟩ : ∃ x0, xs[0]? = some x0 := ⟨xs[0]'(by omega), List.getElem?_eq_getElem (by omega)⟩
  haveI : Inhabited (El2 I w) := ⟨x0⟩
  have hH : Holds (fun x : El2 I w => x.v) w b 0 xs.toArray := fun j hj => by
    have hj' : j < n := by simpa [hxl] using hj
    refine ⟨?_, hfr j hj'⟩
    rw [hcell j hj', ← x2]
    simp [List.getD, hxl, hj']
  obtain ⟨cur, t, hcur⟩ := hcur
  have hblk : b < w.heap.size := by
    rw [Array.getElem?_eq_some_iff] at hcur
    exact hcur.1
  have hone : OneCell fun x : El2 I w => x.v := fun x => x.one
  have hworld : ∀ (m : Nat) (os : Array Obj) (ys : List (El2 I w)), ys.length = n → sortWorld (fun x : El2 I w => x.v) w b 0 m ys.toArray os = grow ((w.drewN m).setCells b 0 (ys.map (·.v))) os := fun m os ys hy => by
    unfold sortWorld
    rw [putRow_eq_setCells (fun x : El2 I w => x.v) w b 0 xs.toArray ys m hH (by simp [hy, hxl])]
  have hfix : ∀ (m : Nat) (os : Array Obj) (dk : Array (El2 I w)), dk.size = n → Fix I w I (sortWorld (fun x : El2 I w => x.v) w b 0 m dk os) := fun m os dk hd => by
    have e1 := hworld m os dk.toList (by simpa using hd)
    simp only [Array.toArray_toList] at e1
    rw [e1]
    obtain ⟨s1, s2, s3, s4, s5, s6⟩ := setCells_heap b t (dk.toList.map (·.v)) 0 (w.drewN m) cur.toList (by simpa using hcur)
    intro b' o' hb'
    refine ⟨hb', fun v hv => ?_⟩
    have hne : b' ≠ b := fun e => hno o' (e ▸ hb')
    have hlt := hi b' o' hb'
    simp only [World.cell?] at hv ⊢
    rw [grow_heap _ os (by rw [s3]; exact hlt), s2 b' hne]
    exact hv
  have hcmp : CmpLays1 Tryz.prog 111 #[] (fun x : El2 I w => x.v) (fun x y => lcmp x.l y.l) b 0 xs.toArray.size w := by
    intro m os dk hd x y
    have hd' : dk.size = n := by simpa [hxl] using hd
    obtain ⟨p, c1, ex, rx⟩ := row_of_rel (Rel.mono (hfix m os dk hd') noB noB (BeLe.refl _) _ _ x.rel)
    obtain ⟨q, c2, ey, ry⟩ := row_of_rel (Rel.mono (hfix m os dk hd') noB noB (BeLe.refl _) _ _ y.rel)
    have lx := x.len
    have ly := y.len
    have := scompare_walk x.l y.l p q c1 c2 _ rx ry (by omega) (by omega)
    rw [← ex, ← ey] at this
    refine this.mono ?_
    rintro e' w' ⟨rfl, rfl⟩
    exact ⟨rfl, 0, #[], by rw [grow_empty]; rfl⟩
  have hsz : xs.toArray.size = n := by simp [hxl]
  have main := Tryz.pdqsortCmpFunc_all (fun x : El2 I w => x.v) (fun x y => lcmp x.l y.l) 111 #[] swo2 b 0 c xs.toArray w (enters_of Tryz.func111 (by kernel_rfl) rfl) hcmp ⟨hone, hH, hblk⟩ (n + 1) 0 n lim xs.toArray w (by omega) rfl (SW.start hH) (Nat.zero_le _) (by omega) (by omega) hlim (.inl rfl)
  rw [hsz] at main
  refine main.mono ?_
  rintro x w' ⟨rfl, q, os, rfl⟩
  obtain ⟨hp, hso⟩ := pdq_sorts (ltOf fun x y : El2 I w => lcmp x.l y.l) swo2 xs.toArray 0 n lim true true (Nat.zero_le _) (by omega) (.inl rfl)
  generalize pdq (ltOf fun x y : El2 I w => lcmp x.l y.l) xs.toArray 0 n lim true true = d' at *
  have hd' : d'.size = n := by rw [hp.1, hsz]
  have hperm : d'.toList.Perm xs := by
    have := hp.2.2
    rw [show d'.extract 0 n = d' by rw [← hd']; exact Array.extract_size, show xs.toArray.extract 0 n = xs.toArray by rw [← hsz]; exact Array.extract_size] at this
    simpa using this
  have hl2 : d'.toList.map (·.l) = sortC lcmp l := by
    refine sortC_uniq lcmp_cm ?_ ?_
    · rw [← x1]; exact hperm.map _
    · rw [List.pairwise_map]
      rw [List.pairwise_iff_getElem]
      intro i j hi' hj' hij
      have hi2 : i < d'.size := by simpa using hi'
      have hj2 : j < d'.size := by simpa using hj'
      have := hso i j (Nat.zero_le _) hij (by omega)
      rw [getElem!_pos d' j hj2, getElem!_pos d' i hi2] at this
      simpa [ltOf] using this
  refine ⟨rfl, d'.toList.map (·.v), q, os, ?_, ?_⟩
  · have := hworld q os d'.toList (by simpa using hd')
    simp only [Array.toArray_toList] at this
    rw [this]
  · rw [← hl2]; exact rel2 _
end Go.Proofs.YtgbhoceamcomfaaGreat
namespace Go.Proofs.YtgbhoceamcomfaaGreat
open Go.RowKit
attribute [local irreducible] seqW awp thenW nextW blockW Weak updS deadS retL Pure Acts
set_option linter.unusedVariables false
set_option linter.unusedSimpArgs false
set_option maxRecDepth 4096
theorem getD_get {α : Type} {l : List α} {i : Nat} (d : α) (h : i < l.length) : l.getD i d = l[i] := by rw [List.getD_eq_getElem?_getD, List.getElem?_eq_getElem h]; rfl
theorem take_eq_step {α : Type} {a b : List α} {i : Nat} (d : α) (ha : i < a.length) (hb : i < b.length) (h : a.take i = b.take i) (k : a.getD i d = b.getD i d) : a.take (i + 1) = b.take (i + 1) := by
  rw [List.take_succ_eq_append_getElem ha, List.take_succ_eq_append_getElem hb, h, ← getD_get d ha, ← getD_get d hb, k]
set_option maxHeartbeats 1000000 in
theorem sequal_c (a b : List Int) (n m : Nat) (hn : a.length = n) (hm : b.length = m) (ha : n ≤ 1000000) (hb : m ≤ 1000000) : Pure Tryz.prog 70 [.row (a.map intD) n, .row (b.map intD) m] [] (bD (decide (a = b))) := by
  subst hn hm
  refine pure_of_awp Tz_ok mixed Tryz.func70 rfl ?_
  focus
    refine awp_seq (awp_region rfl ?_)
    refine st_end0 [] [] [] (True) [(4, bD false)] (by kernel_rfl) trivial ?_
    refine awp_seq (awp_seq (awp_region rfl ?_))
    refine st_end0 [] [] [6, 7, 8, 9] (True) [(10, bD ((↑(List.length a) : Int) != (↑(List.length b) : Int)))] (by kernel_rfl) trivial ?_
    refine awp_cond (t := (↑(List.length a) : Int) != (↑(List.length b) : Int)) (by kernel_rfl) (fun hc => ?_) (fun hc => ?_)
    simp only [bne_iff_ne] at hc
    refine awp_seq (awp_region rfl ?_)
    refine st_end0 [] [] [10] (True) [] (by kernel_rfl) trivial ?_
    refine awp_ret (then_ret ?_)
    refine ret_run (True) (bD false) (D.val (Value.bool false)) (.inr rfl) (by kernel_rfl) trivial rfl ?_
    rotate_left
    simp only [bne_eq_false_iff_eq] at hc
    refine awp_skip (then_normal (next_same (awp_seq (awp_seq (awp_region rfl ?_)))))
    refine st_end0 [] [] [10, 11] (True) [(12, iD (↑(List.length a) : Int)), (13, iD 0)] (by kernel_rfl) trivial ?_
    refine awp_block ?_
    rotate_left
  · congr 2
    symm
    rw [decide_eq_false_iff_not]
    intro h
    have := congrArg List.length h
    omega
  refine awp_loop1 (fun (i : Nat) => [intsD a, intsD b, U, U, U, U, U, U, U, U, U, U, iD (↑(List.length a) : Int), iD (↑i : Int), U, U, U, U, U, U, U, U, U, U, U, U]) (fun i => []) (fun i => a.length - i) (fun i => i ≤ a.length ∧ a.take i = b.take i) 0 ?_ ?_ ?_
  · exact ⟨by omega, by simp⟩
  · refine weak_run [(0, 1), (1, 1), (12, 1), (13, 1)] (intsD a = intsD a ∧ intsD b = intsD b ∧ iD (↑(List.length a) : Int) = iD (↑(List.length a) : Int) ∧ iD 0 = iD (↑(0 : Nat) : Int)) 0 [] (by kernel_rfl) ⟨rfl, rfl, rfl, (by kernel_rfl)⟩ (by kernel_rfl) (fun _ _ => rfl) (by kernel_rfl)
  rintro i ⟨k1, k2⟩
  focus
    refine awp_seq (awp_region rfl ?_)
    refine st_end0 [] [] [] (True) [(14, bD (decide ((↑i : Int) < (↑(List.length a) : Int))))] (by kernel_rfl) trivial ?_
    refine awp_seq ?_
    refine awp_cond (t := decide ((↑i : Int) < (↑(List.length a) : Int))) (by kernel_rfl) (fun hc => ?_) (fun hc => ?_)
    simp only [decide_eq_true_eq] at hc
    refine awp_skip (then_normal (next_same (awp_seq (awp_block (awp_seq (awp_region rfl ?_))))))
    refine st_end0 [] [] [14, 15] (True) [(5, iD (↑i : Int))] (by kernel_rfl) trivial ?_
    refine awp_seq ?_
    refine awp_drawn [0, 1, 2, 4, 5, 6, 3, 7, 8] (by kernel_rfl) rfl ?_
    refine st_run0 3 [] [] ((0 : Int) ≤ (↑i : Int) ∧ (↑i : Int) < (↑(List.length a) : Int) ∧ List.map intD a ≠ []) [(16, intsD a), (17, iD (↑i : Int)), (18, D.ptr (List.drop (Int.toNat (↑i : Int) * 1) (List.map intD a)))] (by kernel_rfl) ⟨(by omega), ⟨(by omega), (by exact map_ne (by omega))⟩⟩ ?_
    refine st_slot 18 (D.ptr (List.drop (Int.toNat (↑i : Int) * 1) (List.map intD a))) (D.ptr (List.drop i (List.map intD a))) (by kernel_rfl) (by simp (disch := omega) only [Int.toNat_natCast, Nat.mul_one]) (by kernel_rfl) ?_
    refine st_run0 3 [] [] ((0 : Int) ≤ (↑i : Int) ∧ (↑i : Int) < (↑(List.length b) : Int) ∧ List.map intD b ≠ []) [(20, intsD b), (21, iD (↑i : Int)), (22, D.ptr (List.drop (Int.toNat (↑i : Int) * 1) (List.map intD b)))] (by kernel_rfl) ⟨(by omega), ⟨(by omega), (by exact map_ne (by omega))⟩⟩ ?_
    refine st_slot 22 (D.ptr (List.drop (Int.toNat (↑i : Int) * 1) (List.map intD b))) (D.ptr (List.drop i (List.map intD b))) (by kernel_rfl) (by simp (disch := omega) only [Int.toNat_natCast, Nat.mul_one]) (by kernel_rfl) ?_
    refine st_run0 1 [] [] (0 < List.length (List.drop i (List.map intD a))) [(19, List.headD (List.drop i (List.map intD a)) U)] (by kernel_rfl) (by (simp; omega)) ?_
    refine st_slot 19 (List.headD (List.drop i (List.map intD a)) U) (intD (List.getD a i (0 : Int))) (by kernel_rfl) (by simp (disch := omega) only [headD_int]) (by kernel_rfl) ?_
    refine st_run0 1 [] [] (0 < List.length (List.drop i (List.map intD b))) [(23, List.headD (List.drop i (List.map intD b)) U)] (by kernel_rfl) (by (simp; omega)) ?_
    refine st_slot 23 (List.headD (List.drop i (List.map intD b)) U) (intD (List.getD b i (0 : Int))) (by kernel_rfl) (by simp (disch := omega) only [headD_int]) (by kernel_rfl) ?_
    refine st_end0 [] [] [5, 16, 17, 18, 19, 20, 21, 22, 23] (True) [(24, bD (List.getD a i (0 : Int) != List.getD b i (0 : Int)))] (by kernel_rfl) trivial ?_
    refine awp_cond (t := List.getD a i (0 : Int) != List.getD b i (0 : Int)) (by kernel_rfl) (fun hc => ?_) (fun hc => ?_)
    simp only [bne_iff_ne] at hc
    refine awp_seq (awp_region rfl ?_)
    refine st_end0 [] [] [24] (True) [(4, bD false)] (by kernel_rfl) trivial ?_
    refine awp_ret (block_ret (then_ret (then_ret (block_ret (then_ret ?_)))))
    refine ret_run (True) (bD false) (D.val (Value.bool false)) (.inr rfl) (by kernel_rfl) trivial rfl ?_
    rotate_left
    simp only [bne_eq_false_iff_eq] at hc
    refine awp_skip (block_normal (then_normal (next_same (awp_region rfl ?_))))
    refine st_run0 1 [] [] (-9223372036854775808 ≤ (↑i : Int) + (1 : Int) ∧ (↑i : Int) + (1 : Int) ≤ 9223372036854775807) [(25, iD ((↑i : Int) + (1 : Int)))] (by kernel_rfl) (by omega) ?_
    refine st_slot 25 (iD ((↑i : Int) + (1 : Int))) (iD (↑(i + 1) : Int)) (by kernel_rfl) (by simp (disch := omega) only [cast_add1]) (by kernel_rfl) ?_
    refine st_run0 1 [] [] (True) [(13, iD (↑(i + 1) : Int))] (by kernel_rfl) trivial ?_
    refine st_nil ?_ (by kernel_rfl)
    refine then_normal ?_
    rotate_left
    simp only [decide_eq_false_iff_not] at hc
    refine awp_exit (then_exit (then_exit (block_hit rfl (then_normal (next_same (awp_seq (awp_region rfl ?_)))))))
    refine st_end0 [] [] [0, 1, 12, 13, 14] (True) [(4, bD true)] (by kernel_rfl) trivial ?_
    refine awp_ret ?_
    refine ret_run (True) (bD true) (D.val (Value.bool true)) (.inr rfl) (by kernel_rfl) trivial rfl ?_
    rotate_left
  · congr 2
    symm
    rw [decide_eq_false_iff_not]
    rintro rfl
    simp at *
  · refine ⟨i + 1, ⟨by omega, ?_⟩, by omega, ?_⟩
    · exact take_eq_step 0 (by omega) (by omega) k2 (by assumption)
    · refine weak_run [(0, 1), (1, 1), (12, 1), (13, 1)] (intsD a = intsD a ∧ intsD b = intsD b ∧ iD (↑(List.length a) : Int) = iD (↑(List.length a) : Int) ∧ iD (↑(i + 1) : Int) = iD (↑(i + 1) : Int)) 0 [] (by kernel_rfl) ⟨rfl, rfl, rfl, rfl⟩ (by kernel_rfl) (fun _ _ => rfl) (by kernel_rfl)
  · have e : i = a.length := by omega
    subst e
    rw [List.take_length, List.take_of_length_le (by omega)] at k2
    simp [k2]
set_option maxHeartbeats 1000000 in
theorem efunc_c (a b : List (List Int)) (n m : Nat) (hn : a.length = n) (hm : b.length = m) (ha : n ≤ 1000000) (hb : m ≤ 1000000) (h1 : Short 1000000 a) (h2 : Short 1000000 b) : Pure Tryz.prog 86 [.row (a.map intsD) n, .row (b.map intsD) m, .clo (.func 70) [] []] [] (bD (decide (a = b))) := by
  subst hn hm
  refine pure_of_awp Tz_ok mixed Tryz.func86 rfl ?_
  focus
    refine awp_seq (awp_region rfl ?_)
    refine st_end0 [] [] [] (True) [(6, bD false)] (by kernel_rfl) trivial ?_
    refine awp_seq (awp_seq (awp_region rfl ?_))
    refine st_end0 [] [] [10, 11, 12, 13] (True) [(14, bD ((↑(List.length a) : Int) != (↑(List.length b) : Int)))] (by kernel_rfl) trivial ?_
    refine awp_cond (t := (↑(List.length a) : Int) != (↑(List.length b) : Int)) (by kernel_rfl) (fun hc => ?_) (fun hc => ?_)
    simp only [bne_iff_ne] at hc
    refine awp_seq (awp_region rfl ?_)
    refine st_end0 [] [] [14] (True) [] (by kernel_rfl) trivial ?_
    refine awp_ret (then_ret ?_)
    refine ret_run (True) (bD false) (D.val (Value.bool false)) (.inr rfl) (by kernel_rfl) trivial rfl ?_
    rotate_left
    simp only [bne_eq_false_iff_eq] at hc
    refine awp_skip (then_normal (next_same (awp_seq (awp_seq (awp_region rfl ?_)))))
    refine st_end0 [] [] [0, 14] (True) [(15, D.row (List.map intsD a) (List.length a)), (16, iD (↑(List.length a) : Int)), (17, iD 0)] (by kernel_rfl) trivial ?_
    refine awp_block ?_
    rotate_left
  · congr 2
    symm
    rw [decide_eq_false_iff_not]
    intro h
    have := congrArg List.length h
    omega
  refine awp_loop1 (fun (i : Nat) => [U, D.row (List.map intsD b) (List.length b), D.clo (Fn.func (70 : FuncId)) [] [], U, U, U, U, U, U, U, U, U, U, U, U, D.row (List.map intsD a) (List.length a), iD (↑(List.length a) : Int), iD (↑i : Int), U, U, U, U, U, U, U, U, U, U, U, U, U, U]) (fun i => []) (fun i => a.length - i) (fun i => i ≤ a.length ∧ a.take i = b.take i) 0 ?_ ?_ ?_
  · exact ⟨by omega, by simp⟩
  · refine weak_run [(1, 1), (2, 1), (15, 1), (16, 1), (17, 1)] (D.row (List.map intsD b) (List.length b) = D.row (List.map intsD b) (List.length b) ∧ D.clo (Fn.func (70 : FuncId)) [] [] = D.clo (Fn.func (70 : FuncId)) [] [] ∧ D.row (List.map intsD a) (List.length a) = D.row (List.map intsD a) (List.length a) ∧ iD (↑(List.length a) : Int) = iD (↑(List.length a) : Int) ∧ iD 0 = iD (↑(0 : Nat) : Int)) 0 [] (by kernel_rfl) ⟨rfl, rfl, rfl, rfl, (by kernel_rfl)⟩ (by kernel_rfl) (fun _ _ => rfl) (by kernel_rfl)
  rintro i ⟨k1, k2⟩
  have h3 := h1.get i
  have h4 := h2.get i
  focus
    refine awp_seq (awp_region rfl ?_)
    refine st_end0 [] [] [] (True) [(18, bD (decide ((↑i : Int) < (↑(List.length a) : Int))))] (by kernel_rfl) trivial ?_
    refine awp_seq ?_
    refine awp_cond (t := decide ((↑i : Int) < (↑(List.length a) : Int))) (by kernel_rfl) (fun hc => ?_) (fun hc => ?_)
    simp only [decide_eq_true_eq] at hc
    refine awp_skip (then_normal (next_same (awp_seq (awp_block (awp_seq (awp_region rfl ?_))))))
    refine st_run0 2 [] [] ((0 : Int) ≤ (↑i : Int) ∧ (↑i : Int) < (↑(List.length a) : Int) ∧ List.map intsD a ≠ []) [(19, iD (↑i : Int)), (20, D.ptr (List.drop (Int.toNat (↑i : Int) * 1) (List.map intsD a)))] (by kernel_rfl) ⟨(by omega), ⟨(by omega), (by exact map_ne (by omega))⟩⟩ ?_
    refine st_slot 20 (D.ptr (List.drop (Int.toNat (↑i : Int) * 1) (List.map intsD a))) (D.ptr (List.drop i (List.map intsD a))) (by kernel_rfl) (by simp (disch := omega) only [Int.toNat_natCast, Nat.mul_one]) (by kernel_rfl) ?_
    refine st_run0 1 [] [] (0 < List.length (List.drop i (List.map intsD a))) [(21, List.headD (List.drop i (List.map intsD a)) U)] (by kernel_rfl) (by (simp; omega)) ?_
    refine st_slot 21 (List.headD (List.drop i (List.map intsD a)) U) (intsD (List.getD a i [])) (by kernel_rfl) (by simp (disch := omega) only [headD_why]) (by kernel_rfl) ?_
    refine st_end0 [] [] [18, 19, 20, 21] (True) [(7, iD (↑i : Int)), (8, intsD (List.getD a i []))] (by kernel_rfl) trivial ?_
    refine awp_seq (awp_region rfl ?_)
    refine st_run0 3 [] [] ((0 : Int) ≤ (↑i : Int) ∧ (↑i : Int) < (↑(List.length b) : Int) ∧ List.map intsD b ≠ []) [(22, D.row (List.map intsD b) (List.length b)), (23, iD (↑i : Int)), (24, D.ptr (List.drop (Int.toNat (↑i : Int) * 1) (List.map intsD b)))] (by kernel_rfl) ⟨(by omega), ⟨(by omega), (by exact map_ne (by omega))⟩⟩ ?_
    refine st_slot 24 (D.ptr (List.drop (Int.toNat (↑i : Int) * 1) (List.map intsD b))) (D.ptr (List.drop i (List.map intsD b))) (by kernel_rfl) (by simp (disch := omega) only [Int.toNat_natCast, Nat.mul_one]) (by kernel_rfl) ?_
    refine st_run0 1 [] [] (0 < List.length (List.drop i (List.map intsD b))) [(25, List.headD (List.drop i (List.map intsD b)) U)] (by kernel_rfl) (by (simp; omega)) ?_
    refine st_slot 25 (List.headD (List.drop i (List.map intsD b)) U) (intsD (List.getD b i [])) (by kernel_rfl) (by simp (disch := omega) only [headD_why]) (by kernel_rfl) ?_
    refine st_end0 [] [] [7, 22, 23, 24, 25] (True) [(9, intsD (List.getD b i []))] (by kernel_rfl) trivial ?_
    refine awp_seq (awp_region rfl ?_)
    refine st_run0 3 [] [] (True) [(26, D.clo (Fn.func 70) [] []), (27, intsD (List.getD a i [])), (28, intsD (List.getD b i []))] (by kernel_rfl) trivial ?_
    refine st_callr [intsD (List.getD a i []), intsD (List.getD b i [])] (by kernel_rfl) (by exact sequal_c _ _ _ _ rfl rfl (by omega) (by omega)) ?_
    refine st_end0 [] [] [8, 9, 26, 27, 28, 29] (True) [(30, bD !decide (List.getD a i [] = List.getD b i []))] (by kernel_rfl) trivial ?_
    refine awp_cond (t := !decide (List.getD a i [] = List.getD b i [])) (by kernel_rfl) (fun hc => ?_) (fun hc => ?_)
    simp only [Bool.not_eq_true'] at hc
    refine awp_seq (awp_region rfl ?_)
    refine st_end0 [] [] [30] (True) [(6, bD false)] (by kernel_rfl) trivial ?_
    refine awp_ret (block_ret (then_ret (then_ret (block_ret (then_ret ?_)))))
    refine ret_run (True) (bD false) (D.val (Value.bool false)) (.inr rfl) (by kernel_rfl) trivial rfl ?_
    rotate_left
    simp only [Bool.not_eq_false'] at hc
    refine awp_skip (block_normal (then_normal (next_same (awp_region rfl ?_))))
    refine st_run0 1 [] [] (-9223372036854775808 ≤ (↑i : Int) + (1 : Int) ∧ (↑i : Int) + (1 : Int) ≤ 9223372036854775807) [(31, iD ((↑i : Int) + (1 : Int)))] (by kernel_rfl) (by omega) ?_
    refine st_slot 31 (iD ((↑i : Int) + (1 : Int))) (iD (↑(i + 1) : Int)) (by kernel_rfl) (by simp (disch := omega) only [cast_add1]) (by kernel_rfl) ?_
    refine st_run0 1 [] [] (True) [(17, iD (↑(i + 1) : Int))] (by kernel_rfl) trivial ?_
    refine st_nil ?_ (by kernel_rfl)
    refine then_normal ?_
    rotate_left
    simp only [decide_eq_false_iff_not] at hc
    refine awp_exit (then_exit (then_exit (block_hit rfl (then_normal (next_same (awp_seq (awp_region rfl ?_)))))))
    refine st_end0 [] [] [1, 2, 15, 16, 17, 18] (True) [(6, bD true)] (by kernel_rfl) trivial ?_
    refine awp_ret ?_
    refine ret_run (True) (bD true) (D.val (Value.bool true)) (.inr rfl) (by kernel_rfl) trivial rfl ?_
    rotate_left
  · congr 2
    symm
    rw [decide_eq_false_iff_not]
    rintro rfl
    simp at *
  · refine ⟨i + 1, ⟨by omega, ?_⟩, by omega, ?_⟩
    · exact take_eq_step [] (by omega) (by omega) k2 (by simpa using hc)
    · refine weak_run [(1, 1), (2, 1), (15, 1), (16, 1), (17, 1)] (D.row (List.map intsD b) (List.length b) = D.row (List.map intsD b) (List.length b) ∧ D.clo (Fn.func (70 : FuncId)) [] [] = D.clo (Fn.func (70 : FuncId)) [] [] ∧ D.row (List.map intsD a) (List.length a) = D.row (List.map intsD a) (List.length a) ∧ iD (↑(List.length a) : Int) = iD (↑(List.length a) : Int) ∧ iD (↑(i + 1) : Int) = iD (↑(i + 1) : Int)) 0 [] (by kernel_rfl) ⟨rfl, rfl, rfl, rfl, rfl⟩ (by kernel_rfl) (fun _ _ => rfl) (by kernel_rfl)
  · have e : i = a.length := by omega
    subst e
    rw [List.take_length, List.take_of_length_le (by omega)] at k2
    simp [k2]
theorem blen_c (n : Nat) (hn : n < 18446744073709551616) : Pure Tryz.prog 126 [.val (.int .u64 n)] [] (.val (.int .i64 (Lib.bitLen n))) :=
  pure_of_val (us := [.int .u64 n]) (fun w => (Tryz.bits_Len n w (by omega) (by omega)).mono fun e w' h => ⟨by rw [h.1]; simp, h.2.symm⟩)
def Tk : Par := ⟨fun f => f == 127 || f == 145 || f == 108 || f == 109 || f == 110 || f == 112, fun _ _ => none, fun k => k == 0⟩
theorem Tk_ok : MethOk Tryz.prog Tk := by intro t n f h; cases h
theorem keep0 {st : Bk} : ∀ k, k < [st].length → Tk.keep k = true := fun k hk => by
  obtain rfl : k = 0 := by simpa using hk
  rfl
abbrev whyB (l : List (List Int)) : Bk := ⟨l.map intsD, 63, 1, true, false⟩
theorem keepF : ∀ k, 1 ≤ k → Tk.keep k = false := fun k hk => by show (k == 0) = false; simp; omega
set_option maxHeartbeats 1000000 in
theorem insertion0 (l : List (List Int)) (wh : Bool) : Acts Tryz.prog 145 [.osl 0 0 0 0 wh, .val (.int .i64 0), .val (.int .i64 0), .clo (.func 111) [] []] [whyB l] [] (.tup []) [whyB l] := by
  refine acts_of_awp Tk_ok mixed Tryz.func145 rfl keep0 ?_
  focus
    refine awp_seq (awp_region rfl ?_)
    refine st_end0 [] [] [10, 11] (-9223372036854775808 ≤ (0 : Int) + (1 : Int) ∧ (0 : Int) + (1 : Int) ≤ 9223372036854775807) [(8, iD 1)] (by kernel_rfl) (by omega) ?_
    refine awp_block ?_
    rotate_left
  refine awp_loop1 (fun (i : Nat) => [D.osl 0 0 0 0 wh, iD 0, iD 0, D.clo (Fn.func (111 : FuncId)) [] [], U, U, U, U, iD 1, U, U, U, U, U, U, U, U, U, U, U, U, U, U, U, U, U, U, U, U, U, U, U, U, U, U, U, U, U, U, U, U, U, U, U, U, U, U, U, U, U, U, U, U]) (fun (i : Nat) => [whyB l]) (fun (i : Nat) => 0) (fun (i : Nat) => True) 0 ?_ ?_ ?_
  · trivial
  · refine weak_run [(0, 1), (1, 1), (2, 1), (3, 1), (8, 1)] (D.osl 0 0 0 0 wh = D.osl 0 0 0 0 wh ∧ iD 0 = iD 0 ∧ iD 0 = iD 0 ∧ D.clo (Fn.func (111 : FuncId)) [] [] = D.clo (Fn.func (111 : FuncId)) [] [] ∧ iD 1 = iD 1) 1 [] (by kernel_rfl) ⟨rfl, rfl, rfl, rfl, rfl⟩ (by kernel_rfl) ?_ (by kernel_rfl)
    exact keepF
  rintro i -
  focus
    refine awp_seq (awp_seq (awp_region rfl ?_))
    refine st_end0 [] [] [12, 13] (True) [(14, bD false)] (by kernel_rfl) trivial ?_
    refine cond_f (t := false) (by kernel_rfl) rfl ?_
    refine awp_exit (then_exit (then_exit (block_hit rfl ?_)))
    refine ret_list (True) [] (.inl rfl) (by kernel_rfl) trivial ?_
    rotate_left
  exact ⟨rfl, rfl⟩
set_option maxHeartbeats 1000000 in
theorem pdq0 (l : List (List Int)) (wh : Bool) (lim : Int) : Acts Tryz.prog 127 [.osl 0 0 0 0 wh, .val (.int .i64 0), .val (.int .i64 0), .val (.int .i64 lim), .clo (.func 111) [] []] [whyB l] [] (.tup []) [whyB l] := by
  refine acts_of_awp Tk_ok mixed Tryz.func127 rfl keep0 ?_
  focus
    refine awp_seq (awp_region rfl ?_)
    refine st_end0 [] [] [] (True) [(10, bD true)] (by kernel_rfl) trivial ?_
    refine awp_seq (awp_region rfl ?_)
    refine st_end0 [] [] [] (True) [(11, bD true)] (by kernel_rfl) trivial ?_
    refine awp_block ?_
    rotate_left
  refine awp_loop1 (fun (i : Nat) => [D.osl 0 0 0 0 wh, iD 0, iD 0, iD lim, D.clo (Fn.func (111 : FuncId)) [] [], U, U, U, U, U, bD true, bD true, U, U, U, U, U, U, U, U, U, U, U, U, U, U, U, U, U, U, U, U, U, U, U, U, U, U, U, U, U, U, U, U, U, U, U, U, U, U, U, U, U, U, U, U, U, U, U, U, U, U, U, U, U, U, U, U, U, U, U, U, U, U, U, U, U, U, U, U, U, U, U, U, U, U, U, U, U, U, U, U, U, U, U, U, U, U, U, U, U, U, U, U, U, U, U, U, U, U, U, U, U, U, U, U, U, U, U, U, U, U, U, U, U, U, U, U, U, U, U, U, U, U, U, U, U, U, U, U, U, U, U, U, U, U, U, U]) (fun (i : Nat) => [whyB l]) (fun (i : Nat) => 0) (fun (i : Nat) => True) 0 ?_ ?_ ?_
  · trivial
  · refine weak_run [(0, 1), (1, 1), (2, 1), (3, 1), (4, 1), (10, 1), (11, 1)] (D.osl 0 0 0 0 wh = D.osl 0 0 0 0 wh ∧ iD 0 = iD 0 ∧ iD 0 = iD 0 ∧ iD lim = iD lim ∧ D.clo (Fn.func (111 : FuncId)) [] [] = D.clo (Fn.func (111 : FuncId)) [] [] ∧ bD true = bD true ∧ bD true = bD true) 1 [] (by kernel_rfl) ⟨rfl, rfl, rfl, rfl, rfl, rfl, rfl⟩ (by kernel_rfl) ?_ (by kernel_rfl)
    exact keepF
  rintro i -
  focus
    refine awp_block (awp_seq (awp_region rfl ?_))
    refine st_end0 [] [] [21, 22, 23] (-9223372036854775808 ≤ (0 : Int) - (0 : Int) ∧ (0 : Int) - (0 : Int) ≤ 9223372036854775807) [(12, iD 0)] (by kernel_rfl) (by omega) ?_
    refine awp_seq (awp_seq (awp_region rfl ?_))
    refine st_end0 [] [] [24] (True) [(25, bD true)] (by kernel_rfl) trivial ?_
    refine cond_t (t := true) (by kernel_rfl) rfl ?_
    refine awp_seq (awp_region rfl ?_)
    refine st_run0 4 [] [] (True) [(26, D.osl 0 0 0 0 wh), (27, iD 0), (28, iD 0), (29, D.clo (Fn.func 111) [] [])] (by kernel_rfl) trivial ?_
    refine st_act [] [] [D.osl 0 0 0 0 wh, iD 0, iD 0, D.clo (Fn.func 111) [] []] [D.osl 0 0 0 0 wh, iD 0, iD 0, D.clo (Fn.func 111) [] []] (by kernel_rfl) trivial (LeL.refl _) (by exact insertion0 _ _) ?_
    refine st_end0 [] [] [25, 26, 27, 28, 29, 30] (True) [] (by kernel_rfl) trivial ?_
    refine awp_ret (then_ret (block_ret (then_ret (block_ret ?_))))
    refine ret_list (True) [] (.inr rfl) (by kernel_rfl) trivial ?_
    rotate_left
  exact ⟨rfl, rfl⟩
set_option maxHeartbeats 1000000 in
theorem sortfunc_c (l : List (List Int)) (n : Nat) (wh : Bool) (hn : l.length = n) (hb : n ≤ 1000000) (hs : Short 1000000 l) : Acts Tryz.prog 110 [.osl 0 0 n n wh, .clo (.func 111) [] []] [whyB l] [] (.tup []) [whyB (sortC lcmp l)] := by
  subst hn
  have hlim : Lib.bitLen l.length < 4611686018427387904 := Nat.lt_of_le_of_lt (Lib.bitLen_le l.length 62 (by omega) (by omega)) (by omega)
  rcases Nat.eq_zero_or_pos l.length with h0 | hpos
  · obtain rfl : l = [] := List.eq_nil_of_length_eq_zero h0
    refine acts_of_awp Tk_ok mixed Tryz.func110 rfl keep0 ?_
    focus
      refine awp_seq (awp_region rfl ?_)
      refine st_end0 [] [] [5, 6] (True) [(4, iD (↑(0 : Nat) : Int))] (by kernel_rfl) trivial ?_
      refine awp_region rfl ?_
      refine st_run0 4 [] [] ((0 : Int) ≤ (↑(0 : Nat) : Int) ∧ (↑(0 : Nat) : Int) ≤ (18446744073709551615 : Int)) [(7, D.osl 0 0 0 0 wh), (8, iD (↑(0 : Nat) : Int)), (9, iD (↑(0 : Nat) : Int)), (10, D.val (Value.int IntKind.u64 (↑(0 : Nat) : Int)))] (by kernel_rfl) (by omega) ?_
      refine st_callr [D.val (Value.int IntKind.u64 (↑(0 : Nat) : Int))] (by kernel_rfl) (by exact blen_c 0 (by omega)) ?_
      refine st_run0 1 [] [] (True) [(12, D.clo (Fn.func 111) [] [])] (by kernel_rfl) trivial ?_
      refine st_act [] [] [D.osl 0 0 0 0 wh, iD 0, iD (↑(0 : Nat) : Int), iD (↑(0 : Nat) : Int), D.clo (Fn.func 111) [] []] [D.osl 0 0 0 0 wh, iD 0, iD (↑(0 : Nat) : Int), iD (↑(0 : Nat) : Int), D.clo (Fn.func 111) [] []] (by kernel_rfl) trivial (LeL.refl _) (by exact pdq0 [] _ _) ?_
      refine st_nil ?_ (by kernel_rfl)
      refine ret_list (True) [] (.inl rfl) (by kernel_rfl) trivial ?_
      rotate_left
    exact ⟨rfl, by simp [sortC]⟩
  · refine acts_of_awp Tk_ok mixed Tryz.func110 rfl keep0 ?_
    focus
      refine awp_seq (awp_region rfl ?_)
      refine st_end0 [] [] [5, 6] (True) [(4, iD (↑(List.length l) : Int))] (by kernel_rfl) trivial ?_
      refine awp_region rfl ?_
      refine st_run0 4 [] [] ((0 : Int) ≤ (↑(List.length l) : Int) ∧ (↑(List.length l) : Int) ≤ (18446744073709551615 : Int)) [(7, D.osl 0 0 (List.length l) (List.length l) wh), (8, iD (↑(List.length l) : Int)), (9, iD (↑(List.length l) : Int)), (10, D.val (Value.int IntKind.u64 (↑(List.length l) : Int)))] (by kernel_rfl) (by omega) ?_
      refine st_callr [D.val (Value.int IntKind.u64 (↑(List.length l) : Int))] (by kernel_rfl) (by exact blen_c l.length (by omega)) ?_
      refine st_run0 1 [] [] (True) [(12, D.clo (Fn.func 111) [] [])] (by kernel_rfl) trivial ?_
      refine st_act [] [] [D.osl 0 0 (List.length l) (List.length l) wh, iD 0, iD (↑(List.length l) : Int), iD (↑(Lib.bitLen (List.length l)) : Int), D.clo (Fn.func 111) [] []] [D.osl 0 0 (List.length l) (List.length l) wh, iD 0, iD (↑(List.length l) : Int), iD (↑(Lib.bitLen (List.length l)) : Int), D.clo (Fn.func 111) [] []] (by kernel_rfl) trivial (LeL.refl _) (by exact pdq_why (k := 0) rfl rfl rfl rfl rfl (by omega) hpos hlim hs) ?_
      refine st_nil ?_ (by kernel_rfl)
      refine ret_list (True) [] (.inl rfl) (by kernel_rfl) trivial ?_
      rotate_left
    exact ⟨rfl, rfl⟩
theorem dedG_snoc {α : Type} [DecidableEq α] (x d : α) : ∀ (l : List α) (p : α), dedG p (l ++ [x]) = if x = (p :: l).getD l.length d then dedG p l else dedG p l ++ [x]
  | [], p => by simp [dedG]
  | y :: l, p => by
    simp only [List.cons_append, dedG, List.length_cons, List.getD_cons_succ]
    have h1 := dedG_snoc x d l p
    have h2 := dedG_snoc x d l y
    have e : (p :: l).getD l.length d = if l = [] then p else (y :: l).getD l.length d := by
      cases l with
      | nil => simp
      | cons z l => simp
    split
    · rename_i hy
      subst hy
      rw [h1]
    · rw [h2]
      split <;> simp
theorem dd_step {α : Type} [DecidableEq α] {w : List α} {k : Nat} (d : α) (h1 : 1 ≤ k) (h2 : k < w.length) : ddG (w.take (k + 1)) = if w.getD k d = w.getD (k - 1) d then ddG (w.take k) else ddG (w.take k) ++ [w.getD k d] := by
  cases w with
  | nil => simp at h2
  | cons p l =>
    obtain ⟨j, rfl⟩ : ∃ j, k = j + 1 := ⟨k - 1, by omega⟩
    simp only [List.length_cons] at h2
    have hj : j < l.length := by omega
    have e : l.getD j d = l[j] := getD_get d hj
    rw [List.take_succ_cons, List.take_succ_eq_append_getElem hj]
    simp only [ddG, List.take_succ_cons, List.getD_cons_succ, Nat.add_sub_cancel]
    rw [← e, dedG_snoc (l.getD j d) d (l.take j) p]
    have e2 : (p :: l.take j).getD (l.take j).length d = (p :: l).getD j d := by
      rw [List.length_take, Nat.min_eq_left (by omega)]
      simp only [List.getD_eq_getElem?_getD]
      congr 1
      cases j with
      | zero => rfl
      | succ j => simp [List.getElem?_take]
    rw [e2]
    split <;> simp
abbrev nilD : D := .val (.slice none 0 0)
theorem repL_one (n : Nat) (z : D) : repL n [z] = List.replicate n z := by
  induction n with
  | zero => rfl
  | succ n ih => simp only [repL, List.replicate_succ, List.flatten_cons, List.cons_append, List.nil_append] at ih ⊢; rw [ih]
theorem clear_tail {cur : List (List Int)} {n k : Nat} (hn : cur.length = n) (hk : k ≤ n) : setAt (cur.map intsD) k (repL (n - k) [nilD]) = (cur.take k).map intsD ++ List.replicate (n - k) nilD := by
  rw [repL_one]
  have e : cur.map intsD = (cur.take k).map intsD ++ (cur.drop k).map intsD := by rw [← List.map_append, List.take_append_drop]
  rw [e]
  have hl : ((cur.take k).map intsD).length = k := by rw [List.length_map, List.length_take]; omega
  have := setAt_all ((cur.drop k).map intsD) (List.replicate (n - k) nilD) ((cur.take k).map intsD) (by rw [List.length_map, List.length_drop, List.length_replicate]; omega)
  rwa [hl] at this
theorem why_at (cur : List (List Int)) (k : Nat) (h : k < cur.length) : ((cur.map intsD).drop k).headD .unk = intsD (cur.getD k []) := headD_map intsD cur [] k h
theorem take_set_succ {α : Type} {l : List α} {k : Nat} (x : α) (h : k < l.length) : (l.set k x).take (k + 1) = l.take k ++ [x] := by
  rw [List.take_succ_eq_append_getElem (by simpa using h)]
  rw [List.take_set, List.set_eq_of_length_le (by rw [List.length_take]; omega)]
  simp
theorem getD_set_ne {α : Type} {l : List α} {k t : Nat} (x d : α) (h : k ≠ t) : (l.set k x).getD t d = l.getD t d := by
  simp only [List.getD_eq_getElem?_getD]; rw [List.getElem?_set_ne h]
abbrev padB (l : List (List Int)) (n : Nat) : Bk := ⟨l.map intsD ++ List.replicate (n - l.length) nilD, 63, 1, true, false⟩
set_option maxHeartbeats 2000000 in
theorem compactfunc_c (w : List (List Int)) (n : Nat) (wh : Bool) (hn : w.length = n) (hb : n ≤ 1000000) (hs : Short 1000000 w) : Acts Tryz.prog 112 [.osl 0 0 n n wh, .clo (.func 70) [] []] [whyB w] [] (.osl 0 0 (ddG w).length (ddG w).length wh) [padB (ddG w) n] := by
  subst hn
  refine acts_of_awp Tk_ok mixed Tryz.func112 rfl keep0 ?_
  focus
    refine awp_seq (awp_region rfl ?_)
    refine st_end0 [] [] [] (True) [(4, nl)] (by kernel_rfl) trivial ?_
    refine awp_seq (awp_seq (awp_region rfl ?_))
    refine st_end0 [] [] [8, 9] (True) [(10, bD (decide ((↑(List.length w) : Int) < (2 : Int))))] (by kernel_rfl) trivial ?_
    refine awp_cond (t := decide ((↑(List.length w) : Int) < (2 : Int))) (by kernel_rfl) (fun hc => ?_) (fun hc => ?_)
    simp only [decide_eq_true_eq] at hc
    refine awp_seq (awp_region rfl ?_)
    refine st_end0 [] [] [10, 11] (True) [(4, D.osl 0 0 (List.length w) (List.length w) wh)] (by kernel_rfl) trivial ?_
    refine awp_ret (then_ret ?_)
    refine ret_list (True) [D.osl 0 0 (List.length w) (List.length w) wh] (.inr rfl) (by kernel_rfl) trivial ?_
    rotate_left
    simp only [decide_eq_false_iff_not] at hc
    refine awp_skip (then_normal (next_same (awp_seq (awp_seq (awp_region rfl ?_)))))
    refine st_end0 [] [] [10] (True) [(5, iD 1)] (by kernel_rfl) trivial ?_
    refine awp_block ?_
    rotate_left
  · have e : ddG w = w := by
      match w with
      | [] => rfl
      | [x] => rfl
      | x :: y :: l => simp at hc; omega
    refine ⟨by simp [oneD, e], by simp [e]⟩
  have h1 : ddG (w.take 1) = w.take 1 := by
    match w with
    | [] => rfl
    | x :: l => rfl
  refine awp_loop1 (fun (k : Nat) => [D.osl 0 0 (List.length w) (List.length w) wh, D.clo (Fn.func (70 : FuncId)) [] [], U, U, U, iD (↑k : Int), U, U, U, U, U, U, U, U, U, U, U, U, U, U, U, U, U, U, U, U, U, U, U, U, U, U, U, U, U, U, U, U, U, U, U, U, U, U, U, U, U, U, U, U, U, U, U, U, U, U, U, U, U, U, U, U, U, U, U, U]) (fun k => [whyB w]) (fun k => w.length - k) (fun k => 1 ≤ k ∧ k ≤ w.length ∧ ddG (w.take k) = w.take k) 1 ?_ ?_ ?_
  · exact ⟨by omega, by omega, h1⟩
  · refine weak_run [(0, 1), (1, 1), (5, 1)] (D.osl 0 0 (List.length w) (List.length w) wh = D.osl 0 0 (List.length w) (List.length w) wh ∧ D.clo (Fn.func (70 : FuncId)) [] [] = D.clo (Fn.func (70 : FuncId)) [] [] ∧ iD 1 = iD (↑(1 : Nat) : Int)) 1 [] (by kernel_rfl) ⟨rfl, rfl, (by kernel_rfl)⟩ (by kernel_rfl) ?_ (by kernel_rfl)
    exact keepF
  rintro k ⟨k1, k2, k3⟩
  have s1 := hs.get k
  have s2 := hs.get (k - 1)
  focus
    refine awp_seq (awp_seq (awp_region rfl ?_))
    refine st_end0 [] [] [12, 13, 14] (True) [(15, bD (decide ((↑k : Int) < (↑(List.length w) : Int))))] (by kernel_rfl) trivial ?_
    refine awp_cond (t := decide ((↑k : Int) < (↑(List.length w) : Int))) (by kernel_rfl) (fun hc => ?_) (fun hc => ?_)
    simp only [decide_eq_true_eq] at hc
    refine awp_skip (then_normal (next_same (awp_seq (awp_block (awp_seq ?_)))))
    refine awp_drawn [0, 1, 2, 3, 5, 6, 7, 8, 4, 9, 10] (by kernel_rfl) rfl ?_
    refine st_run0 4 [] [] ((0 : Int) ≤ (↑k : Int) ∧ (↑k : Int) < (↑(List.length w) : Int)) [(18, D.clo (Fn.func 70) [] []), (19, D.osl 0 0 (List.length w) (List.length w) wh), (20, iD (↑k : Int)), (21, D.own 0 (0 + Int.toNat (↑k : Int) * 1))] (by kernel_rfl) (by omega) ?_
    refine st_slot 21 (D.own 0 (0 + Int.toNat (↑k : Int) * 1)) (D.own 0 k) (by kernel_rfl) (by simp (disch := omega) only [Int.toNat_natCast, Nat.mul_one, Nat.zero_add]) (by kernel_rfl) ?_
    refine st_run0 3 [] [] (-9223372036854775808 ≤ (↑k : Int) - (1 : Int) ∧ (↑k : Int) - (1 : Int) ≤ 9223372036854775807) [(23, D.osl 0 0 (List.length w) (List.length w) wh), (24, iD (↑k : Int)), (25, iD ((↑k : Int) - (1 : Int)))] (by kernel_rfl) (by omega) ?_
    refine st_slot 25 (iD ((↑k : Int) - (1 : Int))) (iD (↑(k - 1) : Int)) (by kernel_rfl) (by simp (disch := omega) only [cast_pred]) (by kernel_rfl) ?_
    refine st_run0 1 [] [] ((0 : Int) ≤ (↑(k - 1) : Int) ∧ (↑(k - 1) : Int) < (↑(List.length w) : Int)) [(26, D.own 0 (0 + Int.toNat (↑(k - 1) : Int) * 1))] (by kernel_rfl) (by omega) ?_
    refine st_slot 26 (D.own 0 (0 + Int.toNat (↑(k - 1) : Int) * 1)) (D.own 0 (k - 1)) (by kernel_rfl) (by simp (disch := omega) only [Int.toNat_natCast, Nat.mul_one, Nat.zero_add]) (by kernel_rfl) ?_
    refine st_run0 1 [] [] (0 < List.length (List.drop k (Bk.cells (whyB w)))) [(22, List.headD (List.drop k (Bk.cells (whyB w))) U)] (by kernel_rfl) (by (simp; omega)) ?_
    refine st_slot 22 (List.headD (List.drop k (Bk.cells (whyB w))) U) (intsD (List.getD w k [])) (by kernel_rfl) (by simp (disch := omega) only [why_at]) (by kernel_rfl) ?_
    refine st_run0 1 [] [] (0 < List.length (List.drop (k - 1) (Bk.cells (whyB w)))) [(27, List.headD (List.drop (k - 1) (Bk.cells (whyB w))) U)] (by kernel_rfl) (by (simp; omega)) ?_
    refine st_slot 27 (List.headD (List.drop (k - 1) (Bk.cells (whyB w))) U) (intsD (List.getD w (k - 1) [])) (by kernel_rfl) (by simp (disch := omega) only [why_at]) (by kernel_rfl) ?_
    refine st_callr [intsD (List.getD w k []), intsD (List.getD w (k - 1) [])] (by kernel_rfl) (by exact sequal_c _ _ _ _ rfl rfl (by omega) (by omega)) ?_
    refine st_end0 [] [] [15, 18, 19, 20, 21, 22, 23, 24, 25, 26, 27] (True) [] (by kernel_rfl) trivial ?_
    refine awp_cond (t := decide (List.getD w k [] = List.getD w (k - 1) [])) (by kernel_rfl) (fun hc => ?_) (fun hc => ?_)
    simp only [decide_eq_true_eq] at hc
    refine awp_seq (awp_region rfl ?_)
    refine st_run0 3 [] [] ((0 : Int) ≤ (↑k : Int) ∧ True ∧ True ∧ 0 < 1 ∧ Int.toNat (↑k : Int) ≤ List.length w ∧ List.length w ≤ List.length w ∧ List.length w = List.length w) [(29, D.osl 0 0 (List.length w) (List.length w) wh), (30, iD (↑k : Int)), (31, D.osl 0 (0 + Int.toNat (↑k : Int) * 1) (List.length w - Int.toNat (↑k : Int)) ((List.length w - Int.toNat (↑k : Int)) * 1) (wh && Option.isNone (Option.map (evD [D.osl 0 0 (List.length w) (List.length w) wh, D.clo (Fn.func 70) [] [], U, U, U, iD (↑k : Int), U, U, U, U, U, U, U, U, U, U, U, U, U, U, U, U, U, U, U, U, U, U, bD (decide (List.getD w k [] = List.getD w (k - 1) [])), D.osl 0 0 (List.length w) (List.length w) wh, iD (↑k : Int), U, U, U, U, U, U, U, U, U, U, U, U, U, U, U, U, U, U, U, U, U, U, U, U, U, U, U, U, U, U, U, U, U, U, U]) none) && Option.isNone (Option.map (evD [D.osl 0 0 (List.length w) (List.length w) wh, D.clo (Fn.func 70) [] [], U, U, U, iD (↑k : Int), U, U, U, U, U, U, U, U, U, U, U, U, U, U, U, U, U, U, U, U, U, U, bD (decide (List.getD w k [] = List.getD w (k - 1) [])), D.osl 0 0 (List.length w) (List.length w) wh, iD (↑k : Int), U, U, U, U, U, U, U, U, U, U, U, U, U, U, U, U, U, U, U, U, U, U, U, U, U, U, U, U, U, U, U, U, U, U, U]) (some (Operand.tmp 30)))))] (by kernel_rfl) ⟨(by omega), ⟨trivial, ⟨trivial, (by omega)⟩⟩⟩ ?_
    refine st_slot 31 (D.osl 0 (0 + Int.toNat (↑k : Int) * 1) (List.length w - Int.toNat (↑k : Int)) ((List.length w - Int.toNat (↑k : Int)) * 1) (wh && Option.isNone (Option.map (evD [D.osl 0 0 (List.length w) (List.length w) wh, D.clo (Fn.func 70) [] [], U, U, U, iD (↑k : Int), U, U, U, U, U, U, U, U, U, U, U, U, U, U, U, U, U, U, U, U, U, U, bD (decide (List.getD w k [] = List.getD w (k - 1) [])), D.osl 0 0 (List.length w) (List.length w) wh, iD (↑k : Int), U, U, U, U, U, U, U, U, U, U, U, U, U, U, U, U, U, U, U, U, U, U, U, U, U, U, U, U, U, U, U, U, U, U, U]) none) && Option.isNone (Option.map (evD [D.osl 0 0 (List.length w) (List.length w) wh, D.clo (Fn.func 70) [] [], U, U, U, iD (↑k : Int), U, U, U, U, U, U, U, U, U, U, U, U, U, U, U, U, U, U, U, U, U, U, bD (decide (List.getD w k [] = List.getD w (k - 1) [])), D.osl 0 0 (List.length w) (List.length w) wh, iD (↑k : Int), U, U, U, U, U, U, U, U, U, U, U, U, U, U, U, U, U, U, U, U, U, U, U, U, U, U, U, U, U, U, U, U, U, U, U]) (some (Operand.tmp 30))))) (D.osl 0 k (List.length w - k) (List.length w - k) false) (by kernel_rfl) (by simp (disch := omega) only [Int.toNat_natCast, Nat.mul_one, Nat.zero_add, Option.map_none, Option.isNone_none, Bool.and_true, Option.map_some, Option.isNone_some, Bool.and_false]) (by kernel_rfl) ?_
    refine st_end0 [] [] [28, 29, 30, 31] (True) [(6, D.osl 0 k (List.length w - k) (List.length w - k) false)] (by kernel_rfl) trivial ?_
    refine awp_seq (awp_seq (awp_region rfl ?_))
    refine st_end0 [] [] [] (True) [(7, iD 1)] (by kernel_rfl) trivial ?_
    refine awp_block ?_
    rotate_left
    simp only [decide_eq_false_iff_not] at hc
    refine awp_skip (block_normal (then_normal (next_same (awp_region rfl ?_))))
    refine st_run0 2 [] [] (-9223372036854775808 ≤ (↑k : Int) + (1 : Int) ∧ (↑k : Int) + (1 : Int) ≤ 9223372036854775807) [(16, iD (↑k : Int)), (17, iD ((↑k : Int) + (1 : Int)))] (by kernel_rfl) (by omega) ?_
    refine st_slot 17 (iD ((↑k : Int) + (1 : Int))) (iD (↑(k + 1) : Int)) (by kernel_rfl) (by simp (disch := omega) only [cast_add1]) (by kernel_rfl) ?_
    refine st_run0 1 [] [] (True) [(5, iD (↑(k + 1) : Int))] (by kernel_rfl) trivial ?_
    refine st_nil ?_ (by kernel_rfl)
    refine then_normal ?_
    rotate_left
    simp only [decide_eq_false_iff_not] at hc
    refine awp_exit (then_exit (then_exit (block_hit rfl (then_normal (next_same (awp_seq (awp_region rfl ?_)))))))
    refine st_end0 [] [] [0, 1, 5, 15, 65] (True) [(4, D.osl 0 0 (List.length w) (List.length w) wh)] (by kernel_rfl) trivial ?_
    refine awp_ret ?_
    refine ret_list (True) [D.osl 0 0 (List.length w) (List.length w) wh] (.inr rfl) (by kernel_rfl) trivial ?_
    rotate_left
  · have d0 : ddG (w.take (k + 1)) = w.take k := by rw [dd_step [] k1 (by omega), if_pos (by simpa using hc), k3]
    refine awp_loop3 (fun (j q : Nat) (cur : List (List Int)) => [D.osl 0 0 (List.length w) (List.length w) wh, D.clo (Fn.func (70 : FuncId)) [] [], U, U, U, iD (↑q : Int), D.osl 0 k (List.length w - k) (List.length w - k) false, iD (↑j : Int), U, U, U, U, U, U, U, U, U, U, U, U, U, U, U, U, U, U, U, U, U, U, U, U, U, U, U, U, U, U, U, U, U, U, U, U, U, U, U, U, U, U, U, U, U, U, U, U, U, U, U, U, U, U, U, U, U, U]) (fun j q cur => [whyB cur]) (fun j q cur => w.length - k - j) (fun j q cur => 1 ≤ j ∧ k + j ≤ w.length ∧ 1 ≤ q ∧ q ≤ k + j - 1 ∧ cur.length = w.length ∧ cur.take q = ddG (w.take (k + j)) ∧ ∀ t, k + j - 1 ≤ t → cur.getD t [] = w.getD t []) 1 k w ?_ ?_ ?_
    · exact ⟨by omega, by omega, by omega, by omega, rfl, d0.symm, fun _ _ => rfl⟩
    · refine weak_run [(0, 1), (1, 1), (5, 1), (6, 1), (7, 1)] (D.osl 0 0 (List.length w) (List.length w) wh = D.osl 0 0 (List.length w) (List.length w) wh ∧ D.clo (Fn.func (70 : FuncId)) [] [] = D.clo (Fn.func (70 : FuncId)) [] [] ∧ iD (↑k : Int) = iD (↑k : Int) ∧ D.osl 0 k (List.length w - k) (List.length w - k) false = D.osl 0 k (List.length w - k) (List.length w - k) false ∧ iD 1 = iD (↑(1 : Nat) : Int)) 1 [] (by kernel_rfl) ⟨rfl, rfl, rfl, rfl, (by kernel_rfl)⟩ (by kernel_rfl) ?_ (by kernel_rfl)
      exact keepF
    rintro j q cur ⟨j1, j2, j3, j4, j5, j6, j7⟩
    have s3 := hs.get (k + j)
    have s4 := hs.get (k + (j - 1))
    have s5 := j7 (k + j) (by omega)
    have s6 := j7 (k + (j - 1)) (by omega)
    rw [← s5] at s3
    rw [← s6] at s4
    focus
      refine awp_seq (awp_seq (awp_region rfl ?_))
      refine st_end0 [] [] [32, 33, 34] (True) [(35, bD (decide ((↑j : Int) < (↑(List.length w - k) : Int))))] (by kernel_rfl) trivial ?_
      refine awp_cond (t := decide ((↑j : Int) < (↑(List.length w - k) : Int))) (by kernel_rfl) (fun hc => ?_) (fun hc => ?_)
      simp only [decide_eq_true_eq] at hc
      refine awp_skip (then_normal (next_same (awp_seq (awp_block (awp_seq ?_)))))
      refine awp_drawn [0, 1, 2, 3, 5, 6, 7, 8, 4, 9, 10, 11] (by kernel_rfl) rfl ?_
      refine st_run0 4 [] [] ((0 : Int) ≤ (↑j : Int) ∧ (↑j : Int) < (↑(List.length w - k) : Int)) [(38, D.clo (Fn.func 70) [] []), (39, D.osl 0 k (List.length w - k) (List.length w - k) false), (40, iD (↑j : Int)), (41, D.own 0 (k + Int.toNat (↑j : Int) * 1))] (by kernel_rfl) (by omega) ?_
      refine st_slot 41 (D.own 0 (k + Int.toNat (↑j : Int) * 1)) (D.own 0 (k + j)) (by kernel_rfl) (by simp (disch := omega) only [Int.toNat_natCast, Nat.mul_one]) (by kernel_rfl) ?_
      refine st_run0 3 [] [] (-9223372036854775808 ≤ (↑j : Int) - (1 : Int) ∧ (↑j : Int) - (1 : Int) ≤ 9223372036854775807) [(43, D.osl 0 k (List.length w - k) (List.length w - k) false), (44, iD (↑j : Int)), (45, iD ((↑j : Int) - (1 : Int)))] (by kernel_rfl) (by omega) ?_
      refine st_slot 45 (iD ((↑j : Int) - (1 : Int))) (iD (↑(j - 1) : Int)) (by kernel_rfl) (by simp (disch := omega) only [cast_pred]) (by kernel_rfl) ?_
      refine st_run0 1 [] [] ((0 : Int) ≤ (↑(j - 1) : Int) ∧ (↑(j - 1) : Int) < (↑(List.length w - k) : Int)) [(46, D.own 0 (k + Int.toNat (↑(j - 1) : Int) * 1))] (by kernel_rfl) (by omega) ?_
      refine st_slot 46 (D.own 0 (k + Int.toNat (↑(j - 1) : Int) * 1)) (D.own 0 (k + (j - 1))) (by kernel_rfl) (by simp (disch := omega) only [Int.toNat_natCast, Nat.mul_one]) (by kernel_rfl) ?_
      refine st_run0 1 [] [] (0 < List.length (List.drop (k + j) (Bk.cells (whyB cur)))) [(42, List.headD (List.drop (k + j) (Bk.cells (whyB cur))) U)] (by kernel_rfl) (by (simp; omega)) ?_
      refine st_slot 42 (List.headD (List.drop (k + j) (Bk.cells (whyB cur))) U) (intsD (List.getD cur (k + j) [])) (by kernel_rfl) (by simp (disch := omega) only [why_at]) (by kernel_rfl) ?_
      refine st_run0 1 [] [] (0 < List.length (List.drop (k + (j - 1)) (Bk.cells (whyB cur)))) [(47, List.headD (List.drop (k + (j - 1)) (Bk.cells (whyB cur))) U)] (by kernel_rfl) (by (simp; omega)) ?_
      refine st_slot 47 (List.headD (List.drop (k + (j - 1)) (Bk.cells (whyB cur))) U) (intsD (List.getD cur (k + (j - 1)) [])) (by kernel_rfl) (by simp (disch := omega) only [why_at]) (by kernel_rfl) ?_
      refine st_callr [intsD (List.getD cur (k + j) []), intsD (List.getD cur (k + (j - 1)) [])] (by kernel_rfl) (by exact sequal_c _ _ _ _ rfl rfl (by omega) (by omega)) ?_
      refine st_end0 [] [] [35, 38, 39, 40, 41, 42, 43, 44, 45, 46, 47, 48] (True) [(49, bD !decide (List.getD cur (k + j) [] = List.getD cur (k + (j - 1)) []))] (by kernel_rfl) trivial ?_
      refine awp_cond (t := !decide (List.getD cur (k + j) [] = List.getD cur (k + (j - 1)) [])) (by kernel_rfl) (fun hc => ?_) (fun hc => ?_)
      simp only [Bool.not_eq_true'] at hc
      refine awp_seq (awp_region rfl ?_)
      refine st_run0 5 [] [] ((0 : Int) ≤ (↑j : Int) ∧ (↑j : Int) < (↑(List.length w - k) : Int)) [(50, D.osl 0 0 (List.length w) (List.length w) wh), (51, iD (↑q : Int)), (52, D.osl 0 k (List.length w - k) (List.length w - k) false), (53, iD (↑j : Int)), (54, D.own 0 (k + Int.toNat (↑j : Int) * 1))] (by kernel_rfl) (by omega) ?_
      refine st_slot 54 (D.own 0 (k + Int.toNat (↑j : Int) * 1)) (D.own 0 (k + j)) (by kernel_rfl) (by simp (disch := omega) only [Int.toNat_natCast, Nat.mul_one]) (by kernel_rfl) ?_
      refine st_run0 1 [] [] (0 < List.length (List.drop (k + j) (Bk.cells (whyB cur)))) [(55, List.headD (List.drop (k + j) (Bk.cells (whyB cur))) U)] (by kernel_rfl) (by (simp; omega)) ?_
      refine st_slot 55 (List.headD (List.drop (k + j) (Bk.cells (whyB cur))) U) (intsD (List.getD cur (k + j) [])) (by kernel_rfl) (by simp (disch := omega) only [why_at]) (by kernel_rfl) ?_
      refine st_run0 1 [] [] ((0 : Int) ≤ (↑q : Int) ∧ (↑q : Int) < (↑(List.length w) : Int)) [(56, D.own 0 (0 + Int.toNat (↑q : Int) * 1))] (by kernel_rfl) (by omega) ?_
      refine st_slot 56 (D.own 0 (0 + Int.toNat (↑q : Int) * 1)) (D.own 0 q) (by kernel_rfl) (by simp (disch := omega) only [Int.toNat_natCast, Nat.mul_one, Nat.zero_add]) (by kernel_rfl) ?_
      refine st_run 1 [] [] (Bk.fz (whyB cur) = false ∧ true = true ∧ 1 = 1 ∧ q + 1 ≤ List.length (Bk.cells (whyB cur)) ∧ ¬0 ∈ []) [] [Bk.mk (setAt (Bk.cells (whyB cur)) q (cellsOf (intsD (List.getD cur (k + j) [])))) (Bk.ty (whyB cur)) (Bk.sz (whyB cur)) (Bk.arr (whyB cur)) (Bk.fz (whyB cur))] (by kernel_rfl) ⟨(by kernel_rfl), ⟨(by kernel_rfl), ⟨(by kernel_rfl), ⟨(by (simp; omega)), (by decide)⟩⟩⟩⟩ ?_
      refine st_blk 0 (Bk.mk (setAt (Bk.cells (whyB cur)) q (cellsOf (intsD (List.getD cur (k + j) [])))) (Bk.ty (whyB cur)) (Bk.sz (whyB cur)) (Bk.arr (whyB cur)) (Bk.fz (whyB cur))) (Bk.mk (List.set (List.map intsD cur) q (intsD (List.getD cur (k + j) []))) (63 : TypeId) 1 true false) (by kernel_rfl) (by simp (disch := omega) only [cellsOf, setAt]) ?_
      refine st_end0 [] [] [49, 50, 51, 52, 53, 54, 55, 56] (True) [] (by kernel_rfl) trivial ?_
      refine awp_region rfl ?_
      refine st_run0 2 [] [] (-9223372036854775808 ≤ (↑q : Int) + (1 : Int) ∧ (↑q : Int) + (1 : Int) ≤ 9223372036854775807) [(57, iD (↑q : Int)), (58, iD ((↑q : Int) + (1 : Int)))] (by kernel_rfl) (by omega) ?_
      refine st_slot 58 (iD ((↑q : Int) + (1 : Int))) (iD (↑(q + 1) : Int)) (by kernel_rfl) (by simp (disch := omega) only [cast_add1]) (by kernel_rfl) ?_
      refine st_run0 1 [] [] (True) [(5, iD (↑(q + 1) : Int))] (by kernel_rfl) trivial ?_
      refine st_nil ?_ (by kernel_rfl)
      refine block_normal (then_normal (next_same (awp_region rfl ?_)))
      refine st_run0 2 [] [] (-9223372036854775808 ≤ (↑j : Int) + (1 : Int) ∧ (↑j : Int) + (1 : Int) ≤ 9223372036854775807) [(36, iD (↑j : Int)), (37, iD ((↑j : Int) + (1 : Int)))] (by kernel_rfl) (by omega) ?_
      refine st_slot 37 (iD ((↑j : Int) + (1 : Int))) (iD (↑(j + 1) : Int)) (by kernel_rfl) (by simp (disch := omega) only [cast_add1]) (by kernel_rfl) ?_
      refine st_run0 1 [] [] (True) [(7, iD (↑(j + 1) : Int))] (by kernel_rfl) trivial ?_
      refine st_nil ?_ (by kernel_rfl)
      refine then_normal ?_
      rotate_left
      simp only [Bool.not_eq_false'] at hc
      refine awp_skip (block_normal (then_normal (next_same (awp_region rfl ?_))))
      refine st_run0 2 [] [] (-9223372036854775808 ≤ (↑j : Int) + (1 : Int) ∧ (↑j : Int) + (1 : Int) ≤ 9223372036854775807) [(36, iD (↑j : Int)), (37, iD ((↑j : Int) + (1 : Int)))] (by kernel_rfl) (by omega) ?_
      refine st_slot 37 (iD ((↑j : Int) + (1 : Int))) (iD (↑(j + 1) : Int)) (by kernel_rfl) (by simp (disch := omega) only [cast_add1]) (by kernel_rfl) ?_
      refine st_run0 1 [] [] (True) [(7, iD (↑(j + 1) : Int))] (by kernel_rfl) trivial ?_
      refine st_nil ?_ (by kernel_rfl)
      refine then_normal ?_
      rotate_left
      simp only [decide_eq_false_iff_not] at hc
      refine awp_exit (then_exit (then_exit (block_hit rfl (then_normal (next_same (awp_seq (awp_region rfl ?_)))))))
      refine st_run0 3 [] [] ((0 : Int) ≤ (↑q : Int) ∧ True ∧ True ∧ 0 < 1 ∧ Int.toNat (↑q : Int) ≤ List.length w ∧ List.length w ≤ List.length w ∧ List.length w = List.length w) [(59, D.osl 0 0 (List.length w) (List.length w) wh), (60, iD (↑q : Int)), (61, D.osl 0 (0 + Int.toNat (↑q : Int) * 1) (List.length w - Int.toNat (↑q : Int)) ((List.length w - Int.toNat (↑q : Int)) * 1) (wh && Option.isNone (Option.map (evD [D.osl 0 0 (List.length w) (List.length w) wh, D.clo (Fn.func 70) [] [], U, U, U, iD (↑q : Int), D.osl 0 k (List.length w - k) (List.length w - k) false, iD (↑j : Int), U, U, U, U, U, U, U, U, U, U, U, U, U, U, U, U, U, U, U, U, U, U, U, U, U, U, U, bD (decide ((↑j : Int) < (↑(List.length w - k) : Int))), U, U, U, U, U, U, U, U, U, U, U, U, U, U, U, U, U, U, U, U, U, U, U, D.osl 0 0 (List.length w) (List.length w) wh, iD (↑q : Int), U, U, U, U, U]) none) && Option.isNone (Option.map (evD [D.osl 0 0 (List.length w) (List.length w) wh, D.clo (Fn.func 70) [] [], U, U, U, iD (↑q : Int), D.osl 0 k (List.length w - k) (List.length w - k) false, iD (↑j : Int), U, U, U, U, U, U, U, U, U, U, U, U, U, U, U, U, U, U, U, U, U, U, U, U, U, U, U, bD (decide ((↑j : Int) < (↑(List.length w - k) : Int))), U, U, U, U, U, U, U, U, U, U, U, U, U, U, U, U, U, U, U, U, U, U, U, D.osl 0 0 (List.length w) (List.length w) wh, iD (↑q : Int), U, U, U, U, U]) (some (Operand.tmp 60)))))] (by kernel_rfl) ⟨(by omega), ⟨trivial, ⟨trivial, (by omega)⟩⟩⟩ ?_
      refine st_slot 61 (D.osl 0 (0 + Int.toNat (↑q : Int) * 1) (List.length w - Int.toNat (↑q : Int)) ((List.length w - Int.toNat (↑q : Int)) * 1) (wh && Option.isNone (Option.map (evD [D.osl 0 0 (List.length w) (List.length w) wh, D.clo (Fn.func 70) [] [], U, U, U, iD (↑q : Int), D.osl 0 k (List.length w - k) (List.length w - k) false, iD (↑j : Int), U, U, U, U, U, U, U, U, U, U, U, U, U, U, U, U, U, U, U, U, U, U, U, U, U, U, U, bD (decide ((↑j : Int) < (↑(List.length w - k) : Int))), U, U, U, U, U, U, U, U, U, U, U, U, U, U, U, U, U, U, U, U, U, U, U, D.osl 0 0 (List.length w) (List.length w) wh, iD (↑q : Int), U, U, U, U, U]) none) && Option.isNone (Option.map (evD [D.osl 0 0 (List.length w) (List.length w) wh, D.clo (Fn.func 70) [] [], U, U, U, iD (↑q : Int), D.osl 0 k (List.length w - k) (List.length w - k) false, iD (↑j : Int), U, U, U, U, U, U, U, U, U, U, U, U, U, U, U, U, U, U, U, U, U, U, U, U, U, U, U, bD (decide ((↑j : Int) < (↑(List.length w - k) : Int))), U, U, U, U, U, U, U, U, U, U, U, U, U, U, U, U, U, U, U, U, U, U, U, D.osl 0 0 (List.length w) (List.length w) wh, iD (↑q : Int), U, U, U, U, U]) (some (Operand.tmp 60))))) (D.osl 0 q (List.length w - q) (List.length w - q) false) (by kernel_rfl) (by simp (disch := omega) only [Int.toNat_natCast, Nat.mul_one, Nat.zero_add, Option.map_none, Option.isNone_none, Bool.and_true, Option.map_some, Option.isNone_some, Bool.and_false]) (by kernel_rfl) ?_
      refine st_end [] [] [6, 7, 35, 59, 60, 61] (Bk.fz (whyB cur) = false ∧ 0 < 1 ∧ q + (List.length w - q) * 1 ≤ List.length (Bk.cells (whyB cur))) [] [Bk.mk (setAt (List.map intsD cur) q (repL (List.length w - q) [nl])) (63 : TypeId) 1 true false] (by kernel_rfl) ⟨(by kernel_rfl), ⟨(by omega), (by (simp; omega))⟩⟩ ?_
      refine awp_seq (awp_region rfl ?_)
      refine st_run0 3 [] [] (True ∧ (0 : Int) ≤ (↑q : Int) ∧ True ∧ 0 < 1 ∧ 0 ≤ Int.toNat (↑q : Int) ∧ Int.toNat (↑q : Int) ≤ List.length w ∧ Int.toNat (↑q : Int) = Int.toNat (↑q : Int)) [(62, D.osl 0 0 (List.length w) (List.length w) wh), (63, iD (↑q : Int)), (64, D.osl 0 0 (Int.toNat (↑q : Int) - 0) ((Int.toNat (↑q : Int) - 0) * 1) (wh && Option.isNone (Option.map (evD [D.osl 0 0 (List.length w) (List.length w) wh, D.clo (Fn.func 70) [] [], U, U, U, iD (↑q : Int), U, U, U, U, U, U, U, U, U, U, U, U, U, U, U, U, U, U, U, U, U, U, U, U, U, U, U, U, U, U, U, U, U, U, U, U, U, U, U, U, U, U, U, U, U, U, U, U, U, U, U, U, U, U, U, U, D.osl 0 0 (List.length w) (List.length w) wh, iD (↑q : Int), U, U]) none) && Option.isNone (Option.map (evD [D.osl 0 0 (List.length w) (List.length w) wh, D.clo (Fn.func 70) [] [], U, U, U, iD (↑q : Int), U, U, U, U, U, U, U, U, U, U, U, U, U, U, U, U, U, U, U, U, U, U, U, U, U, U, U, U, U, U, U, U, U, U, U, U, U, U, U, U, U, U, U, U, U, U, U, U, U, U, U, U, U, U, U, U, D.osl 0 0 (List.length w) (List.length w) wh, iD (↑q : Int), U, U]) none)))] (by kernel_rfl) ⟨trivial, ⟨(by omega), ⟨trivial, (by omega)⟩⟩⟩ ?_
      refine st_slot 64 (D.osl 0 0 (Int.toNat (↑q : Int) - 0) ((Int.toNat (↑q : Int) - 0) * 1) (wh && Option.isNone (Option.map (evD [D.osl 0 0 (List.length w) (List.length w) wh, D.clo (Fn.func 70) [] [], U, U, U, iD (↑q : Int), U, U, U, U, U, U, U, U, U, U, U, U, U, U, U, U, U, U, U, U, U, U, U, U, U, U, U, U, U, U, U, U, U, U, U, U, U, U, U, U, U, U, U, U, U, U, U, U, U, U, U, U, U, U, U, U, D.osl 0 0 (List.length w) (List.length w) wh, iD (↑q : Int), U, U]) none) && Option.isNone (Option.map (evD [D.osl 0 0 (List.length w) (List.length w) wh, D.clo (Fn.func 70) [] [], U, U, U, iD (↑q : Int), U, U, U, U, U, U, U, U, U, U, U, U, U, U, U, U, U, U, U, U, U, U, U, U, U, U, U, U, U, U, U, U, U, U, U, U, U, U, U, U, U, U, U, U, U, U, U, U, U, U, U, U, U, U, U, U, D.osl 0 0 (List.length w) (List.length w) wh, iD (↑q : Int), U, U]) none))) (D.osl 0 0 q q wh) (by kernel_rfl) (by simp (disch := omega) only [Int.toNat_natCast, Nat.sub_zero, Nat.mul_one, Option.map_none, Option.isNone_none, Bool.and_true]) (by kernel_rfl) ?_
      refine st_end0 [] [] [62, 63, 64] (True) [(4, D.osl 0 0 q q wh)] (by kernel_rfl) trivial ?_
      refine awp_ret (block_ret (then_ret (then_ret (block_ret (then_ret ?_)))))
      refine ret_list (True) [D.osl 0 0 q q wh] (.inr rfl) (by kernel_rfl) trivial ?_
      rotate_left
    · refine ⟨j + 1, q + 1, cur.set q (cur.getD (k + j) []), ⟨by omega, by omega, by omega, by omega, by simpa using j5, ?_, ?_⟩, by omega, ?_⟩
      · rw [take_set_succ _ (by omega), j6, show k + (j + 1) = k + j + 1 by omega, dd_step [] (by omega) (by omega), if_neg, s5]
        rw [← s5, show k + j - 1 = k + (j - 1) by omega, ← s6]
        simpa using hc
      · intro t ht
        rw [getD_set_ne _ _ (by omega)]
        exact j7 t (by omega)
      · refine weak_run [(0, 1), (1, 1), (5, 1), (6, 1), (7, 1)] (D.osl 0 0 (List.length w) (List.length w) wh = D.osl 0 0 (List.length w) (List.length w) wh ∧ D.clo (Fn.func (70 : FuncId)) [] [] = D.clo (Fn.func (70 : FuncId)) [] [] ∧ iD (↑(q + 1) : Int) = iD (↑(q + 1) : Int) ∧ D.osl 0 k (List.length w - k) (List.length w - k) false = D.osl 0 k (List.length w - k) (List.length w - k) false ∧ iD (↑(j + 1) : Int) = iD (↑(j + 1) : Int)) 1 [] (by kernel_rfl) ⟨rfl, rfl, rfl, rfl, rfl⟩ (by kernel_rfl) ?_ (by simp [])
        exact keepF
    · refine ⟨j + 1, q, cur, ⟨by omega, by omega, by omega, by omega, j5, ?_, fun t ht => j7 t (by omega)⟩, by omega, ?_⟩
      · rw [j6, show k + (j + 1) = k + j + 1 by omega, dd_step [] (by omega) (by omega), if_pos]
        rw [← s5, show k + j - 1 = k + (j - 1) by omega, ← s6]
        simpa using hc
      · refine weak_run [(0, 1), (1, 1), (5, 1), (6, 1), (7, 1)] (D.osl 0 0 (List.length w) (List.length w) wh = D.osl 0 0 (List.length w) (List.length w) wh ∧ D.clo (Fn.func (70 : FuncId)) [] [] = D.clo (Fn.func (70 : FuncId)) [] [] ∧ iD (↑q : Int) = iD (↑q : Int) ∧ D.osl 0 k (List.length w - k) (List.length w - k) false = D.osl 0 k (List.length w - k) (List.length w - k) false ∧ iD (↑(j + 1) : Int) = iD (↑(j + 1) : Int)) 1 [] (by kernel_rfl) ⟨rfl, rfl, rfl, rfl, rfl⟩ (by kernel_rfl) ?_ (by kernel_rfl)
        exact keepF
    · have e : k + j = w.length := by omega
      rw [e, List.take_length] at j6
      have hq : (ddG w).length = q := by rw [← j6, List.length_take]; omega
      rw [← j6] at hq ⊢
      refine ⟨?_, ?_⟩
      · show D.osl 0 0 q q wh = _
        rw [hq]
      · rw [clear_tail j5 (by omega)]
        simp only [padB, hq]
  · refine ⟨k + 1, ⟨by omega, by omega, ?_⟩, by omega, ?_⟩
    · rw [dd_step [] k1 (by omega), if_neg (by simpa using hc), k3, List.take_succ_eq_append_getElem (by omega), getD_get [] (by omega)]
    · refine weak_run [(0, 1), (1, 1), (5, 1)] (D.osl 0 0 (List.length w) (List.length w) wh = D.osl 0 0 (List.length w) (List.length w) wh ∧ D.clo (Fn.func (70 : FuncId)) [] [] = D.clo (Fn.func (70 : FuncId)) [] [] ∧ iD (↑(k + 1) : Int) = iD (↑(k + 1) : Int)) 1 [] (by kernel_rfl) ⟨rfl, rfl, rfl⟩ (by kernel_rfl) ?_ (by kernel_rfl)
      exact keepF
  · obtain rfl : k = w.length := by omega
    rw [List.take_length] at k3
    refine ⟨by simp [oneD, k3], by simp [k3]⟩
end Go.Proofs.YtgbhoceamcomfaaGreat
namespace Go.Proofs.YtgbhoceamcomfaaGreat
open Go.RowKit
attribute [local irreducible] seqW awp thenW nextW blockW Weak updS deadS retL Pure Acts
set_option linter.unusedVariables false
set_option linter.unusedSimpArgs false
set_option maxRecDepth 4096
theorem compact2 {st : List Bk} {k n : Nat} {e : Bk} {wh : Bool} {zs : List Int} (he : st[k]? = some e) (ha : e.arr = true) (hf : e.fz = false) (hc : e.cells = zs.map intD) (hn : zs.length = n) (hb : n ≤ 1000000) :
    Acts Tryz.prog 109 [.osl k 0 n n wh] st [] (.osl k 0 (ddG zs).length (ddG zs).length wh) (st.set k { e with cells := (ddG zs).map intD ++ List.replicate (n - (ddG zs).length) (intD 0) }) := by
  have h := compact_acts (wh := wh) he ha hf (zs := zs) (by rw [hc, ints_vals]) hn hb
  rw [compact_dd] at h
  have e1 : (vI (ddG zs ++ List.replicate (n - (ddG zs).length) 0)).map D.val = (ddG zs).map intD ++ List.replicate (n - (ddG zs).length) (intD 0) := by simp [List.map_append]
  rwa [e1] at h
def Tn : Par := ⟨Tk.imp, fun _ _ => none, fun _ => false⟩
theorem Tn_ok : MethOk Tryz.prog Tn := by intro t n f h; cases h
theorem take_pad {α : Type} (f : α → D) (l : List α) (r : List D) : List.take l.length (l.map f ++ r) = l.map f := by
  rw [List.take_append_of_le_length (by simp), List.take_of_length_le (by simp)]
def nrm (w : List (List Int)) (i : Nat) : List D := ((w.take i).map (setG icmp)).map intsD ++ List.replicate (w.length - i) nilD
theorem nrm_set {w : List (List Int)} {i n : Nat} (h : i < w.length) (hn : n = (setG icmp (w.getD i [])).length) : (nrm w i).set i (.row ((setG icmp (w.getD i [])).map intD) n) = nrm w (i + 1) := by
  subst hn
  have e : (((w.take i).map (setG icmp)).map intsD).length = i := by rw [List.length_map, List.length_map, List.length_take]; omega
  obtain ⟨m, hm⟩ : ∃ m, w.length - i = m + 1 := ⟨w.length - i - 1, by omega⟩
  rw [nrm, nrm, hm, show w.length - (i + 1) = m by omega, List.replicate_succ]
  have key : ∀ (a : List D) (x y : D) (r : List D), a.length = i → (a ++ x :: r).set i y = a ++ [y] ++ r := by
    intro a x y r ha
    subst ha; simp
  rw [key _ _ _ _ e, List.take_succ_eq_append_getElem h, getD_get [] h, List.map_append, List.map_append]
  rfl
theorem nrm_len (w : List (List Int)) (i : Nat) (h : i ≤ w.length) : (nrm w i).length = w.length := by
  rw [nrm, List.length_append, List.length_map, List.length_map, List.length_take, List.length_replicate]; omega
theorem sortC_len {α : Type} {c : α → α → Int} (l : List α) : (sortC c l).length = l.length := (sortC_perm l).length_eq
theorem dd_sort_i (l : List Int) : ddG (sortC icmp l) = setG icmp l := ddG_sort icmp_cm l
theorem dd_sort_w (l : List (List Int)) : ddG (sortC lcmp l) = setG lcmp l := ddG_sort lcmp_cm l
theorem sort_i (l : List Int) (k n : Nat) (wh : Bool) (st : List Bk) (hs : st[k]? = some ⟨l.map intD, 3, 1, true, false⟩) (hn : l.length = n) (hb : n ≤ 1000000) : Acts Tryz.prog 108 [.osl k 0 n n wh] st [] (.val (.tuple #[])) (st.set k ⟨(sortC icmp l).map intD, 3, 1, true, false⟩) := sort_ints hs rfl rfl rfl hn hb
theorem compact_i (l : List Int) (k n : Nat) (wh : Bool) (st : List Bk) (hs : st[k]? = some ⟨(sortC icmp l).map intD, 3, 1, true, false⟩) (hn : l.length = n) (hb : n ≤ 1000000) : Acts Tryz.prog 109 [.osl k 0 n n wh] st [] (.osl k 0 (setG icmp l).length (setG icmp l).length wh) (st.set k ⟨(setG icmp l).map intD ++ List.replicate (n - (setG icmp l).length) (intD 0), 3, 1, true, false⟩) := by
  have := compact2 (wh := wh) hs rfl rfl rfl (by rw [sortC_len]; exact hn) hb
  rw [dd_sort_i] at this
  exact this
theorem sort_w (w : List (List Int)) (i n : Nat) (wh : Bool) (hi : w.length ≤ i) (hn : w.length = n) (hb : n ≤ 1000000) (hs : Short 1000000 w) : Acts Tryz.prog 110 [.osl 0 0 n n wh, .clo (.func 111) [] []] [⟨nrm w i, 63, 1, true, false⟩] [] (.tup []) [whyB (sortC lcmp (w.map (setG icmp)))] := by
  have e : nrm w i = (w.map (setG icmp)).map intsD := by
    rw [nrm, List.take_of_length_le hi, show w.length - i = 0 by omega]; simp
  rw [e]
  exact sortfunc_c _ n wh (by simpa using hn) hb (short_set hs)
theorem cmpf_w (w : List (List Int)) (n : Nat) (wh : Bool) (hn : w.length = n) (hb : n ≤ 1000000) (hs : Short 1000000 w) : Acts Tryz.prog 112 [.osl 0 0 n n wh, .clo (.func 70) [] []] [whyB (sortC lcmp (w.map (setG icmp)))] [] (.osl 0 0 (wset w).length (wset w).length wh) [padB (wset w) n] := by
  have := compactfunc_c (sortC lcmp (w.map (setG icmp))) n wh (by rw [sortC_len]; simpa using hn) hb (fun s h => short_set hs s ((sortC_perm _).mem_iff.1 h))
  rw [dd_sort_w] at this
  exact this
set_option maxHeartbeats 1000000 in
theorem normwhy_c (w : List (List Int)) (n : Nat) (hn : w.length = n) (hb : n ≤ 100000) (hs : Short 100000 w) : Pure Tryz.prog 83 [.row (w.map intsD) n] [] (whyD (wset w)) := by
  subst hn
  have hs2 : Short 1000000 w := fun s h => by have := hs s h; omega
  have r0 : repL w.length [nilD] = nrm w 0 := by rw [repL_one, nrm]; simp
  refine pure_of_awp Tn_ok mixed Tryz.func83 rfl ?_
  focus
    refine awp_seq (awp_region rfl ?_)
    refine st_end0 [] [] [] (True) [(2, nl)] (by kernel_rfl) trivial ?_
    refine awp_seq (awp_region rfl ?_)
    refine st_run 3 [] [] ((0 : Int) ≤ (↑(List.length w) : Int) ∧ (↑(List.length w) : Int) ≤ (↑(List.length w) : Int) ∧ (↑(24 : Nat) : Int) * (↑(List.length w) : Int) ≤ (281474976710656 : Int) ∧ (↑(List.length w) : Int) ≤ (281474976710656 : Int) ∧ 0 < 1 ∧ 1 = 1) [(6, D.row (List.map intsD w) (List.length w)), (7, iD (↑(List.length w) : Int)), (8, D.osl 0 0 (Int.toNat (↑(List.length w) : Int)) (Int.toNat (↑(List.length w) : Int) * 1) true)] [Bk.mk (repL (Int.toNat (↑(List.length w) : Int)) [nl]) 63 1 true false] (by kernel_rfl) (by omega) ?_
    refine st_blk 0 (Bk.mk (repL (Int.toNat (↑(List.length w) : Int)) [nl]) 63 1 true false) (Bk.mk (nrm w 0) 63 1 true false) (by kernel_rfl) (by simp (disch := omega) only [Int.toNat_natCast, r0]) ?_
    refine st_run0 1 [] [] (True) [(3, D.osl 0 0 (Int.toNat (↑(List.length w) : Int)) (Int.toNat (↑(List.length w) : Int) * 1) true)] (by kernel_rfl) trivial ?_
    refine st_slot 3 (D.osl 0 0 (Int.toNat (↑(List.length w) : Int)) (Int.toNat (↑(List.length w) : Int) * 1) true) (D.osl 0 0 (List.length w) (List.length w) true) (by kernel_rfl) (by simp (disch := omega) only [Int.toNat_natCast, Nat.mul_one]) (by kernel_rfl) ?_
    refine st_end0 [] [] [6, 7, 8] (True) [] (by kernel_rfl) trivial ?_
    refine awp_seq (awp_seq (awp_region rfl ?_))
    refine st_end0 [] [] [9] (True) [(10, iD (↑(List.length w) : Int)), (11, iD 0)] (by kernel_rfl) trivial ?_
    refine awp_block ?_
    rotate_left
  refine awp_loop1 (fun (i : Nat) => [D.row (List.map intsD w) (List.length w), U, nl, D.osl 0 0 (List.length w) (List.length w) true, U, U, U, U, U, U, iD (↑(List.length w) : Int), iD (↑i : Int), U, U, U, U, U, U, U, U, U, U, U, U, U, U, U, U, U, U, U]) (fun i => [⟨nrm w i, 63, 1, true, false⟩]) (fun i => w.length - i) (fun i => i ≤ w.length) 0 ?_ ?_ ?_
  · omega
  · refine weak_run [(0, 1), (2, 1), (3, 1), (10, 1), (11, 1)] (D.row (List.map intsD w) (List.length w) = D.row (List.map intsD w) (List.length w) ∧ nl = nl ∧ D.osl 0 0 (List.length w) (List.length w) true = D.osl 0 0 (List.length w) (List.length w) true ∧ iD (↑(List.length w) : Int) = iD (↑(List.length w) : Int) ∧ iD 0 = iD (↑(0 : Nat) : Int)) 1 [] (by kernel_rfl) ⟨rfl, rfl, rfl, rfl, (by kernel_rfl)⟩ (by kernel_rfl) (fun _ _ => rfl) (by kernel_rfl)
  rintro i h1
  have s1 := hs.get i
  have s2 := set_len' (w.getD i [])
  focus
    refine awp_seq (awp_region rfl ?_)
    refine st_end0 [] [] [] (True) [(12, bD (decide ((↑i : Int) < (↑(List.length w) : Int))))] (by kernel_rfl) trivial ?_
    refine awp_seq ?_
    refine awp_cond (t := decide ((↑i : Int) < (↑(List.length w) : Int))) (by kernel_rfl) (fun hc => ?_) (fun hc => ?_)
    simp only [decide_eq_true_eq] at hc
    refine awp_skip (then_normal (next_same (awp_seq (awp_block (awp_seq (awp_region rfl ?_))))))
    refine st_end0 [] [] [12, 13] (True) [(4, iD (↑i : Int))] (by kernel_rfl) trivial ?_
    refine awp_seq (awp_region rfl ?_)
    refine st_run0 3 [] [] ((0 : Int) ≤ (↑i : Int) ∧ (↑i : Int) < (↑(List.length w) : Int) ∧ List.map intsD w ≠ []) [(14, D.row (List.map intsD w) (List.length w)), (15, iD (↑i : Int)), (16, D.ptr (List.drop (Int.toNat (↑i : Int) * 1) (List.map intsD w)))] (by kernel_rfl) ⟨(by omega), ⟨(by omega), (by exact map_ne (by omega))⟩⟩ ?_
    refine st_slot 16 (D.ptr (List.drop (Int.toNat (↑i : Int) * 1) (List.map intsD w))) (D.ptr (List.drop i (List.map intsD w))) (by kernel_rfl) (by simp (disch := omega) only [Int.toNat_natCast, Nat.mul_one]) (by kernel_rfl) ?_
    refine st_run0 1 [] [] (0 < List.length (List.drop i (List.map intsD w))) [(17, List.headD (List.drop i (List.map intsD w)) U)] (by kernel_rfl) (by (simp; omega)) ?_
    refine st_slot 17 (List.headD (List.drop i (List.map intsD w)) U) (intsD (List.getD w i [])) (by kernel_rfl) (by simp (disch := omega) only [headD_why]) (by kernel_rfl) ?_
    refine st_callN [] [] [intsD (List.getD w i [])] [Bk.mk (nrm w i) (63 : TypeId) 1 true false] [intsD (List.getD w i [])] (by kernel_rfl) trivial (LeL.refl _) (by exact cloneO_ints ((w.getD i []).map intD) _ (by simp) (by omega)) ?_
    refine st_run0 1 [] [] (True) [(5, D.osl 1 0 (List.length (List.getD w i [])) (List.length (List.getD w i []) * 1) true)] (by kernel_rfl) trivial ?_
    refine st_slot 5 (D.osl 1 0 (List.length (List.getD w i [])) (List.length (List.getD w i []) * 1) true) (D.osl 1 0 (List.length (List.getD w i [])) (List.length (List.getD w i [])) true) (by kernel_rfl) (by simp (disch := omega) only [Nat.mul_one]) (by kernel_rfl) ?_
    refine st_end0 [] [] [14, 15, 16, 17, 18] (True) [] (by kernel_rfl) trivial ?_
    refine awp_seq (awp_region rfl ?_)
    refine st_run0 1 [] [] (True) [(19, D.osl 1 0 (List.length (List.getD w i [])) (List.length (List.getD w i [])) true)] (by kernel_rfl) trivial ?_
    refine st_act [] [] [D.osl 1 0 (List.length (List.getD w i [])) (List.length (List.getD w i [])) true] [D.osl 1 0 (List.length (List.getD w i [])) (List.length (List.getD w i [])) true] (by kernel_rfl) trivial (LeL.refl _) (by exact sort_i _ 1 _ _ _ rfl rfl (by omega)) ?_
    refine st_end0 [] [] [19, 20] (True) [] (by kernel_rfl) trivial ?_
    refine awp_region rfl ?_
    refine st_run0 3 [] [] (True) [(21, D.osl 0 0 (List.length w) (List.length w) true), (22, iD (↑i : Int)), (23, D.osl 1 0 (List.length (List.getD w i [])) (List.length (List.getD w i [])) true)] (by kernel_rfl) trivial ?_
    refine st_act [] [] [D.osl 1 0 (List.length (List.getD w i [])) (List.length (List.getD w i [])) true] [D.osl 1 0 (List.length (List.getD w i [])) (List.length (List.getD w i [])) true] (by kernel_rfl) trivial (LeL.refl _) (by exact compact_i _ 1 _ _ _ rfl rfl (by omega)) ?_
    refine st_run0 1 [] [] ((0 : Int) ≤ (↑i : Int) ∧ (↑i : Int) < (↑(List.length w) : Int)) [(25, D.own 0 (0 + Int.toNat (↑i : Int) * 1))] (by kernel_rfl) (by omega) ?_
    refine st_slot 25 (D.own 0 (0 + Int.toNat (↑i : Int) * 1)) (D.own 0 i) (by kernel_rfl) (by simp (disch := omega) only [Int.toNat_natCast, Nat.mul_one, Nat.zero_add]) (by kernel_rfl) ?_
    refine st_run 1 [] [] (false = false ∧ true = true ∧ 1 = 1 ∧ i + 1 ≤ List.length (nrm w i) ∧ ¬0 ∈ [1]) [] [Bk.mk (setAt (nrm w i) i (cellsOf (D.row (List.take (List.length (setG icmp (List.getD w i []))) (List.drop 0 (List.map intD (setG icmp (List.getD w i [])) ++ List.replicate (List.length (List.getD w i []) - List.length (setG icmp (List.getD w i []))) (iD 0)))) (List.length (setG icmp (List.getD w i [])))))) 63 1 true false, Bk.mk (List.map intD (setG icmp (List.getD w i [])) ++ List.replicate (List.length (List.getD w i []) - List.length (setG icmp (List.getD w i []))) (iD 0)) 3 1 true true] (by kernel_rfl) ⟨(by kernel_rfl), ⟨(by kernel_rfl), ⟨(by kernel_rfl), ⟨(by (show i + 1 ≤ (nrm w i).length; rw [nrm_len w i h1]; omega)), (by decide)⟩⟩⟩⟩ ?_
    refine st_blk 0 (Bk.mk (setAt (nrm w i) i (cellsOf (D.row (List.take (List.length (setG icmp (List.getD w i []))) (List.drop 0 (List.map intD (setG icmp (List.getD w i [])) ++ List.replicate (List.length (List.getD w i []) - List.length (setG icmp (List.getD w i []))) (iD 0)))) (List.length (setG icmp (List.getD w i [])))))) 63 1 true false) (Bk.mk (List.set (nrm w i) i (intsD (setG icmp (List.getD w i [])))) 63 1 true false) (by kernel_rfl) (by simp (disch := omega) only [cellsOf, List.drop_zero, take_pad, setAt]) ?_
    refine st_nil ?_ (by kernel_rfl)
    refine block_normal (then_normal (next_same (awp_region rfl ?_)))
    refine st_run0 1 [] [] (-9223372036854775808 ≤ (↑i : Int) + (1 : Int) ∧ (↑i : Int) + (1 : Int) ≤ 9223372036854775807) [(26, iD ((↑i : Int) + (1 : Int)))] (by kernel_rfl) (by omega) ?_
    refine st_slot 26 (iD ((↑i : Int) + (1 : Int))) (iD (↑(i + 1) : Int)) (by kernel_rfl) (by simp (disch := omega) only [cast_add1]) (by kernel_rfl) ?_
    refine st_run0 1 [] [] (True) [(11, iD (↑(i + 1) : Int))] (by kernel_rfl) trivial ?_
    refine st_nil ?_ (by kernel_rfl)
    refine then_normal ?_
    rotate_left
    simp only [decide_eq_false_iff_not] at hc
    refine awp_exit (then_exit (then_exit (block_hit rfl (then_normal (next_same (awp_seq (awp_region rfl ?_)))))))
    refine st_run0 1 [] [] (True) [(27, D.osl 0 0 (List.length w) (List.length w) true)] (by kernel_rfl) trivial ?_
    refine st_act [] [] [D.osl 0 0 (List.length w) (List.length w) true, D.clo (Fn.func 111) [] []] [D.osl 0 0 (List.length w) (List.length w) true, D.clo (Fn.func 111) [] []] (by kernel_rfl) trivial (LeL.refl _) (by exact sort_w w i _ _ (by omega) rfl (by omega) hs2) ?_
    refine st_end0 [] [] [0, 10, 11, 12, 27, 28] (True) [] (by kernel_rfl) trivial ?_
    refine awp_seq (awp_region rfl ?_)
    refine st_run0 1 [] [] (True) [(29, D.osl 0 0 (List.length w) (List.length w) true)] (by kernel_rfl) trivial ?_
    refine st_act [] [] [D.osl 0 0 (List.length w) (List.length w) true, D.clo (Fn.func 70) [] []] [D.osl 0 0 (List.length w) (List.length w) true, D.clo (Fn.func 70) [] []] (by kernel_rfl) trivial (LeL.refl _) (by exact cmpf_w w _ _ rfl (by omega) hs2) ?_
    refine st_end0 [] [] [3, 29, 30] (True) [(2, D.osl 0 0 (List.length (wset w)) (List.length (wset w)) true)] (by kernel_rfl) trivial ?_
    refine awp_ret ?_
    refine ret_run (True) (D.row (List.take (List.length (wset w)) (List.drop 0 (List.map intsD (wset w) ++ List.replicate (List.length w - List.length (wset w)) nilD))) (List.length (wset w))) (D.row (List.map intsD (wset w)) (List.length (wset w))) (.inr rfl) (by kernel_rfl) trivial (by simp (disch := omega) only [List.drop_zero, take_pad]) rfl
  · refine ⟨i + 1, by omega, by omega, ?_⟩
    rw [nrm_set (by omega) rfl]
    refine weak_run [(0, 1), (2, 1), (3, 1), (10, 1), (11, 1)] (D.row (List.map intsD w) (List.length w) = D.row (List.map intsD w) (List.length w) ∧ nl = nl ∧ D.osl 0 0 (List.length w) (List.length w) true = D.osl 0 0 (List.length w) (List.length w) true ∧ iD (↑(List.length w) : Int) = iD (↑(List.length w) : Int) ∧ iD (↑(i + 1) : Int) = iD (↑(i + 1) : Int)) 1 [] (by kernel_rfl) ⟨rfl, rfl, rfl, rfl, rfl⟩ (by kernel_rfl) (fun _ _ => rfl) (by kernel_rfl)
theorem rowD_why (a : List (List Int)) : rowD (a.map intsD) = whyD a := by rw [rowD, whyD, List.length_map]
theorem rowD_ints (a : List Int) : rowD (a.map intD) = intsD a := by rw [rowD, intsD, List.length_map]
theorem concat_why2 (a b : List (List Int)) (ha : a.length ≤ 10000) (hb : b.length ≤ 10000) : Pure Tryz.prog 84 [.row [whyD a, whyD b] 2] [] (whyD (a ++ b)) := by
  have := concat_why [a.map intsD, b.map intsD] 2 rfl (by simp; omega) (by omega)
  simp only [List.map_cons, List.map_nil, List.flatten_cons, List.flatten_nil, List.append_nil, ← List.map_append] at this
  rwa [rowD_why, rowD_why, rowD_why] at this
theorem concat_ints2 (a b : List Int) (ha : a.length ≤ 10000) (hb : b.length ≤ 10000) : Pure Tryz.prog 85 [.row [intsD a, intsD b] 2] [] (intsD (a ++ b)) := by
  have := concat_ints [a.map intD, b.map intD] 2 rfl (by simp; omega) (by omega)
  simp only [List.map_cons, List.map_nil, List.flatten_cons, List.flatten_nil, List.append_nil, ← List.map_append] at this
  rwa [rowD_ints, rowD_ints, rowD_ints] at this
set_option maxHeartbeats 1000000 in
theorem padd_c (a b : List (List Int)) (n m : Nat) (hn : a.length = n) (hm : b.length = m) (ha : n ≤ 1000) (hb : m ≤ 1000) (h1 : Short 10000 a) (h2 : Short 10000 b) : Pure Tryz.prog 21 [.agg [], .row (a.map intsD) n, .row (b.map intsD) m] [] (whyD (wset (a ++ b))) := by
  subst hn hm
  have h3 : Short 100000 (a ++ b) := fun s h => by have := short_app h1 h2 s h; omega
  refine pure_of_awp Tn_ok mixed Tryz.func21 rfl ?_
  focus
    refine awp_seq (awp_region rfl ?_)
    refine st_end [] [] [0, 3] (True) [(6, nl)] [Bk.mk [] 53 0 false false] (by kernel_rfl) trivial ?_
    refine awp_seq (awp_region rfl ?_)
    refine st_run 3 [] [] ((1 = 1 ∧ 1 ≤ 2 ∧ 1 = 1 ∧ 2 ≤ List.length (setAt [nl, nl] 0 (cellsOf (D.row (List.map intsD a) (List.length a)))) ∧ True) ∧ 0 < 1 ∧ 1 = 1 ∧ 2 ≤ 16777216 ∧ 2 ≤ 9223372036854775807) [(7, D.row (List.map intsD a) (List.length a)), (8, D.row (List.map intsD b) (List.length b)), (9, D.osl 1 0 2 2 true)] [Bk.mk [] 53 0 false false, Bk.mk [D.row (List.map intsD a) (List.length a), D.row (List.map intsD b) (List.length b)] 35 1 true false] (by kernel_rfl) ⟨⟨(by kernel_rfl), ⟨(by omega), ⟨(by kernel_rfl), ⟨(lb (by kernel_rfl)), trivial⟩⟩⟩⟩, (by omega)⟩ ?_
    refine st_call [] [] [D.row [D.row (List.map intsD a) (List.length a), D.row (List.map intsD b) (List.length b)] 2] [Bk.mk [] 53 0 false false, Bk.mk [D.row (List.map intsD a) (List.length a), D.row (List.map intsD b) (List.length b)] 35 1 true true] [D.row [D.row (List.map intsD a) (List.length a), D.row (List.map intsD b) (List.length b)] 2] (by kernel_rfl) trivial (LeL.refl _) (by exact concat_why2 a b (by omega) (by omega)) ?_
    refine st_callr [D.row (List.map intsD (a ++ b)) (List.length (a ++ b))] (by kernel_rfl) (by exact normwhy_c (a ++ b) _ rfl (by simp; omega) h3) ?_
    refine st_end0 [] [] [1, 2, 7, 8, 9, 10, 11] (True) [(6, D.row (List.map intsD (wset (a ++ b))) (List.length (wset (a ++ b))))] (by kernel_rfl) trivial ?_
    refine awp_ret ?_
    refine ret_run (True) (D.row (List.map intsD (wset (a ++ b))) (List.length (wset (a ++ b)))) (D.row (List.map intsD (wset (a ++ b))) (List.length (wset (a ++ b)))) (.inr rfl) (by kernel_rfl) trivial rfl rfl
set_option maxHeartbeats 1000000 in
theorem pequal_c (a b : List (List Int)) (n m : Nat) (hn : a.length = n) (hm : b.length = m) (ha : n ≤ 100000) (hb : m ≤ 100000) (h1 : Short 100000 a) (h2 : Short 100000 b) : Pure Tryz.prog 25 [.agg [], .row (a.map intsD) n, .row (b.map intsD) m] [] (bD (decide (wset a = wset b))) := by
  subst hn hm
  have l1 := wset_len a
  have l2 := wset_len b
  have h3 : Short 1000000 (wset a) := fun s h => by have := short_wset h1 s h; omega
  have h4 : Short 1000000 (wset b) := fun s h => by have := short_wset h2 s h; omega
  refine pure_of_awp Tn_ok mixed Tryz.func25 rfl ?_
  focus
    refine awp_seq (awp_region rfl ?_)
    refine st_end [] [] [0, 3] (True) [(6, bD false)] [Bk.mk [] 53 0 false false] (by kernel_rfl) trivial ?_
    refine awp_seq (awp_region rfl ?_)
    refine st_run0 1 [] [] (True) [(7, D.row (List.map intsD a) (List.length a))] (by kernel_rfl) trivial ?_
    refine st_callr [D.row (List.map intsD a) (List.length a)] (by kernel_rfl) (by exact normwhy_c a _ rfl (by omega) h1) ?_
    refine st_run0 1 [] [] (True) [(9, D.row (List.map intsD b) (List.length b))] (by kernel_rfl) trivial ?_
    refine st_callr [D.row (List.map intsD b) (List.length b)] (by kernel_rfl) (by exact normwhy_c b _ rfl (by omega) h2) ?_
    refine st_callr [D.row (List.map intsD (wset a)) (List.length (wset a)), D.row (List.map intsD (wset b)) (List.length (wset b)), D.clo (Fn.func 70) [] []] (by kernel_rfl) (by exact efunc_c (wset a) (wset b) _ _ rfl rfl (by omega) (by omega) h3 h4) ?_
    refine st_end0 [] [] [1, 2, 7, 8, 9, 10, 11] (True) [(6, bD (decide (wset a = wset b)))] (by kernel_rfl) trivial ?_
    refine awp_ret ?_
    refine ret_run (True) (bD (decide (wset a = wset b))) (D.val (Value.bool (decide (wset a = wset b)))) (.inr rfl) (by kernel_rfl) trivial rfl rfl
theorem pzero_c : Pure Tryz.prog 26 [.agg []] [] (whyD []) := by
  refine pure_of_awp Tn_ok mixed Tryz.func26 rfl ?_
  focus
    refine awp_seq (awp_region rfl ?_)
    refine st_end [] [] [0, 1] (True) [(2, nl)] [Bk.mk [] 53 0 false false] (by kernel_rfl) trivial ?_
    refine awp_seq (awp_region rfl ?_)
    refine st_end [] [] [3] (True ∧ 0 < 1 ∧ 1 = 1 ∧ 0 ≤ 16777216 ∧ 0 ≤ 9223372036854775807) [(2, D.osl 1 0 0 0 true)] [Bk.mk [] 53 0 false false, Bk.mk [] 63 1 true false] (by kernel_rfl) ⟨trivial, (by omega)⟩ ?_
    refine awp_ret ?_
    refine ret_run (True) (D.row [] 0) (D.row [] 0) (.inr rfl) (by kernel_rfl) trivial rfl (by simp)
theorem pone_c : Pure Tryz.prog 27 [.agg []] [] (whyD [[]]) := by
  refine pure_of_awp Tn_ok mixed Tryz.func27 rfl ?_
  focus
    refine awp_seq (awp_region rfl ?_)
    refine st_end [] [] [0, 1] (True) [(2, nl)] [Bk.mk [] 53 0 false false] (by kernel_rfl) trivial ?_
    refine awp_seq (awp_region rfl ?_)
    refine st_end [] [] [3, 4] ((True ∧ 0 < 1 ∧ 1 = 1 ∧ 0 ≤ 16777216 ∧ 0 ≤ 9223372036854775807) ∧ (1 = 1 ∧ 1 ≤ 1 ∧ True) ∧ 0 < 1 ∧ 1 = 1 ∧ 1 ≤ 16777216 ∧ 1 ≤ 9223372036854775807) [(2, D.osl 2 0 1 1 true)] [Bk.mk [] 53 0 false false, Bk.mk [] 3 1 true true, Bk.mk [D.row [] 0] 63 1 true false] (by kernel_rfl) ⟨⟨trivial, (by omega)⟩, ⟨⟨(by kernel_rfl), ⟨(by omega), trivial⟩⟩, (by omega)⟩⟩ ?_
    refine awp_ret ?_
    refine ret_run (True) (D.row [D.row [] 0] 1) (D.row [D.row [] 0] 1) (.inr rfl) (by kernel_rfl) trivial rfl (by simp)
theorem take_whyL (l : List (List Int)) : List.take l.length (l.map intsD) = l.map intsD := List.take_of_length_le (by simp)
set_option maxHeartbeats 2000000 in
theorem pmul_c (a b : List (List Int)) (n m : Nat) (hn : a.length = n) (hm : b.length = m) (ha : n ≤ 100) (hb : m ≤ 100) (h1 : Short 1000 a) (h2 : Short 1000 b) : Pure Tryz.prog 23 [.agg [], .row (a.map intsD) n, .row (b.map intsD) m] [] (whyD (wset (prodL (wset a) (wset b)))) := by
  subst hn hm
  have l1 := wset_len a
  have l2 := wset_len b
  have k1 := short_wset h1
  have k2 := short_wset h2
  have g1 : Short 100000 a := fun s h => by have := h1 s h; omega
  have g2 : Short 100000 b := fun s h => by have := h2 s h; omega
  refine pure_of_awp Tn_ok mixed Tryz.func23 rfl ?_
  focus
    refine awp_seq (awp_region rfl ?_)
    refine st_end [] [] [0, 3] (True) [(6, nl)] [Bk.mk [] 53 0 false false] (by kernel_rfl) trivial ?_
    refine awp_seq (awp_region rfl ?_)
    refine st_run0 1 [] [] (True) [(10, D.row (List.map intsD a) (List.length a))] (by kernel_rfl) trivial ?_
    refine st_callr [D.row (List.map intsD a) (List.length a)] (by kernel_rfl) (by exact normwhy_c a _ rfl (by omega) g1) ?_
    refine st_run0 1 [] [] (True) [(12, D.row (List.map intsD b) (List.length b))] (by kernel_rfl) trivial ?_
    refine st_callr [D.row (List.map intsD b) (List.length b)] (by kernel_rfl) (by exact normwhy_c b _ rfl (by omega) g2) ?_
    refine st_end0 [] [] [10, 11, 12, 13] (True) [(1, D.row (List.map intsD (wset a)) (List.length (wset a))), (2, D.row (List.map intsD (wset b)) (List.length (wset b)))] (by kernel_rfl) trivial ?_
    refine awp_seq (awp_region rfl ?_)
    refine st_end0 [] [] [] (True) [(7, nl)] (by kernel_rfl) trivial ?_
    refine awp_seq (awp_seq (awp_region rfl ?_))
    refine st_end0 [] [] [14] (True) [(15, iD (↑(List.length (wset a)) : Int)), (16, iD 0)] (by kernel_rfl) trivial ?_
    refine awp_block ?_
    rotate_left
  generalize wset a = x at *
  generalize wset b = y at *
  refine awp_loop1 (fun (i : Nat) => [U, D.row (List.map intsD x) (List.length x), D.row (List.map intsD y) (List.length y), U, U, U, nl, D.osl 1 0 (List.length (prodT x y i 0)) (List.length (prodT x y i 0)) true, U, U, U, U, U, U, U, iD (↑(List.length x) : Int), iD (↑i : Int), U, U, U, U, U, U, U, U, U, U, U, U, U, U, U, U, U, U, U, U, U, U, U, U]) (fun i => [⟨[], 53, 0, false, false⟩, whyB (prodT x y i 0)]) (fun i => x.length - i) (fun i => i ≤ x.length) 0 ?_ ?_ ?_
  · omega
  · refine weak_run [(1, 1), (2, 1), (6, 1), (7, 2), (15, 1), (16, 1)] (D.row (List.map intsD x) (List.length x) = D.row (List.map intsD x) (List.length x) ∧ D.row (List.map intsD y) (List.length y) = D.row (List.map intsD y) (List.length y) ∧ nl = nl ∧ iD (↑(List.length x) : Int) = iD (↑(List.length x) : Int) ∧ iD 0 = iD (↑(0 : Nat) : Int)) 1 [whyB (prodT x y 0 0)] (by kernel_rfl) ⟨rfl, rfl, rfl, rfl, (by kernel_rfl)⟩ (by kernel_rfl) (fun _ _ => rfl) (by kernel_rfl)
  rintro i i1
  focus
    refine awp_seq (awp_region rfl ?_)
    refine st_end0 [] [] [] (True) [(17, bD (decide ((↑i : Int) < (↑(List.length x) : Int))))] (by kernel_rfl) trivial ?_
    refine awp_seq ?_
    refine awp_cond (t := decide ((↑i : Int) < (↑(List.length x) : Int))) (by kernel_rfl) (fun hc => ?_) (fun hc => ?_)
    simp only [decide_eq_true_eq] at hc
    refine awp_skip (then_normal (next_same (awp_seq (awp_block (awp_seq (awp_region rfl ?_))))))
    refine st_end0 [] [] [17, 18] (True) [(8, iD (↑i : Int))] (by kernel_rfl) trivial ?_
    refine awp_seq (awp_region rfl ?_)
    refine st_end0 [] [] [19] (True) [(20, iD (↑(List.length y) : Int)), (21, iD 0)] (by kernel_rfl) trivial ?_
    refine awp_block ?_
    rotate_left
    simp only [decide_eq_false_iff_not] at hc
    refine awp_exit (then_exit (then_exit (block_hit rfl (then_normal (next_same (awp_seq (awp_region rfl ?_)))))))
    refine st_run0 1 [] [] (True) [(39, D.osl 1 0 (List.length (prodT x y i 0)) (List.length (prodT x y i 0)) true)] (by kernel_rfl) trivial ?_
    rotate_left
  · refine awp_loop1 (fun (j : Nat) => [U, D.row (List.map intsD x) (List.length x), D.row (List.map intsD y) (List.length y), U, U, U, nl, D.osl 1 0 (List.length (prodT x y i j)) (List.length (prodT x y i j)) true, iD (↑i : Int), U, U, U, U, U, U, iD (↑(List.length x) : Int), iD (↑i : Int), U, U, U, iD (↑(List.length y) : Int), iD (↑j : Int), U, U, U, U, U, U, U, U, U, U, U, U, U, U, U, U, U, U, U]) (fun j => [⟨[], 53, 0, false, false⟩, whyB (prodT x y i j)]) (fun j => y.length - j) (fun j => j ≤ y.length) 0 ?_ ?_ ?_
    · omega
    · refine weak_run [(1, 1), (2, 1), (6, 1), (7, 1), (8, 1), (15, 1), (16, 1), (20, 1), (21, 1)] (D.row (List.map intsD x) (List.length x) = D.row (List.map intsD x) (List.length x) ∧ D.row (List.map intsD y) (List.length y) = D.row (List.map intsD y) (List.length y) ∧ nl = nl ∧ D.osl 1 0 (List.length (prodT x y i 0)) (List.length (prodT x y i 0)) true = D.osl 1 0 (List.length (prodT x y i 0)) (List.length (prodT x y i 0)) true ∧ iD (↑i : Int) = iD (↑i : Int) ∧ iD (↑(List.length x) : Int) = iD (↑(List.length x) : Int) ∧ iD (↑i : Int) = iD (↑i : Int) ∧ iD (↑(List.length y) : Int) = iD (↑(List.length y) : Int) ∧ iD 0 = iD (↑(0 : Nat) : Int)) 2 [] (by kernel_rfl) ⟨rfl, rfl, rfl, rfl, rfl, rfl, rfl, rfl, (by kernel_rfl)⟩ (by kernel_rfl) (fun _ _ => rfl) (by kernel_rfl)
    rintro j j1
    have s1 := k1.get i
    have s2 := k2.get j
    have s3 := prodT_len x y i j i1 j1
    have s4 : i * y.length ≤ x.length * y.length := mul_le i1
    have s5 : x.length * y.length ≤ 100 * y.length := mul_le (by omega)
    focus
      refine awp_seq (awp_region rfl ?_)
      refine st_end0 [] [] [] (True) [(22, bD (decide ((↑j : Int) < (↑(List.length y) : Int))))] (by kernel_rfl) trivial ?_
      refine awp_seq ?_
      refine awp_cond (t := decide ((↑j : Int) < (↑(List.length y) : Int))) (by kernel_rfl) (fun hc => ?_) (fun hc => ?_)
      simp only [decide_eq_true_eq] at hc
      refine awp_skip (then_normal (next_same (awp_seq (awp_block (awp_seq (awp_region rfl ?_))))))
      refine st_end0 [] [] [22, 23] (True) [(9, iD (↑j : Int))] (by kernel_rfl) trivial ?_
      refine awp_drawn [0, 1, 2, 3, 5, 6, 7, 4, 8, 9, 10, 11, 12, 13] (by kernel_rfl) rfl ?_
      refine st_run0 4 [] [] ((0 : Int) ≤ (↑i : Int) ∧ (↑i : Int) < (↑(List.length x) : Int) ∧ List.map intsD x ≠ []) [(24, D.osl 1 0 (List.length (prodT x y i j)) (List.length (prodT x y i j)) true), (25, D.row (List.map intsD x) (List.length x)), (26, iD (↑i : Int)), (27, D.ptr (List.drop (Int.toNat (↑i : Int) * 1) (List.map intsD x)))] (by kernel_rfl) ⟨(by omega), ⟨(by omega), (by exact map_ne (by omega))⟩⟩ ?_
      refine st_slot 27 (D.ptr (List.drop (Int.toNat (↑i : Int) * 1) (List.map intsD x))) (D.ptr (List.drop i (List.map intsD x))) (by kernel_rfl) (by simp (disch := omega) only [Int.toNat_natCast, Nat.mul_one]) (by kernel_rfl) ?_
      refine st_run0 3 [] [] ((0 : Int) ≤ (↑j : Int) ∧ (↑j : Int) < (↑(List.length y) : Int) ∧ List.map intsD y ≠ []) [(29, D.row (List.map intsD y) (List.length y)), (30, iD (↑j : Int)), (31, D.ptr (List.drop (Int.toNat (↑j : Int) * 1) (List.map intsD y)))] (by kernel_rfl) ⟨(by omega), ⟨(by omega), (by exact map_ne (by omega))⟩⟩ ?_
      refine st_slot 31 (D.ptr (List.drop (Int.toNat (↑j : Int) * 1) (List.map intsD y))) (D.ptr (List.drop j (List.map intsD y))) (by kernel_rfl) (by simp (disch := omega) only [Int.toNat_natCast, Nat.mul_one]) (by kernel_rfl) ?_
      refine st_run0 1 [] [] (0 < List.length (List.drop i (List.map intsD x))) [(28, List.headD (List.drop i (List.map intsD x)) U)] (by kernel_rfl) (by (simp; omega)) ?_
      refine st_slot 28 (List.headD (List.drop i (List.map intsD x)) U) (intsD (List.getD x i [])) (by kernel_rfl) (by simp (disch := omega) only [headD_why]) (by kernel_rfl) ?_
      refine st_run0 1 [] [] (0 < List.length (List.drop j (List.map intsD y))) [(32, List.headD (List.drop j (List.map intsD y)) U)] (by kernel_rfl) (by (simp; omega)) ?_
      refine st_slot 32 (List.headD (List.drop j (List.map intsD y)) U) (intsD (List.getD y j [])) (by kernel_rfl) (by simp (disch := omega) only [headD_why]) (by kernel_rfl) ?_
      refine st_run 1 [] [] ((1 = 1 ∧ 1 ≤ 2 ∧ 1 = 1 ∧ 2 ≤ List.length (setAt [nl, nl] 0 (cellsOf (intsD (List.getD x i [])))) ∧ True) ∧ 0 < 1 ∧ 1 = 1 ∧ 2 ≤ 16777216 ∧ 2 ≤ 9223372036854775807) [(33, D.osl (2) 0 2 2 true)] [Bk.mk [] (53 : TypeId) 0 false false, whyB (prodT x y i j), Bk.mk [intsD (List.getD x i []), intsD (List.getD y j [])] 63 1 true false] (by kernel_rfl) ⟨⟨(by kernel_rfl), ⟨(by omega), ⟨(by kernel_rfl), ⟨(lb (by kernel_rfl)), trivial⟩⟩⟩⟩, (by omega)⟩ ?_
      refine st_call [] [] [D.row [intsD (List.getD x i []), intsD (List.getD y j [])] 2] [Bk.mk [] (53 : TypeId) 0 false false, whyB (prodT x y i j), Bk.mk [intsD (List.getD x i []), intsD (List.getD y j [])] 63 1 true true] [D.row [intsD (List.getD x i []), intsD (List.getD y j [])] 2] (by kernel_rfl) trivial (LeL.refl _) (by exact concat_ints2 _ _ (by omega) (by omega)) ?_
      refine st_run 2 [] [] (((1 = 1 ∧ 1 ≤ 1 ∧ True) ∧ 0 < 1 ∧ 1 = 1 ∧ 1 ≤ 16777216 ∧ 1 ≤ 9223372036854775807) ∧ Bk.arr (whyB (prodT x y i j)) = true ∧ List.length (Bk.cells (whyB (prodT x y i j))) = List.length (prodT x y i j) * 1 ∧ List.length (prodT x y i j) = List.length (prodT x y i j) * 1 ∧ Bk.ty (whyB (prodT x y i j)) = 63 ∧ Bk.sz (whyB (prodT x y i j)) = 1 ∧ List.length (List.take 1 (List.drop 0 [intsD (List.getD x i [] ++ List.getD y j [])])) = 1 ∧ 0 < 1 ∧ 0 < 24 ∧ 63 = 63 ∧ (List.length (prodT x y i j) + 1) * 24 ≤ 140737488355328 ∧ 1 = 1) [(7, U), (24, U), (35, D.osl (3) 0 1 1 true), (36, D.osl 1 0 (List.length (prodT x y i j) + 1) ((List.length (prodT x y i j) + 1) * 1) true)] [Bk.mk [] (53 : TypeId) 0 false false, Bk.mk (Bk.cells (whyB (prodT x y i j)) ++ List.take 1 (List.drop 0 [intsD (List.getD x i [] ++ List.getD y j [])])) (Bk.ty (whyB (prodT x y i j))) (Bk.sz (whyB (prodT x y i j))) (Bk.arr (whyB (prodT x y i j))) (Bk.fz (whyB (prodT x y i j))), Bk.mk [intsD (List.getD x i []), intsD (List.getD y j [])] 63 1 true true, Bk.mk [intsD (List.getD x i [] ++ List.getD y j [])] 63 1 true false] (by kernel_rfl) ⟨⟨⟨(by kernel_rfl), ⟨(by omega), trivial⟩⟩, (by omega)⟩, ⟨(by kernel_rfl), ⟨(by simp), ⟨(by omega), ⟨(by kernel_rfl), ⟨(by kernel_rfl), ⟨(by kernel_rfl), ⟨(by omega), ⟨(by omega), ⟨(by kernel_rfl), (by omega)⟩⟩⟩⟩⟩⟩⟩⟩⟩⟩ ?_
      refine st_blk 1 (Bk.mk (Bk.cells (whyB (prodT x y i j)) ++ List.take 1 (List.drop 0 [intsD (List.getD x i [] ++ List.getD y j [])])) (Bk.ty (whyB (prodT x y i j))) (Bk.sz (whyB (prodT x y i j))) (Bk.arr (whyB (prodT x y i j))) (Bk.fz (whyB (prodT x y i j)))) (Bk.mk (List.map intsD (prodT x y i j ++ [List.getD x i [] ++ List.getD y j []])) (63 : TypeId) 1 true false) (by kernel_rfl) (by simp (disch := omega) only [List.drop_zero, List.take_succ_cons, List.take_nil, app_why]) ?_
      refine st_run0 1 [] [] (True) [(7, D.osl 1 0 (List.length (prodT x y i j) + 1) ((List.length (prodT x y i j) + 1) * 1) true)] (by kernel_rfl) trivial ?_
      refine st_slot 7 (D.osl 1 0 (List.length (prodT x y i j) + 1) ((List.length (prodT x y i j) + 1) * 1) true) (D.osl 1 0 (List.length (prodT x y i j) + 1) (List.length (prodT x y i j) + 1) true) (by kernel_rfl) (by simp (disch := omega) only [Nat.mul_one]) (by kernel_rfl) ?_
      refine st_nil ?_ (by kernel_rfl)
      refine block_normal (then_normal (next_same (awp_region rfl ?_)))
      refine st_run0 1 [] [] (-9223372036854775808 ≤ (↑j : Int) + (1 : Int) ∧ (↑j : Int) + (1 : Int) ≤ 9223372036854775807) [(37, iD ((↑j : Int) + (1 : Int)))] (by kernel_rfl) (by omega) ?_
      refine st_slot 37 (iD ((↑j : Int) + (1 : Int))) (iD (↑(j + 1) : Int)) (by kernel_rfl) (by simp (disch := omega) only [cast_add1]) (by kernel_rfl) ?_
      refine st_run0 1 [] [] (True) [(21, iD (↑(j + 1) : Int))] (by kernel_rfl) trivial ?_
      refine st_nil ?_ (by kernel_rfl)
      refine then_normal ?_
      rotate_left
      simp only [decide_eq_false_iff_not] at hc
      refine awp_exit (then_exit (then_exit (block_hit rfl (block_normal (then_normal (next_same (awp_region rfl ?_)))))))
      refine st_run0 1 [] [] (-9223372036854775808 ≤ (↑i : Int) + (1 : Int) ∧ (↑i : Int) + (1 : Int) ≤ 9223372036854775807) [(38, iD ((↑i : Int) + (1 : Int)))] (by kernel_rfl) (by omega) ?_
      refine st_slot 38 (iD ((↑i : Int) + (1 : Int))) (iD (↑(i + 1) : Int)) (by kernel_rfl) (by simp (disch := omega) only [cast_add1]) (by kernel_rfl) ?_
      refine st_run0 1 [] [] (True) [(16, iD (↑(i + 1) : Int))] (by kernel_rfl) trivial ?_
      refine st_nil ?_ (by kernel_rfl)
      refine then_normal ?_
      rotate_left
    · refine ⟨j + 1, by omega, by omega, ?_⟩
      have e := prodT_succ x y i j (by omega)
      have el : (prodT x y i (j + 1)).length = (prodT x y i j).length + 1 := by rw [e]; simp
      rw [el, e]
      refine weak_run [(1, 1), (2, 1), (6, 1), (7, 1), (8, 1), (15, 1), (16, 1), (20, 1), (21, 1)] (D.row (List.map intsD x) (List.length x) = D.row (List.map intsD x) (List.length x) ∧ D.row (List.map intsD y) (List.length y) = D.row (List.map intsD y) (List.length y) ∧ nl = nl ∧ D.osl 1 0 (List.length (prodT x y i j) + 1) (List.length (prodT x y i j) + 1) true = D.osl 1 0 (List.length (prodT x y i j) + 1) (List.length (prodT x y i j) + 1) true ∧ iD (↑i : Int) = iD (↑i : Int) ∧ iD (↑(List.length x) : Int) = iD (↑(List.length x) : Int) ∧ iD (↑i : Int) = iD (↑i : Int) ∧ iD (↑(List.length y) : Int) = iD (↑(List.length y) : Int) ∧ iD (↑(j + 1) : Int) = iD (↑(j + 1) : Int)) 2 [] (by kernel_rfl) ⟨rfl, rfl, rfl, rfl, rfl, rfl, rfl, rfl, rfl⟩ (by kernel_rfl) (fun _ _ => rfl) (by kernel_rfl)
    · obtain rfl : j = y.length := by omega
      refine ⟨i + 1, by omega, by omega, ?_⟩
      rw [← prodT_next x y i (by omega)]
      refine weak_run [(1, 1), (2, 1), (6, 1), (7, 1), (15, 1), (16, 1)] (D.row (List.map intsD x) (List.length x) = D.row (List.map intsD x) (List.length x) ∧ D.row (List.map intsD y) (List.length y) = D.row (List.map intsD y) (List.length y) ∧ nl = nl ∧ D.osl 1 0 (List.length (prodT x y i (List.length y))) (List.length (prodT x y i (List.length y))) true = D.osl 1 0 (List.length (prodT x y i (List.length y))) (List.length (prodT x y i (List.length y))) true ∧ iD (↑(List.length x) : Int) = iD (↑(List.length x) : Int) ∧ iD (↑(i + 1) : Int) = iD (↑(i + 1) : Int)) 2 [] (by kernel_rfl) ⟨rfl, rfl, rfl, rfl, rfl, rfl⟩ (by kernel_rfl) (fun _ _ => rfl) (by kernel_rfl)
  · obtain rfl : i = x.length := by omega
    have s3 := prodT_len x y x.length 0 (Nat.le_refl _) (Nat.zero_le _)
    have s4 : x.length * y.length ≤ 100 * y.length := mul_le (by omega)
    have e : prodT x y x.length 0 = prodL x y := by rw [prodT, List.take_length, List.take_zero, List.map_nil, List.append_nil]
    have s5 : Short 100000 (prodT x y x.length 0) := fun s h => by have := short_prod k1 k2 x.length 0 s h; omega
    rw [← e]
    focus
      refine st_call [] [] [D.row (List.take (List.length (prodT x y (List.length x) 0)) (List.drop 0 (Bk.cells (whyB (prodT x y (List.length x) 0))))) (List.length (prodT x y (List.length x) 0))] [Bk.mk [] (53 : TypeId) 0 false false, Bk.mk (List.map intsD (prodT x y (List.length x) 0)) (63 : TypeId) 1 true true] [D.row (List.map intsD (prodT x y (List.length x) 0)) (List.length (prodT x y (List.length x) 0))] (by kernel_rfl) trivial (LeL.of_eq (by simp (disch := omega) only [List.drop_zero, take_whyL])) (by exact normwhy_c (prodT x y x.length 0) _ rfl (by omega) s5) ?_
      refine st_end0 [] [] [1, 2, 7, 15, 16, 17, 39, 40] (True) [(6, D.row (List.map intsD (wset (prodT x y (List.length x) 0))) (List.length (wset (prodT x y (List.length x) 0))))] (by kernel_rfl) trivial ?_
      refine awp_ret ?_
      refine ret_run (True) (D.row (List.map intsD (wset (prodT x y (List.length x) 0))) (List.length (wset (prodT x y (List.length x) 0)))) (D.row (List.map intsD (wset (prodT x y (List.length x) 0))) (List.length (wset (prodT x y (List.length x) 0)))) (.inr rfl) (by kernel_rfl) trivial rfl rfl
end Go.Proofs.YtgbhoceamcomfaaGreat
namespace Go.Proofs.YtgbhoceamcomfaaGreat
set_option linter.unusedVariables false
set_option linter.unusedSimpArgs false
def Has (w : List (List Int)) (z : List Int) : Prop := ∃ t ∈ w, setG icmp t = z
theorem has_wset (w : List (List Int)) (z : List Int) : Has (wset w) z ↔ Has w z := by
  have h : z ∈ (wset w).map (setG icmp) ↔ z ∈ w.map (setG icmp) := by
    rw [map_sets, wset, setG_mem lcmp_cm]
  rw [List.mem_map, List.mem_map] at h
  exact h
theorem wset_ext {a b : List (List Int)} (h : ∀ z, Has a z ↔ Has b z) : wset a = wset b := by
  refine setG_congr lcmp_cm fun z => ?_
  rw [List.mem_map, List.mem_map]
  exact h z
theorem has_app (a b : List (List Int)) (z : List Int) : Has (a ++ b) z ↔ Has a z ∨ Has b z := by
  unfold Has
  constructor
  · rintro ⟨t, ht, rfl⟩
    rcases List.mem_append.1 ht with h | h
    · exact .inl ⟨t, h, rfl⟩
    · exact .inr ⟨t, h, rfl⟩
  · rintro (⟨t, ht, rfl⟩ | ⟨t, ht, rfl⟩)
    · exact ⟨t, List.mem_append.2 (.inl ht), rfl⟩
    · exact ⟨t, List.mem_append.2 (.inr ht), rfl⟩
def un (u v : List Int) : List Int := setG icmp (u ++ v)
theorem mem_un (u v : List Int) (x : Int) : x ∈ un u v ↔ x ∈ u ∨ x ∈ v := by
  rw [un, setG_mem icmp_cm, List.mem_append]
theorem un_set (u v : List Int) : un (setG icmp u) (setG icmp v) = setG icmp (u ++ v) :=
  setG_congr icmp_cm fun z => by rw [List.mem_append, List.mem_append, setG_mem icmp_cm, setG_mem icmp_cm]
theorem un_comm (u v : List Int) : un u v = un v u := setG_congr icmp_cm fun z => by rw [List.mem_append, List.mem_append]; exact Or.comm
theorem un_assoc (u v t : List Int) : un (un u v) t = un u (un v t) := setG_congr icmp_cm fun z => by
  rw [List.mem_append, List.mem_append, mem_un, mem_un]; exact or_assoc
theorem has_prod (a b : List (List Int)) (z : List Int) : Has (prodL a b) z ↔ ∃ u v, Has a u ∧ Has b v ∧ un u v = z := by
  unfold Has prodL
  constructor
  · rintro ⟨t, ht, rfl⟩
    rw [List.mem_flatMap] at ht
    obtain ⟨x, hx, ht⟩ := ht
    rw [List.mem_map] at ht
    obtain ⟨y, hy, rfl⟩ := ht
    exact ⟨_, _, ⟨x, hx, rfl⟩, ⟨y, hy, rfl⟩, un_set x y⟩
  · rintro ⟨_, _, ⟨x, hx, rfl⟩, ⟨y, hy, rfl⟩, rfl⟩
    refine ⟨x ++ y, ?_, (un_set x y).symm⟩
    rw [List.mem_flatMap]
    exact ⟨x, hx, List.mem_map.2 ⟨y, hy, rfl⟩⟩
theorem has_sets (w : List (List Int)) (z : List Int) (h : Has w z) : setG icmp z = z := by
  obtain ⟨t, _, rfl⟩ := h
  exact setG_of_asc icmp_cm (setG_asc icmp_cm t)
abbrev wadd (a b : List (List Int)) : List (List Int) := wset (a ++ b)
abbrev wmul (a b : List (List Int)) : List (List Int) := wset (prodL (wset a) (wset b))
theorem has_add (a b : List (List Int)) (z : List Int) : Has (wadd a b) z ↔ Has a z ∨ Has b z := by rw [has_wset, has_app]
theorem has_mul (a b : List (List Int)) (z : List Int) : Has (wmul a b) z ↔ ∃ u v, Has a u ∧ Has b v ∧ un u v = z := by
  rw [has_wset, has_prod]
  simp only [has_wset]
theorem w1 (a b c : List (List Int)) : wset (wadd (wadd a b) c) = wset (wadd a (wadd b c)) := wset_ext fun z => by
  rw [has_add, has_add, has_add, has_add]; exact or_assoc
theorem w2 (a b : List (List Int)) : wset (wadd a b) = wset (wadd b a) := wset_ext fun z => by
  rw [has_add, has_add]; exact Or.comm
theorem w3 (a : List (List Int)) : wset (wadd a []) = wset a := wset_ext fun z => by
  rw [has_add]; simp [Has]
theorem w4 (a b c : List (List Int)) : wset (wmul (wmul a b) c) = wset (wmul a (wmul b c)) := wset_ext fun z => by
  simp only [has_mul]
  constructor
  · rintro ⟨_, t, ⟨u, v, hu, hv, rfl⟩, ht, rfl⟩
    exact ⟨u, _, hu, ⟨v, t, hv, ht, rfl⟩, (un_assoc u v t).symm⟩
  · rintro ⟨u, _, hu, ⟨v, t, hv, ht, rfl⟩, rfl⟩
    exact ⟨_, t, ⟨u, v, hu, hv, rfl⟩, ht, un_assoc u v t⟩
theorem w5 (a b : List (List Int)) : wset (wmul a b) = wset (wmul b a) := wset_ext fun z => by
  simp only [has_mul]
  constructor
  · rintro ⟨u, v, hu, hv, rfl⟩; exact ⟨v, u, hv, hu, un_comm v u⟩
  · rintro ⟨u, v, hu, hv, rfl⟩; exact ⟨v, u, hv, hu, un_comm v u⟩
theorem has_one (z : List Int) : Has [[]] z ↔ z = [] := by
  unfold Has
  have h : setG icmp [] = [] := rfl
  constructor
  · rintro ⟨t, ht, rfl⟩
    rw [List.mem_singleton] at ht; subst ht; exact h
  · rintro rfl; exact ⟨[], List.mem_singleton.2 rfl, h⟩
theorem w6 (a : List (List Int)) : wset (wmul a [[]]) = wset a := wset_ext fun z => by
  simp only [has_mul, has_one]
  constructor
  · rintro ⟨u, v, hu, rfl, rfl⟩
    rw [un, List.append_nil, has_sets a u hu]; exact hu
  · intro h
    exact ⟨z, [], h, rfl, by rw [un, List.append_nil, has_sets a z h]⟩
theorem w7 (a : List (List Int)) : wset (wmul a []) = wset [] := wset_ext fun z => by
  rw [has_mul]; simp [Has]
theorem w8 (a b c : List (List Int)) : wset (wmul a (wadd b c)) = wset (wadd (wmul a b) (wmul a c)) := wset_ext fun z => by
  rw [has_add]
  simp only [has_mul, has_add]
  constructor
  · rintro ⟨u, v, hu, hv | hv, rfl⟩
    · exact .inl ⟨u, v, hu, hv, rfl⟩
    · exact .inr ⟨u, v, hu, hv, rfl⟩
  · rintro (⟨u, v, hu, hv, rfl⟩ | ⟨u, v, hu, hv, rfl⟩)
    · exact ⟨u, v, hu, .inl hv, rfl⟩
    · exact ⟨u, v, hu, .inr hv, rfl⟩
theorem wset_ne (w : List (List Int)) : (0 < (wset w).length) ↔ 0 < w.length := by
  have key : ∀ x : List (List Int), 0 < x.length ↔ ∃ z, Has x z := fun x => by
    cases x with
    | nil => simp [Has]
    | cons t x => simp only [List.length_cons]; exact ⟨fun _ => ⟨_, t, List.mem_cons_self .., rfl⟩, fun _ => by omega⟩
  rw [key, key]
  simp only [has_wset]
theorem add_ne (a b : List (List Int)) : (0 < (wadd a b).length) ↔ 0 < a.length ∨ 0 < b.length := by
  rw [wset_ne, List.length_append]; omega
theorem mul_ne (a b : List (List Int)) : (0 < (wmul a b).length) ↔ 0 < a.length ∧ 0 < b.length := by
  rw [wset_ne]
  have e : (prodL (wset a) (wset b)).length = (wset a).length * (wset b).length := by
    unfold prodL
    rw [List.length_flatMap]
    simp [List.map_const']
  rw [e, ← wset_ne a, ← wset_ne b]
  constructor
  · intro h
    exact ⟨Nat.pos_of_mul_pos_right h, Nat.pos_of_mul_pos_left h⟩
  · rintro ⟨h, k⟩
    exact Nat.mul_pos h k
abbrev AX := Option (Option (List Int))
def apick (g : Bool) (a b : Option (List Int)) : Option (List Int) := match a, b with
  | none, b => b
  | a, none => a
  | some x, some y => if (0 < lcmp x y ∧ g = false) ∨ (lcmp x y < 0 ∧ g = true) then some y else some x
def aadd (g : Bool) (a b : AX) : AX := match a, b with
  | none, b => b
  | a, none => a
  | some x, some y => some (apick g x y)
def amul (g : Bool) (a b : AX) : AX := match a, b with
  | some x, some y => some (apick g x y)
  | _, _ => none
theorem pick_none (g : Bool) (a : Option (List Int)) : apick g a none = a := by cases a <;> rfl
theorem apick_comm (g : Bool) (a b : Option (List Int)) : apick g a b = apick g b a := by
  cases a with
  | none => cases b <;> rfl
  | some x =>
    cases b with
    | none => rfl
    | some y =>
      simp only [apick]
      have h1 := lcmp_neg x y
      have h2 := lcmp_eq x y
      cases g
      · by_cases h : x = y
        · subst h; simp
        · have h3 : lcmp x y ≠ 0 := fun e => h (h2.1 e)
          by_cases h4 : 0 < lcmp x y
          · rw [if_pos (by simpa using h4), if_neg (by simp; omega)]
          · rw [if_neg (by simpa using h4), if_pos (by simp; omega)]
      · by_cases h : x = y
        · subst h; simp
        · have h3 : lcmp x y ≠ 0 := fun e => h (h2.1 e)
          by_cases h4 : lcmp x y < 0
          · rw [if_pos (by simpa using h4), if_neg (by simp; omega)]
          · rw [if_neg (by simpa using h4), if_pos (by simp; omega)]
theorem lcmp_le (x y z : List Int) (h : lcmp x y ≤ 0) (k : lcmp y z ≤ 0) : lcmp x z ≤ 0 := by
  by_cases e1 : lcmp x y = 0
  · rw [(lcmp_eq x y).1 e1]; exact k
  · by_cases e2 : lcmp y z = 0
    · rw [← (lcmp_eq y z).1 e2]; exact h
    · have := lcmp_tr x y z (by omega) (by omega); omega
theorem apick_assoc (g : Bool) (a b c : Option (List Int)) : apick g (apick g a b) c = apick g a (apick g b c) := by
  cases a with
  | none => simp only [apick]
  | some x =>
    cases b with
    | none => simp only [apick]
    | some y =>
      cases c with
      | none => rw [pick_none, pick_none]
      | some z =>
        have n1 := lcmp_neg x y
        have n2 := lcmp_neg y z
        have n3 := lcmp_neg x z
        have q1 := lcmp_eq x y
        have q2 := lcmp_eq y z
        have q3 := lcmp_eq x z
        have t1 := lcmp_le x y z
        have t2 := lcmp_le z y x
        have s1 := lcmp_tr x y z
        have s2 := lcmp_tr z y x
        cases g
        · by_cases h1 : 0 < lcmp x y <;> by_cases h2 : 0 < lcmp y z <;> by_cases h3 : 0 < lcmp x z <;> simp [apick, h1, h2, h3] <;> first | done | (exfalso; omega)
        · by_cases h1 : lcmp x y < 0 <;> by_cases h2 : lcmp y z < 0 <;> by_cases h3 : lcmp x z < 0 <;> simp [apick, h1, h2, h3] <;> first | done | (exfalso; omega)
theorem x1 (g : Bool) (a b c : AX) : aadd g (aadd g a b) c = aadd g a (aadd g b c) := by
  cases a <;> cases b <;> cases c <;> simp only [aadd, apick_assoc]
theorem x2 (g : Bool) (a b : AX) : aadd g a b = aadd g b a := by
  cases a <;> cases b <;> simp only [aadd]
  rw [apick_comm]
theorem x3 (g : Bool) (a : AX) : aadd g a none = a := by cases a <;> rfl
theorem x4 (g : Bool) (a b c : AX) : amul g (amul g a b) c = amul g a (amul g b c) := by
  cases a <;> cases b <;> cases c <;> simp only [amul, apick_assoc]
end Go.Proofs.YtgbhoceamcomfaaGreat
namespace Go.Proofs.YtgbhoceamcomfaaGreat
open Go.RowKit
attribute [local irreducible] seqW awp thenW nextW blockW Weak updS deadS retL Pure Acts
set_option linter.unusedVariables false
set_option linter.unusedSimpArgs false
set_option maxRecDepth 4096
def OkW (n : Nat) (w : List (List Int)) : Prop := w.length ≤ 8 ^ 2 ^ n ∧ Short (8 * 2 ^ n) w
theorem Short.le {k l : Nat} {w : List (List Int)} (h : Short k w) (hk : k ≤ l) : Short l w := fun s hs => Nat.le_trans (h s hs) hk
theorem OkW.up {n : Nat} {w : List (List Int)} (h : OkW n w) : OkW (n + 1) w := by
  refine ⟨Nat.le_trans h.1 (Nat.pow_le_pow_right (by decide) (Nat.pow_le_pow_right (by decide) (by omega))), h.2.le ?_⟩
  rw [Nat.pow_succ]; omega
theorem pow8 (n : Nat) : 8 ≤ 8 ^ 2 ^ n := by
  have : 8 ^ 1 ≤ 8 ^ 2 ^ n := Nat.pow_le_pow_right (by decide) (Nat.one_le_pow _ _ (by decide))
  simpa using this
theorem sq8 (n : Nat) : 8 ^ 2 ^ (n + 1) = 8 ^ 2 ^ n * 8 ^ 2 ^ n := by rw [← Nat.pow_add]; congr 1; rw [Nat.pow_succ]; omega
theorem OkW.add {n : Nat} {a b : List (List Int)} (h : OkW n a) (k : OkW n b) : OkW (n + 1) (wadd a b) := by
  refine ⟨?_, short_wset (short_app (h.2.le (by rw [Nat.pow_succ]; omega)) (k.2.le (by rw [Nat.pow_succ]; omega)))⟩
  have h1 := wset_len (a ++ b)
  have h2 := h.1
  have h3 := k.1
  have h4 := pow8 n
  have h5 : 8 * 8 ^ 2 ^ n ≤ 8 ^ 2 ^ n * 8 ^ 2 ^ n := Nat.mul_le_mul_right _ h4
  rw [List.length_append] at h1
  show (wset (a ++ b)).length ≤ _
  rw [sq8]; omega
theorem prodL_len (a b : List (List Int)) : (prodL a b).length = a.length * b.length := by
  unfold prodL
  rw [List.length_flatMap]
  simp [List.map_const']
theorem prodL_short {k l : Nat} {a b : List (List Int)} (h : Short k a) (h' : Short l b) : Short (k + l) (prodL a b) := fun s hs => by
  unfold prodL at hs
  obtain ⟨x, hx, hs⟩ := List.mem_flatMap.1 hs
  obtain ⟨y, hy, rfl⟩ := List.mem_map.1 hs
  have := h x hx
  have := h' y hy
  rw [List.length_append]; omega
theorem OkW.mul {n : Nat} {a b : List (List Int)} (h : OkW n a) (k : OkW n b) : OkW (n + 1) (wmul a b) := by
  refine ⟨?_, short_wset (Short.le (prodL_short (short_wset h.2) (short_wset k.2)) (by rw [Nat.pow_succ]; omega))⟩
  have h1 := wset_len (prodL (wset a) (wset b))
  rw [prodL_len] at h1
  rw [sq8]
  exact Nat.le_trans h1 (Nat.mul_le_mul (Nat.le_trans (wset_len a) h.1) (Nat.le_trans (wset_len b) k.1))
theorem OkW.lim {n : Nat} {w : List (List Int)} (h : OkW n w) (hn : n ≤ 1) : w.length ≤ 64 ∧ Short 16 w := by
  obtain rfl | rfl : n = 0 ∨ n = 1 := by omega
  · exact ⟨Nat.le_trans h.1 (by decide), h.2.le (by decide)⟩
  · exact ⟨Nat.le_trans h.1 (by decide), h.2.le (by decide)⟩
abbrev whyR (x : List (List Int)) : D := whyD x
def whyS : SemX (List (List Int)) where
  R := whyR
  Ok := OkW
  A := wadd
  M := wmul
  z := []
  o := [[]]
  eq x y := decide (wset x = wset y)
theorem okW_nil : OkW 0 [] := ⟨by simp, fun s hs => by simp at hs⟩
theorem okW_one : OkW 0 [[]] := ⟨by decide, fun s hs => by
  rw [List.mem_singleton] at hs; subst hs; simp⟩
theorem whyS_ok : SemC Tryz.prog 26 27 21 23 25 (.agg []) whyS where
  up h := OkW.up h
  add hn h k := ⟨padd_c _ _ _ _ rfl rfl (by have := (OkW.lim h hn).1; omega) (by have := (OkW.lim k hn).1; omega) ((OkW.lim h hn).2.le (by decide)) ((OkW.lim k hn).2.le (by decide)), OkW.add h k⟩
  mul hn h k := ⟨pmul_c _ _ _ _ rfl rfl (by have := (OkW.lim h hn).1; omega) (by have := (OkW.lim k hn).1; omega) ((OkW.lim h hn).2.le (by decide)) ((OkW.lim k hn).2.le (by decide)), OkW.mul h k⟩
  zero := ⟨pzero_c, okW_nil⟩
  one := ⟨pone_c, okW_one⟩
  equal h k := pequal_c _ _ _ _ rfl rfl (Nat.le_trans h.1 (by decide)) (Nat.le_trans k.1 (by decide)) (h.2.le (by decide)) (k.2.le (by decide))
  ax {a b c} _ _ _ := by
    unfold SemX.ax whyS
    simp only [decide_eq_true_eq]
    exact ⟨w1 a b c, w2 a b, w3 a, w4 a b c, w5 a b, w6 a, w7 a, w8 a b c⟩
end Go.Proofs.YtgbhoceamcomfaaGreat
namespace Go.Proofs.YtgbhoceamcomfaaGreat
open Go.RowKit
attribute [local irreducible] seqW awp thenW nextW blockW Weak updS deadS retL Pure Acts
set_option linter.unusedVariables false
set_option linter.unusedSimpArgs false
set_option maxRecDepth 4096
theorem len32_c (n : Nat) (hn : n < 4294967296) : Pure Tryz.prog 129 [.val (.int .u32 n)] [] (.val (.int .i64 (Lib.bitLen n : Nat))) :=
  pure_of_val (us := [.int .u32 n]) (fun w => (Tryz.bits_Len32 n w (by omega) (by omega)).mono fun e w' h => ⟨by rw [h.1]; simp, h.2.symm⟩)
theorem bl64 (x : Nat) : Lib.bitLen x ≤ 64 := bitLenAux_le 64 x
theorem nb_len {n : Nat} (h : 0 < (dg n).length) : 32 * ((dg n).length - 1) + Lib.bitLen ((dg n).getD ((dg n).length - 1) 0) = nb n := by
  unfold nb bitsN; rw [if_neg (by omega)]
theorem bits_c (l : List Nat) (n : Nat) (hn : l.length = n) (hl : n ≤ 1000000) (hd : Digs l) : Pure Tryz.prog 117 [.row (l.map dig) n] [] (iD (nb (nval l) : Nat)) := by
  subst hn
  have h1 := dg_len hd
  have h3 := digs_dg (nval l) ((dg (nval l)).length - 1)
  have hz := (nb_zero (nval l)).2
  have hz' := (dg_len0 (nval l)).1
  have hb := nb_len (n := nval l)
  have h2 := bl64 ((dg (nval l)).getD ((dg (nval l)).length - 1) 0)
  refine pure_of_awp Tz_ok mixed Tryz.func117 rfl ?_
  focus
    refine awp_seq (awp_region rfl ?_)
    refine st_end0 [] [] [] (True) [(2, iD 0)] (by kernel_rfl) trivial ?_
    refine awp_seq (awp_region rfl ?_)
    refine st_run0 1 [] [] (True) [(3, digR l)] (by kernel_rfl) trivial ?_
    refine st_callr [digR l] (by kernel_rfl) (by exact trim_c l _ rfl (by omega) hd) ?_
    refine st_end0 [] [] [3, 4] (True) [(0, natD (nval l))] (by kernel_rfl) trivial ?_
    refine awp_seq (awp_seq (awp_region rfl ?_))
    refine st_end0 [] [] [5, 6] (True) [(7, bD ((↑(List.length (dg (nval l))) : Int) == (0 : Int)))] (by kernel_rfl) trivial ?_
    refine awp_cond (t := (↑(List.length (dg (nval l))) : Int) == (0 : Int)) (by kernel_rfl) (fun hc => ?_) (fun hc => ?_)
    simp only [beq_iff_eq] at hc
    refine awp_seq (awp_region rfl ?_)
    refine st_end0 [] [] [7] (True) [] (by kernel_rfl) trivial ?_
    refine awp_ret (then_ret ?_)
    refine ret_run (True) (iD 0) (D.val (Value.int IntKind.i64 (0 : Int))) (.inr rfl) (by kernel_rfl) trivial rfl ?_
    rotate_left
    simp only [beq_eq_false_iff_ne] at hc
    refine awp_skip (then_normal (next_same (awp_seq (awp_region rfl ?_))))
    refine st_run0 3 [] [] (-9223372036854775808 ≤ (↑(List.length (dg (nval l))) : Int) - (1 : Int) ∧ (↑(List.length (dg (nval l))) : Int) - (1 : Int) ≤ 9223372036854775807) [(8, natD (nval l)), (9, iD (↑(List.length (dg (nval l))) : Int)), (10, iD ((↑(List.length (dg (nval l))) : Int) - (1 : Int)))] (by kernel_rfl) (by omega) ?_
    refine st_slot 10 (iD ((↑(List.length (dg (nval l))) : Int) - (1 : Int))) (iD (↑(List.length (dg (nval l)) - 1) : Int)) (by kernel_rfl) (by simp (disch := omega) only [cast_pred]) (by kernel_rfl) ?_
    refine st_run0 5 [] [] ((-9223372036854775808 ≤ (32 : Int) * (↑(List.length (dg (nval l)) - 1) : Int) ∧ (32 : Int) * (↑(List.length (dg (nval l)) - 1) : Int) ≤ 9223372036854775807) ∧ -9223372036854775808 ≤ (↑(List.length (dg (nval l))) : Int) - (1 : Int) ∧ (↑(List.length (dg (nval l))) : Int) - (1 : Int) ≤ 9223372036854775807) [(11, iD ((32 : Int) * (↑(List.length (dg (nval l)) - 1) : Int))), (12, natD (nval l)), (13, natD (nval l)), (14, iD (↑(List.length (dg (nval l))) : Int)), (15, iD ((↑(List.length (dg (nval l))) : Int) - (1 : Int)))] (by kernel_rfl) (by omega) ?_
    refine st_slot 15 (iD ((↑(List.length (dg (nval l))) : Int) - (1 : Int))) (iD (↑(List.length (dg (nval l)) - 1) : Int)) (by kernel_rfl) (by simp (disch := omega) only [cast_pred]) (by kernel_rfl) ?_
    refine st_run0 1 [] [] ((0 : Int) ≤ (↑(List.length (dg (nval l)) - 1) : Int) ∧ (↑(List.length (dg (nval l)) - 1) : Int) < (↑(List.length (dg (nval l))) : Int) ∧ List.map dig (dg (nval l)) ≠ []) [(16, D.ptr (List.drop (Int.toNat (↑(List.length (dg (nval l)) - 1) : Int) * 1) (List.map dig (dg (nval l)))))] (by kernel_rfl) ⟨(by omega), ⟨(by omega), (by exact map_ne (by omega))⟩⟩ ?_
    refine st_slot 16 (D.ptr (List.drop (Int.toNat (↑(List.length (dg (nval l)) - 1) : Int) * 1) (List.map dig (dg (nval l))))) (D.ptr (List.drop (List.length (dg (nval l)) - 1) (List.map dig (dg (nval l))))) (by kernel_rfl) (by simp (disch := omega) only [Int.toNat_natCast, Nat.mul_one]) (by kernel_rfl) ?_
    refine st_run0 1 [] [] (0 < List.length (List.drop (List.length (dg (nval l)) - 1) (List.map dig (dg (nval l))))) [(17, List.headD (List.drop (List.length (dg (nval l)) - 1) (List.map dig (dg (nval l)))) U)] (by kernel_rfl) (by (simp; omega)) ?_
    refine st_slot 17 (List.headD (List.drop (List.length (dg (nval l)) - 1) (List.map dig (dg (nval l)))) U) (dig (List.getD (dg (nval l)) (List.length (dg (nval l)) - 1) 0)) (by kernel_rfl) (by simp (disch := omega) only [headD_dig]) (by kernel_rfl) ?_
    refine st_callr [dig (List.getD (dg (nval l)) (List.length (dg (nval l)) - 1) 0)] (by kernel_rfl) (by exact len32_c _ (digs_dg _ _)) ?_
    refine st_end0 [] [] [0, 7, 8, 9, 10, 11, 12, 13, 14, 15, 16, 17, 18, 19] (-9223372036854775808 ≤ (32 : Int) * (↑(List.length (dg (nval l)) - 1) : Int) + (↑(Lib.bitLen (List.getD (dg (nval l)) (List.length (dg (nval l)) - 1) 0)) : Int) ∧ (32 : Int) * (↑(List.length (dg (nval l)) - 1) : Int) + (↑(Lib.bitLen (List.getD (dg (nval l)) (List.length (dg (nval l)) - 1) 0)) : Int) ≤ 9223372036854775807) [(2, iD ((32 : Int) * (↑(List.length (dg (nval l)) - 1) : Int) + (↑(Lib.bitLen (List.getD (dg (nval l)) (List.length (dg (nval l)) - 1) 0)) : Int)))] (by kernel_rfl) (by omega) ?_
    refine awp_ret ?_
    refine ret_run (True) (iD ((32 : Int) * (↑(List.length (dg (nval l)) - 1) : Int) + (↑(Lib.bitLen (List.getD (dg (nval l)) (List.length (dg (nval l)) - 1) 0)) : Int))) (D.val (Value.int IntKind.i64 ((32 : Int) * (↑(List.length (dg (nval l)) - 1) : Int) + (↑(Lib.bitLen (List.getD (dg (nval l)) (List.length (dg (nval l)) - 1) 0)) : Int)))) (.inr rfl) (by kernel_rfl) trivial rfl ?_
    rotate_left
  · rw [hz (hz' (by omega))]; rfl
  · rw [← hb (by omega)]; congr 2
    first | done | omega
theorem u64_w (z : Int) : IntKind.u64.wrap z = z % 18446744073709551616 := by simp [IntKind.wrap, IntKind.signed, IntKind.bits]
theorem sub_val {x c y : Nat} (hx : x < 4294967296) (hy : y < 4294967296) (hc : c ≤ 1) : IntKind.u32.wrap (IntKind.u64.wrap (IntKind.u64.wrap ((x : Int) - (c : Int)) - (y : Int))) = (subD x c y : Nat) ∧ Int.fdiv (IntKind.u64.wrap (IntKind.u64.wrap ((x : Int) - (c : Int)) - (y : Int))) (2 ^ 63) = (subC x c y : Nat) := by
  rw [Int.fdiv_eq_ediv_of_nonneg _ (by decide), u64_w, u64_w]
  simp only [IntKind.wrap, IntKind.bits, IntKind.signed, Bool.false_and, Bool.false_eq_true, if_false]
  unfold subC subD
  split <;> omega
theorem sub_val0 {x c : Nat} (hx : x < 4294967296) (hc : c ≤ 1) : IntKind.u32.wrap (IntKind.u64.wrap ((x : Int) - (c : Int))) = (subD x c 0 : Nat) ∧ Int.fdiv (IntKind.u64.wrap ((x : Int) - (c : Int))) (2 ^ 63) = (subC x c 0 : Nat) := by
  rw [Int.fdiv_eq_ediv_of_nonneg _ (by decide), u64_w]
  simp only [IntKind.wrap, IntKind.bits, IntKind.signed, Bool.false_and, Bool.false_eq_true, if_false]
  unfold subC subD
  split <;> omega
theorem sub_lt (a b : List Nat) (n m : Nat) (hn : a.length = n) (hm : b.length = m) (hl : n ≤ 1000000) (hl' : m ≤ 1000000) (ha : Digs a) (hb : Digs b) (h : nval a < nval b) : Pure Tryz.prog 116 [.row (a.map dig) n, .row (b.map dig) m] [] (.tup [.row [] 0, iD 19]) := by
  subst hn hm
  have la := dg_len ha
  have lb := dg_len hb
  have hcm : cmpD (nval a : Nat) (nval b : Nat) = -1 := by unfold cmpD; rw [if_pos (by omega)]
  refine pure_of_awp Tz_ok mixed Tryz.func116 rfl ?_
  focus
    refine awp_seq (awp_region rfl ?_)
    refine st_end0 [] [] [] (True) [(4, nl), (5, iD 0)] (by kernel_rfl) trivial ?_
    refine awp_seq (awp_region rfl ?_)
    refine st_run0 1 [] [] (True) [(10, digR a)] (by kernel_rfl) trivial ?_
    refine st_callr [digR a] (by kernel_rfl) (by exact trim_c a _ rfl (by omega) ha) ?_
    refine st_run0 1 [] [] (True) [(12, digR b)] (by kernel_rfl) trivial ?_
    refine st_callr [digR b] (by kernel_rfl) (by exact trim_c b _ rfl (by omega) hb) ?_
    refine st_end0 [] [] [10, 11, 12, 13] (True) [(0, natD (nval a)), (1, natD (nval b))] (by kernel_rfl) trivial ?_
    refine awp_seq (awp_seq (awp_region rfl ?_))
    refine st_run0 2 [] [] (True) [(14, natD (nval a)), (15, natD (nval b))] (by kernel_rfl) trivial ?_
    refine st_callr [natD (nval a), natD (nval b)] (by kernel_rfl) (by exact cmp_c (dg (nval a)) (dg (nval b)) _ _ rfl rfl (by omega) (by omega) (digs_dg _) (digs_dg _)) ?_
    refine st_run0 1 [] [] (True) [(17, bD (decide (cmpD (↑(nval (dg (nval a))) : Int) (↑(nval (dg (nval b))) : Int) < 0)))] (by kernel_rfl) trivial ?_
    refine st_slot 17 (bD (decide (cmpD (↑(nval (dg (nval a))) : Int) (↑(nval (dg (nval b))) : Int) < 0))) (bD true) (by kernel_rfl) (by simp (disch := omega) only [nval_dg, Int.reduceNeg, Int.reduceLT, decide_true, hcm]) (by kernel_rfl) ?_
    refine st_end0 [] [] [14, 15, 16] (True) [] (by kernel_rfl) trivial ?_
    refine cond_t (t := true) (by kernel_rfl) rfl ?_
    refine awp_seq (awp_region rfl ?_)
    refine st_end0 [] [] [17] (True) [(5, iD 19)] (by kernel_rfl) trivial ?_
    refine awp_ret (then_ret ?_)
    refine ret_run (True) (D.tup [D.row [] 0, iD 19]) (D.tup [D.row [] 0, D.val (Value.int IntKind.i64 (19 : Int))]) (.inr rfl) (by kernel_rfl) trivial rfl rfl
set_option maxHeartbeats 2000000 in
theorem sub_ge (a b : List Nat) (n m : Nat) (hn : a.length = n) (hm : b.length = m) (hl : n ≤ 1000000) (hl' : m ≤ 1000000) (ha : Digs a) (hb : Digs b) (h : nval b ≤ nval a) : Pure Tryz.prog 116 [.row (a.map dig) n, .row (b.map dig) m] [] (.tup [natD (nval a - nval b), iD 0]) := by
  subst hn hm
  have la := dg_len ha
  have lb := dg_len hb
  have hcm : cmpD (nval a : Nat) (nval b : Nat) = 0 ∨ cmpD (nval a : Nat) (nval b : Nat) = 1 := by
    unfold cmpD; rw [if_neg (by omega)]; split <;> simp
  have hcm0 : ¬ cmpD (nval a : Nat) (nval b : Nat) < 0 := by omega
  have lab : (dg (nval b)).length ≤ (dg (nval a)).length := by
    refine Decidable.byContradiction fun k => ?_
    have := Normal.lt_of_length (digs_dg (nval a)) (normal_dg (nval b)) (by omega)
    rw [nval_dg, nval_dg] at this; omega
  refine pure_of_awp Tz_ok mixed Tryz.func116 rfl ?_
  have eA := nval_dg (nval a)
  have eB := nval_dg (nval b)
  focus
    refine awp_seq (awp_region rfl ?_)
    refine st_end0 [] [] [] (True) [(4, nl), (5, iD 0)] (by kernel_rfl) trivial ?_
    refine awp_seq (awp_region rfl ?_)
    refine st_run0 1 [] [] (True) [(10, digR a)] (by kernel_rfl) trivial ?_
    refine st_callr [digR a] (by kernel_rfl) (by exact trim_c a _ rfl (by omega) ha) ?_
    refine st_run0 1 [] [] (True) [(12, digR b)] (by kernel_rfl) trivial ?_
    refine st_callr [digR b] (by kernel_rfl) (by exact trim_c b _ rfl (by omega) hb) ?_
    refine st_end0 [] [] [10, 11, 12, 13] (True) [(0, natD (nval a)), (1, natD (nval b))] (by kernel_rfl) trivial ?_
    refine awp_seq (awp_seq (awp_region rfl ?_))
    refine st_run0 2 [] [] (True) [(14, natD (nval a)), (15, natD (nval b))] (by kernel_rfl) trivial ?_
    refine st_callr [natD (nval a), natD (nval b)] (by kernel_rfl) (by exact cmp_c (dg (nval a)) (dg (nval b)) _ _ rfl rfl (by omega) (by omega) (digs_dg _) (digs_dg _)) ?_
    refine st_run0 1 [] [] (True) [(17, bD (decide (cmpD (↑(nval (dg (nval a))) : Int) (↑(nval (dg (nval b))) : Int) < 0)))] (by kernel_rfl) trivial ?_
    refine st_slot 17 (bD (decide (cmpD (↑(nval (dg (nval a))) : Int) (↑(nval (dg (nval b))) : Int) < 0))) (bD (decide (cmpD (↑(nval a) : Int) (↑(nval b) : Int) < 0))) (by kernel_rfl) (by simp (disch := omega) only [nval_dg]) (by kernel_rfl) ?_
    refine st_end0 [] [] [14, 15, 16] (True) [] (by kernel_rfl) trivial ?_
    refine cond_f (t := decide (cmpD (↑(nval a) : Int) (↑(nval b) : Int) < 0)) (by kernel_rfl) (by exact decide_eq_false (by omega)) ?_
    refine awp_skip (then_normal (next_same (awp_seq (awp_region rfl ?_))))
    refine st_run 3 [] [] ((0 : Int) ≤ (↑(List.length (dg (nval a))) : Int) ∧ (↑(List.length (dg (nval a))) : Int) ≤ (↑(List.length (dg (nval a))) : Int) ∧ (↑(4 : Nat) : Int) * (↑(List.length (dg (nval a))) : Int) ≤ (281474976710656 : Int) ∧ (↑(List.length (dg (nval a))) : Int) ≤ (281474976710656 : Int) ∧ 0 < 1 ∧ 1 = 1) [(18, natD (nval a)), (19, iD (↑(List.length (dg (nval a))) : Int)), (20, D.osl 0 0 (Int.toNat (↑(List.length (dg (nval a))) : Int)) (Int.toNat (↑(List.length (dg (nval a))) : Int) * 1) true)] [Bk.mk (repL (Int.toNat (↑(List.length (dg (nval a))) : Int)) [D.val (Value.int IntKind.u32 (0 : Int))]) 144 1 true false] (by kernel_rfl) (by omega) ?_
    refine st_blk 0 (Bk.mk (repL (Int.toNat (↑(List.length (dg (nval a))) : Int)) [D.val (Value.int IntKind.u32 (0 : Int))]) 144 1 true false) (Bk.mk (List.map dig (List.replicate (List.length (dg (nval a))) 0)) 144 1 true false) (by kernel_rfl) (by simp (disch := omega) only [Int.toNat_natCast, repL_dig]) ?_
    refine st_run0 1 [] [] (True) [(6, D.osl 0 0 (Int.toNat (↑(List.length (dg (nval a))) : Int)) (Int.toNat (↑(List.length (dg (nval a))) : Int) * 1) true)] (by kernel_rfl) trivial ?_
    refine st_slot 6 (D.osl 0 0 (Int.toNat (↑(List.length (dg (nval a))) : Int)) (Int.toNat (↑(List.length (dg (nval a))) : Int) * 1) true) (D.osl 0 0 (List.length (dg (nval a))) (List.length (dg (nval a))) true) (by kernel_rfl) (by simp (disch := omega) only [Int.toNat_natCast, Nat.mul_one]) (by kernel_rfl) ?_
    refine st_end0 [] [] [17, 18, 19, 20] (True) [] (by kernel_rfl) trivial ?_
    refine awp_seq (awp_region rfl ?_)
    refine st_end0 [] [] [] (True) [(7, D.val (Value.int IntKind.u64 (0 : Int)))] (by kernel_rfl) trivial ?_
    refine awp_seq (awp_seq (awp_region rfl ?_))
    refine st_end0 [] [] [21] (True) [(22, iD (↑(List.length (dg (nval a))) : Int)), (23, iD 0)] (by kernel_rfl) trivial ?_
    refine awp_block ?_
    rotate_left
  have dA : Digs (dg (nval a)) := digs_dg _
  have dB : Digs (dg (nval b)) := digs_dg _
  generalize dg (nval a) = A at *
  generalize dg (nval b) = B at *
  refine awp_loop3 (fun (k c : Nat) (cur : List Nat) => [digR A, digR B, U, U, nl, iD 0, D.osl 0 0 (List.length A) (List.length A) true, D.val (Value.int IntKind.u64 (↑c : Int)), U, U, U, U, U, U, U, U, U, U, U, U, U, U, iD (↑(List.length A) : Int), iD (↑k : Int), U, U, U, U, U, U, U, U, U, U, U, U, U, U, U, U, U, U, U, U, U, U, U, U, U, U, U, U, U, U]) (fun k c cur => [⟨cur.map dig, 144, 1, true, false⟩]) (fun k c cur => A.length - k) (fun k c cur => k ≤ A.length ∧ c ≤ 1 ∧ cur.length = A.length ∧ Digs cur ∧ nval (A.take k) + 4294967296 ^ k * c = nval (cur.take k) + nval (B.take k)) 0 0 (List.replicate A.length 0) ?_ ?_ ?_
  · exact ⟨by simp, by simp, by simp, Digs.replicate _, by simp [nval]⟩
  · refine weak_run [(0, 1), (1, 1), (4, 1), (5, 1), (6, 1), (7, 1), (22, 1), (23, 1)] (digR A = digR A ∧ digR B = digR B ∧ nl = nl ∧ iD 0 = iD 0 ∧ D.osl 0 0 (List.length A) (List.length A) true = D.osl 0 0 (List.length A) (List.length A) true ∧ D.val (Value.int IntKind.u64 (0 : Int)) = D.val (Value.int IntKind.u64 (↑(0 : Nat) : Int)) ∧ iD (↑(List.length A) : Int) = iD (↑(List.length A) : Int) ∧ iD 0 = iD (↑(0 : Nat) : Int)) 1 [] (by kernel_rfl) ⟨rfl, rfl, rfl, rfl, rfl, (by kernel_rfl), rfl, (by kernel_rfl)⟩ (by kernel_rfl) (fun _ _ => rfl) (by kernel_rfl)
  rintro k c cur ⟨h1, h2, h3, h4, h5⟩
  have hx := dA k
  have hy := dB k
  obtain ⟨v1, v2⟩ := sub_val hx hy h2
  obtain ⟨v3, v4⟩ := sub_val0 hx h2
  obtain ⟨d1, d2, d3⟩ := sub_dig hx hy h2
  obtain ⟨e1, e2, e3⟩ := sub_dig (y := 0) hx (by omega) h2
  focus
    refine awp_seq (awp_region rfl ?_)
    refine st_end0 [] [] [] (True) [(24, bD (decide ((↑k : Int) < (↑(List.length A) : Int))))] (by kernel_rfl) trivial ?_
    refine awp_seq ?_
    refine awp_cond (t := decide ((↑k : Int) < (↑(List.length A) : Int))) (by kernel_rfl) (fun hc => ?_) (fun hc => ?_)
    simp only [decide_eq_true_eq] at hc
    refine awp_skip (then_normal (next_same (awp_seq (awp_block (awp_seq (awp_region rfl ?_))))))
    refine st_end0 [] [] [24, 25] (True) [(8, iD (↑k : Int))] (by kernel_rfl) trivial ?_
    refine awp_seq (awp_region rfl ?_)
    refine st_run0 3 [] [] ((0 : Int) ≤ (↑k : Int) ∧ (↑k : Int) < (↑(List.length A) : Int) ∧ List.map dig A ≠ []) [(26, digR A), (27, iD (↑k : Int)), (28, D.ptr (List.drop (Int.toNat (↑k : Int) * 1) (List.map dig A)))] (by kernel_rfl) ⟨(by omega), ⟨(by omega), (by exact map_ne (by omega))⟩⟩ ?_
    refine st_slot 28 (D.ptr (List.drop (Int.toNat (↑k : Int) * 1) (List.map dig A))) (D.ptr (List.drop k (List.map dig A))) (by kernel_rfl) (by simp (disch := omega) only [Int.toNat_natCast, Nat.mul_one]) (by kernel_rfl) ?_
    refine st_run0 1 [] [] (0 < List.length (List.drop k (List.map dig A))) [(29, List.headD (List.drop k (List.map dig A)) U)] (by kernel_rfl) (by (simp; omega)) ?_
    refine st_slot 29 (List.headD (List.drop k (List.map dig A)) U) (dig (List.getD A k 0)) (by kernel_rfl) (by simp (disch := omega) only [headD_dig]) (by kernel_rfl) ?_
    refine st_end0 [32] [] [26, 27, 28, 29, 30, 31, 32] (((0 : Int) ≤ (↑(List.getD A k 0) : Int) ∧ (↑(List.getD A k 0) : Int) ≤ (18446744073709551615 : Int)) ∧ True) [(9, D.val (Value.int IntKind.u64 (IntKind.wrap IntKind.u64 ((↑(List.getD A k 0) : Int) - (↑c : Int)))))] (by kernel_rfl) ⟨(by omega), trivial⟩ ?_
    refine awp_seq (awp_seq (awp_region rfl ?_))
    refine st_end0 [] [] [33, 34, 35] (True) [(36, bD (decide ((↑k : Int) < (↑(List.length B) : Int))))] (by kernel_rfl) trivial ?_
    refine awp_cond (t := decide ((↑k : Int) < (↑(List.length B) : Int))) (by kernel_rfl) (fun hc => ?_) (fun hc => ?_)
    simp only [decide_eq_true_eq] at hc
    refine awp_region rfl ?_
    refine st_run0 4 [] [] ((0 : Int) ≤ (↑k : Int) ∧ (↑k : Int) < (↑(List.length B) : Int) ∧ List.map dig B ≠ []) [(37, D.val (Value.int IntKind.u64 (IntKind.wrap IntKind.u64 ((↑(List.getD A k 0) : Int) - (↑c : Int))))), (38, digR B), (39, iD (↑k : Int)), (40, D.ptr (List.drop (Int.toNat (↑k : Int) * 1) (List.map dig B)))] (by kernel_rfl) ⟨(by omega), ⟨(by omega), (by exact map_ne (by omega))⟩⟩ ?_
    refine st_slot 40 (D.ptr (List.drop (Int.toNat (↑k : Int) * 1) (List.map dig B))) (D.ptr (List.drop k (List.map dig B))) (by kernel_rfl) (by simp (disch := omega) only [Int.toNat_natCast, Nat.mul_one]) (by kernel_rfl) ?_
    refine st_run0 1 [] [] (0 < List.length (List.drop k (List.map dig B))) [(41, List.headD (List.drop k (List.map dig B)) U)] (by kernel_rfl) (by (simp; omega)) ?_
    refine st_slot 41 (List.headD (List.drop k (List.map dig B)) U) (dig (List.getD B k 0)) (by kernel_rfl) (by simp (disch := omega) only [headD_dig]) (by kernel_rfl) ?_
    refine st_end0 [43] [] [36, 37, 38, 39, 40, 41, 42, 43] (((0 : Int) ≤ (↑(List.getD B k 0) : Int) ∧ (↑(List.getD B k 0) : Int) ≤ (18446744073709551615 : Int)) ∧ True) [(9, D.val (Value.int IntKind.u64 (IntKind.wrap IntKind.u64 (IntKind.wrap IntKind.u64 ((↑(List.getD A k 0) : Int) - (↑c : Int)) - (↑(List.getD B k 0) : Int)))))] (by kernel_rfl) ⟨(by omega), trivial⟩ ?_
    refine awp_seq (awp_region rfl ?_)
    refine st_run0 4 [47] [] (True) [(44, D.osl 0 0 (List.length A) (List.length A) true), (45, iD (↑k : Int)), (46, D.val (Value.int IntKind.u64 (IntKind.wrap IntKind.u64 (IntKind.wrap IntKind.u64 ((↑(List.getD A k 0) : Int) - (↑c : Int)) - (↑(List.getD B k 0) : Int))))), (47, D.val (Value.int IntKind.u32 (IntKind.wrap IntKind.u32 (IntKind.wrap IntKind.u64 (IntKind.wrap IntKind.u64 ((↑(List.getD A k 0) : Int) - (↑c : Int)) - (↑(List.getD B k 0) : Int))))))] (by kernel_rfl) trivial ?_
    refine st_slot 47 (D.val (Value.int IntKind.u32 (IntKind.wrap IntKind.u32 (IntKind.wrap IntKind.u64 (IntKind.wrap IntKind.u64 ((↑(List.getD A k 0) : Int) - (↑c : Int)) - (↑(List.getD B k 0) : Int)))))) (dig (subD (List.getD A k 0) c (List.getD B k 0))) (by kernel_rfl) (by simp (disch := omega) only [v1]) (by kernel_rfl) ?_
    refine st_run0 1 [] [] ((0 : Int) ≤ (↑k : Int) ∧ (↑k : Int) < (↑(List.length A) : Int)) [(48, D.own 0 (0 + Int.toNat (↑k : Int) * 1))] (by kernel_rfl) (by omega) ?_
    refine st_slot 48 (D.own 0 (0 + Int.toNat (↑k : Int) * 1)) (D.own 0 k) (by kernel_rfl) (by simp (disch := omega) only [Int.toNat_natCast, Nat.mul_one, Nat.zero_add]) (by kernel_rfl) ?_
    refine st_run 1 [] [] (false = false ∧ true = true ∧ 1 = 1 ∧ k + 1 ≤ List.length (List.map dig cur) ∧ ¬0 ∈ []) [] [Bk.mk (setAt (List.map dig cur) k (cellsOf (dig (subD (List.getD A k 0) c (List.getD B k 0))))) 144 1 true false] (by kernel_rfl) ⟨(by kernel_rfl), ⟨(by kernel_rfl), ⟨(by kernel_rfl), ⟨(by (simp; omega)), (by decide)⟩⟩⟩⟩ ?_
    refine st_blk 0 (Bk.mk (setAt (List.map dig cur) k (cellsOf (dig (subD (List.getD A k 0) c (List.getD B k 0))))) 144 1 true false) (Bk.mk (List.map dig (List.set cur k (subD (List.getD A k 0) c (List.getD B k 0)))) 144 1 true false) (by kernel_rfl) (by simp (disch := omega) only [cellsOf, setAt, set_dig]) ?_
    refine st_end0 [] [] [8, 44, 45, 46, 47, 48] (True) [] (by kernel_rfl) trivial ?_
    refine awp_region rfl ?_
    refine st_run0 2 [] [] ((0 : Int) ≤ (63 : Int)) [(49, D.val (Value.int IntKind.u64 (IntKind.wrap IntKind.u64 (IntKind.wrap IntKind.u64 ((↑(List.getD A k 0) : Int) - (↑c : Int)) - (↑(List.getD B k 0) : Int))))), (50, D.val (Value.int IntKind.u64 (Int.fdiv (IntKind.wrap IntKind.u64 (IntKind.wrap IntKind.u64 ((↑(List.getD A k 0) : Int) - (↑c : Int)) - (↑(List.getD B k 0) : Int))) ((2 : Int) ^ 63))))] (by kernel_rfl) (by omega) ?_
    refine st_slot 50 (D.val (Value.int IntKind.u64 (Int.fdiv (IntKind.wrap IntKind.u64 (IntKind.wrap IntKind.u64 ((↑(List.getD A k 0) : Int) - (↑c : Int)) - (↑(List.getD B k 0) : Int))) ((2 : Int) ^ 63)))) (D.val (Value.int IntKind.u64 (↑(subC (List.getD A k 0) c (List.getD B k 0)) : Int))) (by kernel_rfl) (by simp (disch := omega) only [v2]) (by kernel_rfl) ?_
    refine st_run0 1 [] [] (True) [(7, D.val (Value.int IntKind.u64 (↑(subC (List.getD A k 0) c (List.getD B k 0)) : Int)))] (by kernel_rfl) trivial ?_
    refine st_nil ?_ (by kernel_rfl)
    refine block_normal (then_normal (next_same (awp_region rfl ?_)))
    refine st_run0 1 [] [] (-9223372036854775808 ≤ (↑k : Int) + (1 : Int) ∧ (↑k : Int) + (1 : Int) ≤ 9223372036854775807) [(51, iD ((↑k : Int) + (1 : Int)))] (by kernel_rfl) (by omega) ?_
    refine st_slot 51 (iD ((↑k : Int) + (1 : Int))) (iD (↑(k + 1) : Int)) (by kernel_rfl) (by simp (disch := omega) only [cast_add1]) (by kernel_rfl) ?_
    refine st_run0 1 [] [] (True) [(23, iD (↑(k + 1) : Int))] (by kernel_rfl) trivial ?_
    refine st_nil ?_ (by kernel_rfl)
    refine then_normal ?_
    rotate_left
    simp only [decide_eq_false_iff_not] at hc
    refine awp_skip (then_normal (next_same (awp_seq (awp_region rfl ?_))))
    refine st_run0 4 [47] [] (True) [(44, D.osl 0 0 (List.length A) (List.length A) true), (45, iD (↑k : Int)), (46, D.val (Value.int IntKind.u64 (IntKind.wrap IntKind.u64 ((↑(List.getD A k 0) : Int) - (↑c : Int))))), (47, D.val (Value.int IntKind.u32 (IntKind.wrap IntKind.u32 (IntKind.wrap IntKind.u64 ((↑(List.getD A k 0) : Int) - (↑c : Int))))))] (by kernel_rfl) trivial ?_
    refine st_slot 47 (D.val (Value.int IntKind.u32 (IntKind.wrap IntKind.u32 (IntKind.wrap IntKind.u64 ((↑(List.getD A k 0) : Int) - (↑c : Int)))))) (dig (subD (List.getD A k 0) c 0)) (by kernel_rfl) (by simp (disch := omega) only [v3]) (by kernel_rfl) ?_
    refine st_run0 1 [] [] ((0 : Int) ≤ (↑k : Int) ∧ (↑k : Int) < (↑(List.length A) : Int)) [(48, D.own 0 (0 + Int.toNat (↑k : Int) * 1))] (by kernel_rfl) (by omega) ?_
    refine st_slot 48 (D.own 0 (0 + Int.toNat (↑k : Int) * 1)) (D.own 0 k) (by kernel_rfl) (by simp (disch := omega) only [Int.toNat_natCast, Nat.mul_one, Nat.zero_add]) (by kernel_rfl) ?_
    refine st_run 1 [] [] (false = false ∧ true = true ∧ 1 = 1 ∧ k + 1 ≤ List.length (List.map dig cur) ∧ ¬0 ∈ []) [] [Bk.mk (setAt (List.map dig cur) k (cellsOf (dig (subD (List.getD A k 0) c 0)))) 144 1 true false] (by kernel_rfl) ⟨(by kernel_rfl), ⟨(by kernel_rfl), ⟨(by kernel_rfl), ⟨(by (simp; omega)), (by decide)⟩⟩⟩⟩ ?_
    refine st_blk 0 (Bk.mk (setAt (List.map dig cur) k (cellsOf (dig (subD (List.getD A k 0) c 0)))) 144 1 true false) (Bk.mk (List.map dig (List.set cur k (subD (List.getD A k 0) c 0))) 144 1 true false) (by kernel_rfl) (by simp (disch := omega) only [cellsOf, setAt, set_dig]) ?_
    refine st_end0 [] [] [8, 36, 44, 45, 46, 47, 48] (True) [] (by kernel_rfl) trivial ?_
    refine awp_region rfl ?_
    refine st_run0 2 [] [] ((0 : Int) ≤ (63 : Int)) [(49, D.val (Value.int IntKind.u64 (IntKind.wrap IntKind.u64 ((↑(List.getD A k 0) : Int) - (↑c : Int))))), (50, D.val (Value.int IntKind.u64 (Int.fdiv (IntKind.wrap IntKind.u64 ((↑(List.getD A k 0) : Int) - (↑c : Int))) ((2 : Int) ^ 63))))] (by kernel_rfl) (by omega) ?_
    refine st_slot 50 (D.val (Value.int IntKind.u64 (Int.fdiv (IntKind.wrap IntKind.u64 ((↑(List.getD A k 0) : Int) - (↑c : Int))) ((2 : Int) ^ 63)))) (D.val (Value.int IntKind.u64 (↑(subC (List.getD A k 0) c 0) : Int))) (by kernel_rfl) (by simp (disch := omega) only [v4]) (by kernel_rfl) ?_
    refine st_run0 1 [] [] (True) [(7, D.val (Value.int IntKind.u64 (↑(subC (List.getD A k 0) c 0) : Int)))] (by kernel_rfl) trivial ?_
    refine st_nil ?_ (by kernel_rfl)
    refine block_normal (then_normal (next_same (awp_region rfl ?_)))
    refine st_run0 1 [] [] (-9223372036854775808 ≤ (↑k : Int) + (1 : Int) ∧ (↑k : Int) + (1 : Int) ≤ 9223372036854775807) [(51, iD ((↑k : Int) + (1 : Int)))] (by kernel_rfl) (by omega) ?_
    refine st_slot 51 (iD ((↑k : Int) + (1 : Int))) (iD (↑(k + 1) : Int)) (by kernel_rfl) (by simp (disch := omega) only [cast_add1]) (by kernel_rfl) ?_
    refine st_run0 1 [] [] (True) [(23, iD (↑(k + 1) : Int))] (by kernel_rfl) trivial ?_
    refine st_nil ?_ (by kernel_rfl)
    refine then_normal ?_
    rotate_left
    simp only [decide_eq_false_iff_not] at hc
    refine awp_exit (then_exit (then_exit (block_hit rfl (then_normal (next_same (awp_seq (awp_region rfl ?_)))))))
    refine st_run0 1 [] [] (True) [(52, D.osl 0 0 (List.length A) (List.length A) true)] (by kernel_rfl) trivial ?_
    refine st_call [] [] [D.row (List.take (List.length A) (List.drop 0 (List.map dig cur))) (List.length A)] [Bk.mk (List.map dig cur) (144 : TypeId) 1 true true] [D.row (List.map dig (List.take (List.length A) cur)) (List.length A)] (by kernel_rfl) trivial (LeL.of_eq (by simp (disch := omega) only [List.drop_zero, take_dig])) (by exact trim_c _ _ (by simp; omega) (by omega) (h4.take _)) ?_
    refine st_end0 [] [] [0, 1, 6, 7, 22, 23, 24, 52, 53] (True) [(4, natD (nval (List.take (List.length A) cur)))] (by kernel_rfl) trivial ?_
    refine awp_ret ?_
    refine ret_run (True) (D.tup [natD (nval (List.take (List.length A) cur)), iD 0]) (D.tup [natD (nval (List.take (List.length A) cur)), D.val (Value.int IntKind.i64 (0 : Int))]) (.inr rfl) (by kernel_rfl) trivial rfl ?_
    rotate_left
  · refine ⟨k + 1, subC (A.getD k 0) c (B.getD k 0), cur.set k (subD (A.getD k 0) c (B.getD k 0)), ⟨by omega, d2, by simpa using h3, h4.set _ _ (by omega) d3, sub_step dA dB (by omega) h2 h5⟩, by omega, ?_⟩
    refine weak_run [(0, 1), (1, 1), (4, 1), (5, 1), (6, 1), (7, 1), (22, 1), (23, 1)] (digR A = digR A ∧ digR B = digR B ∧ nl = nl ∧ iD 0 = iD 0 ∧ D.osl 0 0 (List.length A) (List.length A) true = D.osl 0 0 (List.length A) (List.length A) true ∧ D.val (Value.int IntKind.u64 (↑(subC (List.getD A k 0) c (List.getD B k 0)) : Int)) = D.val (Value.int IntKind.u64 (↑(subC (List.getD A k 0) c (List.getD B k 0)) : Int)) ∧ iD (↑(List.length A) : Int) = iD (↑(List.length A) : Int) ∧ iD (↑(k + 1) : Int) = iD (↑(k + 1) : Int)) 1 [] (by kernel_rfl) ⟨rfl, rfl, rfl, rfl, rfl, rfl, rfl, rfl⟩ (by kernel_rfl) (fun _ _ => rfl) (by kernel_rfl)
  · have e0 : B.getD k 0 = 0 := by rw [List.getD_eq_getElem?_getD, List.getElem?_eq_none (by omega)]; rfl
    have st := sub_step (k := k) dA dB (by omega) h2 h5
    rw [e0] at st
    refine ⟨k + 1, subC (A.getD k 0) c 0, cur.set k (subD (A.getD k 0) c 0), ⟨by omega, e2, by simpa using h3, h4.set _ _ (by omega) e3, st⟩, by omega, ?_⟩
    refine weak_run [(0, 1), (1, 1), (4, 1), (5, 1), (6, 1), (7, 1), (22, 1), (23, 1)] (digR A = digR A ∧ digR B = digR B ∧ nl = nl ∧ iD 0 = iD 0 ∧ D.osl 0 0 (List.length A) (List.length A) true = D.osl 0 0 (List.length A) (List.length A) true ∧ D.val (Value.int IntKind.u64 (↑(subC (List.getD A k 0) c 0) : Int)) = D.val (Value.int IntKind.u64 (↑(subC (List.getD A k 0) c 0) : Int)) ∧ iD (↑(List.length A) : Int) = iD (↑(List.length A) : Int) ∧ iD (↑(k + 1) : Int) = iD (↑(k + 1) : Int)) 1 [] (by kernel_rfl) ⟨rfl, rfl, rfl, rfl, rfl, rfl, rfl, rfl⟩ (by kernel_rfl) (fun _ _ => rfl) (by kernel_rfl)
  · have ek : k = A.length := by omega
    subst ek
    have := sub_end h3 (by omega) (by omega) h4 h5
    rw [List.take_of_length_le (by omega), this, eA, eB]
end Go.Proofs.YtgbhoceamcomfaaGreat

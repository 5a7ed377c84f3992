/- Texts of this claim, joined: Dn Dk Dsc Dva Dwt -/
import Derived.Test.YtjcofbkhoeockaaGreatDoorM04
import Derived.Test.YtjcofbkhoeockaaGreatDoorShelf
set_option linter.unusedVariables false
set_option linter.unusedSimpArgs false
namespace Go.Proofs.YtjcofbkhoeockaaGreatDoor
section
open Go.RowKit
attribute [local irreducible] seqW awp zA3 zCo zBd Weak updS zB0 retL Pure Acts
set_option maxRecDepth 4096
set_option maxHeartbeats 1000000 in
theorem zEg (l : List Nat) (n : Nat) (hn : l.length = n) (hl : n ≤ 1000000000) (hd : Digs l) : Pure Tryz.prog 55 [.row (l.map dig) n] [] (natD (nval l)) := by
 subst hn
 refine zP zAo mixed Tryz.func55 rfl ?_
 focus
  refine zB (zA rfl ?_)
  refine zG [] [(2, nl)] ?_
  refine zB (zA rfl ?_)
  refine zG [4, 5] [(3, iD (↑(List.length l) : Int))] ?_
  refine zB (zE ?_)
  rotate_left
 refine zC0 (fun (n : Nat) => [digR l, U, nl, iD ↑n, U, U, U, U, U, U, U, U, U, U, U, U, U, U, U, U, U, U]) (fun _ => []) (fun n => n) (fun n => n ≤ l.length ∧ zBv l n = zBv l l.length) l.length ?_ ?_ ?_
 ·exact ⟨Nat.le_refl _, rfl⟩
 ·refine zAp [(0, 1), (2, 1), (3, 1)] (digR l = digR l ∧ nl = nl ∧ iD (↑(List.length l) : Int) = iD (↑(List.length l) : Int)) 0 [] (by kernel_rfl) ⟨rfl, rfl, rfl⟩ (by kernel_rfl) (fun _ _ => rfl) (by kernel_rfl)
 rintro n ⟨h1, h2⟩
 focus
  refine zB (zB (zA rfl ?_))
  refine zAi 3 [(6, iD ↑n), (7, bD (decide ((↑n : Int) > (0 : Int)))), (8, bD (decide ((↑n : Int) > (0 : Int))))] ?_
  refine zKo 8 (decide ((↑n : Int) > (0 : Int))) (by kernel_rfl) (fun hc => ?_) (fun hc => ?_)
  simp only [decide_eq_true_eq] at hc
  refine zF 3 [] [] (-9223372036854775808 ≤ (↑n : Int) - (1 : Int) ∧ (↑n : Int) - (1 : Int) ≤ 9223372036854775807) [(9, digR l), (10, iD ↑n), (11, iD ((↑n : Int) - (1 : Int)))] (by kernel_rfl) (by omega) ?_
  refine zY 11 (iD ((↑n : Int) - (1 : Int))) (iD (↑(n - 1) : Int)) (by kernel_rfl) (by simp (disch := omega) only [zCw]) (by kernel_rfl) ?_
  refine zF 1 [] [] ((0 : Int) ≤ (↑(n - 1) : Int) ∧ (↑(n - 1) : Int) < (↑(List.length l) : Int) ∧ List.map dig l ≠ []) [(12, D.ptr (List.drop (Int.toNat (↑(n - 1) : Int) * 1) (List.map dig l)))] (by kernel_rfl) ⟨(by omega), ⟨(by omega), (by exact zDm (by omega))⟩⟩ ?_
  refine zY 12 (D.ptr (List.drop (Int.toNat (↑(n - 1) : Int) * 1) (List.map dig l))) (D.ptr (List.drop (n - 1) (List.map dig l))) (by kernel_rfl) (by simp (disch := omega) only [Int.toNat_natCast, Nat.mul_one]) (by kernel_rfl) ?_
  refine zF 1 [] [] (0 < List.length (List.drop (n - 1) (List.map dig l))) [(13, List.headD (List.drop (n - 1) (List.map dig l)) U)] (by kernel_rfl) (by (simp; omega)) ?_
  refine zY 13 (List.headD (List.drop (n - 1) (List.map dig l)) U) (dig (List.getD l (n - 1) 0)) (by kernel_rfl) (by simp (disch := omega) only [zBg]) (by kernel_rfl) ?_
  refine zG [6, 7, 8, 9, 10, 11, 12, 13, 14] [(15, bD ((↑(List.getD l (n - 1) 0) : Int) == (0 : Int)))] ?_
  refine zAm (t := (↑(List.getD l (n - 1) 0) : Int) == (0 : Int)) (by kernel_rfl) (fun hc => ?_) (fun hc => ?_)
  simp only [beq_iff_eq] at hc
  refine zJ (zC (zD (zE (zA rfl ?_))))
  refine zF 2 [] [] (-9223372036854775808 ≤ (↑n : Int) - (1 : Int) ∧ (↑n : Int) - (1 : Int) ≤ 9223372036854775807) [(16, iD ↑n), (17, iD ((↑n : Int) - (1 : Int)))] (by kernel_rfl) (by omega) ?_
  refine zY 17 (iD ((↑n : Int) - (1 : Int))) (iD (↑(n - 1) : Int)) (by kernel_rfl) (by simp (disch := omega) only [zCw]) (by kernel_rfl) ?_
  refine zAi 1 [(3, iD (↑(n - 1) : Int))] ?_
  refine zAb ?_ (by kernel_rfl)
  refine zL (zC ?_)
  rotate_left
  simp only [beq_eq_false_iff_ne] at hc
  refine zAc (zK (zK (zV rfl (zC (zD (zB (zA rfl ?_)))))))
  refine zF 4 [] [] (True ∧ (0 : Int) ≤ (↑n : Int) ∧ (0 : Int) ≤ (↑n : Int) ∧ 0 < 1 ∧ 0 ≤ Int.toNat (↑n : Int) ∧ Int.toNat (↑n : Int) ≤ List.length l ∧ Int.toNat (↑n : Int) = Int.toNat (↑n : Int)) [(18, digR l), (19, iD ↑n), (20, iD ↑n), (21, D.row (List.take ((Int.toNat (↑n : Int) - 0) * 1) (List.drop 0 (List.map dig l))) (Int.toNat (↑n : Int) - 0))] (by kernel_rfl) ⟨trivial, (by omega)⟩ ?_
  refine zY 21 (D.row (List.take ((Int.toNat (↑n : Int) - 0) * 1) (List.drop 0 (List.map dig l))) (Int.toNat (↑n : Int) - 0)) (D.row (List.map dig (List.take n l)) n) (by kernel_rfl) (by simp (disch := omega) only [Int.toNat_natCast, Nat.sub_zero, Nat.mul_one, List.drop_zero, zFm]) (by kernel_rfl) ?_
  refine zG [0, 3, 15, 18, 19, 20, 21] [(2, D.row (List.map dig (List.take n l)) n)] ?_
  refine zW ?_
  refine zZ (True) (D.row (List.map dig (List.take n l)) n) (D.row (List.map dig (List.take n l)) n) (.inr rfl) (by kernel_rfl) trivial rfl ?_
  rotate_left
  simp only [decide_eq_false_iff_not] at hc
  refine zG [6, 7, 8, 9, 10, 11, 12, 13, 14] [(15, bD false)] ?_
  refine zS ?_
  refine zAc (zK (zK (zV rfl (zC (zD (zB (zA rfl ?_)))))))
  refine zF 4 [] [] (True ∧ (0 : Int) ≤ (↑n : Int) ∧ (0 : Int) ≤ (↑n : Int) ∧ 0 < 1 ∧ 0 ≤ Int.toNat (↑n : Int) ∧ Int.toNat (↑n : Int) ≤ List.length l ∧ Int.toNat (↑n : Int) = Int.toNat (↑n : Int)) [(18, digR l), (19, iD ↑n), (20, iD ↑n), (21, D.row (List.take ((Int.toNat (↑n : Int) - 0) * 1) (List.drop 0 (List.map dig l))) (Int.toNat (↑n : Int) - 0))] (by kernel_rfl) ⟨trivial, (by omega)⟩ ?_
  refine zY 21 (D.row (List.take ((Int.toNat (↑n : Int) - 0) * 1) (List.drop 0 (List.map dig l))) (Int.toNat (↑n : Int) - 0)) (D.row (List.map dig (List.take n l)) n) (by kernel_rfl) (by simp (disch := omega) only [Int.toNat_natCast, Nat.sub_zero, Nat.mul_one, List.drop_zero, zFm]) (by kernel_rfl) ?_
  refine zG [0, 3, 15, 18, 19, 20, 21] [(2, D.row (List.map dig (List.take n l)) n)] ?_
  refine zW ?_
  refine zZ (True) (D.row (List.map dig (List.take n l)) n) (D.row (List.map dig (List.take n l)) n) (.inr rfl) (by kernel_rfl) trivial rfl ?_
  rotate_left
 ·refine ⟨n - 1, ⟨by omega, ?_⟩, by omega, ?_⟩
  ·rw [← h2]
   obtain ⟨m, rfl⟩ : ∃ m, n = m + 1 := ⟨n - 1, by omega⟩
   simp only [zBv]
   rw [if_pos (by simpa using hc)]; simp
  ·refine zAp [(0, 1), (2, 1), (3, 1)] (digR l = digR l ∧ nl = nl ∧ iD (↑(n - 1) : Int) = iD (↑(n - 1) : Int)) 0 [] (by kernel_rfl) ⟨rfl, rfl, rfl⟩ (by kernel_rfl) (fun _ _ => rfl) (by kernel_rfl)
 all_goals
  have e : n = zBv l l.length := by
   rw [← h2]
   cases n with
   | zero => rfl
   | succ m =>
    simp only [zBv]
    rw [if_neg (by first | omega | simpa using hc)]
  have e2 : (dg (nval l)).length = n := by rw [← zKl hd, List.length_take, Nat.min_eq_left (zJ0 _ _), e]
  rw [natD, digR, e2, e, zKl hd]
theorem of_c (n : Nat) (hn : n < 18446744073709551616) : Pure Tryz.prog 36 [.val (.int .u64 n)] [] (natD n) := by
 refine zP zAo mixed Tryz.func36 rfl ?_
 focus
  refine zB (zA rfl ?_)
  refine zG [] [(2, nl)] ?_
  refine zB (zA rfl ?_)
  refine zF 2 [4] [] (True) [(3, D.val (Value.int IntKind.u64 (↑n : Int))), (4, D.val (Value.int IntKind.u32 (IntKind.wrap IntKind.u32 (↑n : Int))))] (by kernel_rfl) trivial ?_
  refine zY 4 (D.val (Value.int IntKind.u32 (IntKind.wrap IntKind.u32 (↑n : Int)))) (dig (n % 4294967296)) (by kernel_rfl) (by simp (disch := omega) only [zBq]) (by kernel_rfl) ?_
  refine zF 2 [] [] ((0 : Int) ≤ (32 : Int)) [(5, D.val (Value.int IntKind.u64 (↑n : Int))), (6, D.val (Value.int IntKind.u64 (Int.fdiv (↑n : Int) ((2 : Int) ^ 32))))] (by kernel_rfl) (by omega) ?_
  refine zY 6 (D.val (Value.int IntKind.u64 (Int.fdiv (↑n : Int) ((2 : Int) ^ 32)))) (D.val (Value.int IntKind.u64 (↑(n / 4294967296) : Int))) (by kernel_rfl) (by simp (disch := omega) only [zGd]) (by kernel_rfl) ?_
  refine zAg 2 [] [] (((0 : Int) ≤ (↑(n / 4294967296) : Int) ∧ (↑(n / 4294967296) : Int) ≤ (4294967295 : Int)) ∧ (1 = 1 ∧ 1 ≤ 2 ∧ 1 = 1 ∧ 2 ≤ 2 ∧ True) ∧ 0 < 1 ∧ 1 = 1 ∧ 2 ≤ 16777216 ∧ 2 ≤ 9223372036854775807) [(7, dig (n / 4294967296)), (8, D.osl 0 0 2 2 true)] [] [Bk.mk [dig (n % 4294967296), dig (n / 4294967296)] 36 1 true false Kd.plain] (by kernel_rfl) ⟨(by omega), ⟨⟨(by kernel_rfl), ⟨(by omega), ⟨(by kernel_rfl), ⟨(by omega), trivial⟩⟩⟩⟩, (by omega)⟩⟩ ?_
  refine zAq [D.row [dig (n % 4294967296), dig (n / 4294967296)] 2] [0] [D.row [dig (n % 4294967296), dig (n / 4294967296)] 2] (by kernel_rfl) (LeL.refl _) (by exact zEg [n % 4294967296, n / 4294967296] 2 rfl (by omega) (Digs.mk (by omega) (Digs.mk (by omega) Digs.nil))) ?_
  refine zG [0, 3, 4, 5, 6, 7, 8, 9] [(2, natD (nval [n % 4294967296, n / 4294967296]))] ?_
  refine zW ?_
  refine zZ (True) (natD (nval [n % 4294967296, n / 4294967296])) (natD (nval [n % 4294967296, n / 4294967296])) (.inr rfl) (by kernel_rfl) trivial rfl ?_
  rotate_left
 rw [show nval [n % 4294967296, n / 4294967296] = n by simp [nval]; omega]
set_option maxHeartbeats 2000000 in
theorem add_c (a b : List Nat) (n m : Nat) (hn : a.length = n) (hm : b.length = m) (hl : n ≤ 1000000) (hl' : m ≤ 1000000) (ha : Digs a) (hb : Digs b) : Pure Tryz.prog 46 [.row (a.map dig) n, .row (b.map dig) m] [] (natD (nval a + nval b)) := by
 subst hn hm
 have la := zH6 ha
 have lb := zH6 hb
 refine zP zAo mixed Tryz.func46 rfl ?_
 focus
  refine zB (zA rfl ?_)
  refine zG [] [(4, nl)] ?_
  refine zB (zA rfl ?_)
  refine zAi 1 [(8, digR a)] ?_
  refine zX [digR a] (by exact zEg a _ rfl (by omega) ha) ?_
  refine zAi 1 [(10, digR b)] ?_
  refine zX [digR b] (by exact zEg b _ rfl (by omega) hb) ?_
  refine zG [8, 9, 10, 11] [(0, natD (nval a)), (1, natD (nval b))] ?_
  refine zB (zB (zA rfl ?_))
  refine zG [12, 13, 14, 15] [(16, bD (decide ((↑(List.length (dg (nval a))) : Int) < (↑(List.length (dg (nval b))) : Int))))] ?_
  refine zAm (t := decide ((↑(List.length (dg (nval a))) : Int) < (↑(List.length (dg (nval b))) : Int))) (by kernel_rfl) (fun hc => ?_) (fun hc => ?_)
  simp only [decide_eq_true_eq] at hc
  refine zA rfl ?_
  refine zG [16, 17, 18] [(0, natD (nval b)), (1, natD (nval a))] ?_
  refine zB (zA rfl ?_)
  refine zF 3 [] [] (-9223372036854775808 ≤ (↑(List.length (dg (nval b))) : Int) + (1 : Int) ∧ (↑(List.length (dg (nval b))) : Int) + (1 : Int) ≤ 9223372036854775807) [(19, natD (nval b)), (20, iD (↑(List.length (dg (nval b))) : Int)), (21, iD ((↑(List.length (dg (nval b))) : Int) + (1 : Int)))] (by kernel_rfl) (by omega) ?_
  refine zY 21 (iD ((↑(List.length (dg (nval b))) : Int) + (1 : Int))) (iD (↑(List.length (dg (nval b)) + 1) : Int)) (by kernel_rfl) (by simp (disch := omega) only [zBh]) (by kernel_rfl) ?_
  refine zAg 1 [] [] ((0 : Int) ≤ (↑(List.length (dg (nval b)) + 1) : Int) ∧ (↑(List.length (dg (nval b)) + 1) : Int) ≤ (↑(List.length (dg (nval b)) + 1) : Int) ∧ (↑(4 : Nat) : Int) * (↑(List.length (dg (nval b)) + 1) : Int) ≤ (281474976710656 : Int) ∧ (↑(List.length (dg (nval b)) + 1) : Int) ≤ (281474976710656 : Int) ∧ 0 < 1 ∧ 1 = 1) [(22, D.osl 0 0 (Int.toNat (↑(List.length (dg (nval b)) + 1) : Int)) (Int.toNat (↑(List.length (dg (nval b)) + 1) : Int) * 1) true)] [] [Bk.mk (repL (Int.toNat (↑(List.length (dg (nval b)) + 1) : Int)) [D.val (Value.int IntKind.u32 0)]) 36 1 true false (kdOf false)] (by kernel_rfl) (by omega) ?_
  refine zBn 0 (Bk.mk (repL (Int.toNat (↑(List.length (dg (nval b)) + 1) : Int)) [D.val (Value.int IntKind.u32 0)]) 36 1 true false (kdOf false)) (Bk.mk (List.map dig (List.replicate (List.length (dg (nval b)) + 1) 0)) 36 1 true false (kdOf false)) (by kernel_rfl) (by simp (disch := omega) only [Int.toNat_natCast, zKx]) ?_
  refine zAi 1 [(5, D.osl 0 0 (Int.toNat (↑(List.length (dg (nval b)) + 1) : Int)) (Int.toNat (↑(List.length (dg (nval b)) + 1) : Int) * 1) true)] ?_
  refine zY 5 (D.osl 0 0 (Int.toNat (↑(List.length (dg (nval b)) + 1) : Int)) (Int.toNat (↑(List.length (dg (nval b)) + 1) : Int) * 1) true) (D.osl 0 0 (List.length (dg (nval b)) + 1) (List.length (dg (nval b)) + 1) true) (by kernel_rfl) (by simp (disch := omega) only [Int.toNat_natCast, Nat.mul_one]) (by kernel_rfl) ?_
  refine zG [19, 20, 21, 22] [] ?_
  refine zB (zA rfl ?_)
  refine zG [] [(6, D.val (Value.int IntKind.u64 0))] ?_
  refine zB (zB (zA rfl ?_))
  refine zG [23] [(24, iD (↑(List.length (dg (nval b))) : Int)), (25, iD 0)] ?_
  refine zE ?_
  rotate_left
  simp only [decide_eq_false_iff_not] at hc
  refine zJ (zC (zD (zB (zA rfl ?_))))
  refine zF 3 [] [] (-9223372036854775808 ≤ (↑(List.length (dg (nval a))) : Int) + (1 : Int) ∧ (↑(List.length (dg (nval a))) : Int) + (1 : Int) ≤ 9223372036854775807) [(19, natD (nval a)), (20, iD (↑(List.length (dg (nval a))) : Int)), (21, iD ((↑(List.length (dg (nval a))) : Int) + (1 : Int)))] (by kernel_rfl) (by omega) ?_
  refine zY 21 (iD ((↑(List.length (dg (nval a))) : Int) + (1 : Int))) (iD (↑(List.length (dg (nval a)) + 1) : Int)) (by kernel_rfl) (by simp (disch := omega) only [zBh]) (by kernel_rfl) ?_
  refine zAg 1 [] [] ((0 : Int) ≤ (↑(List.length (dg (nval a)) + 1) : Int) ∧ (↑(List.length (dg (nval a)) + 1) : Int) ≤ (↑(List.length (dg (nval a)) + 1) : Int) ∧ (↑(4 : Nat) : Int) * (↑(List.length (dg (nval a)) + 1) : Int) ≤ (281474976710656 : Int) ∧ (↑(List.length (dg (nval a)) + 1) : Int) ≤ (281474976710656 : Int) ∧ 0 < 1 ∧ 1 = 1) [(22, D.osl 0 0 (Int.toNat (↑(List.length (dg (nval a)) + 1) : Int)) (Int.toNat (↑(List.length (dg (nval a)) + 1) : Int) * 1) true)] [] [Bk.mk (repL (Int.toNat (↑(List.length (dg (nval a)) + 1) : Int)) [D.val (Value.int IntKind.u32 0)]) 36 1 true false (kdOf false)] (by kernel_rfl) (by omega) ?_
  refine zBn 0 (Bk.mk (repL (Int.toNat (↑(List.length (dg (nval a)) + 1) : Int)) [D.val (Value.int IntKind.u32 0)]) 36 1 true false (kdOf false)) (Bk.mk (List.map dig (List.replicate (List.length (dg (nval a)) + 1) 0)) 36 1 true false (kdOf false)) (by kernel_rfl) (by simp (disch := omega) only [Int.toNat_natCast, zKx]) ?_
  refine zAi 1 [(5, D.osl 0 0 (Int.toNat (↑(List.length (dg (nval a)) + 1) : Int)) (Int.toNat (↑(List.length (dg (nval a)) + 1) : Int) * 1) true)] ?_
  refine zY 5 (D.osl 0 0 (Int.toNat (↑(List.length (dg (nval a)) + 1) : Int)) (Int.toNat (↑(List.length (dg (nval a)) + 1) : Int) * 1) true) (D.osl 0 0 (List.length (dg (nval a)) + 1) (List.length (dg (nval a)) + 1) true) (by kernel_rfl) (by simp (disch := omega) only [Int.toNat_natCast, Nat.mul_one]) (by kernel_rfl) ?_
  refine zG [16, 19, 20, 21, 22] [] ?_
  refine zB (zA rfl ?_)
  refine zG [] [(6, D.val (Value.int IntKind.u64 0))] ?_
  refine zB (zB (zA rfl ?_))
  refine zG [23] [(24, iD (↑(List.length (dg (nval a))) : Int)), (25, iD 0)] ?_
  refine zE ?_
  rotate_left
 ·have hS1 := la
  have hL1 := lb
  have dL : Digs (dg (nval b)) := zBl _
  have dS : Digs (dg (nval a)) := zBl _
  have ev : nval (dg (nval b)) + nval (dg (nval a)) = nval a + nval b := by have := zBk (nval a); have := zBk (nval b); omega
  generalize (dg (nval b)) = L at *
  generalize (dg (nval a)) = M at *
  refine zJf (fun (k c : Nat) (cur : List Nat) => [digR L, digR M, U, U, nl, D.osl 0 0 (List.length L + 1) (List.length L + 1) true, D.val (Value.int IntKind.u64 (↑c : Int)), U, U, U, U, U, U, U, U, U, U, U, U, U, U, U, U, U, iD (↑(List.length L) : Int), iD ↑k, U, U, U, U, U, U, U, U, U, U, U, U, U, U, U, U, U, U, U, U, U, U, U, U, U, U, U, U, U, U, U, U, U, U, U, U]) (fun k c cur => [⟨cur.map dig, 36, 1, true, false, .plain⟩]) (fun k c cur => L.length - k) (fun k c cur => k ≤ L.length ∧ c ≤ 1 ∧ cur.length = L.length + 1 ∧ Digs cur ∧ nval (cur.take k) + 4294967296 ^ k * c = nval (L.take k) + nval (M.take k)) 0 0 (List.replicate (L.length + 1) 0) ?_ ?_ ?_
  ·exact ⟨by simp, by simp, by simp, Digs.replicate _, by simp [nval]⟩
  ·refine zAp [(0, 1), (1, 1), (4, 1), (5, 1), (6, 1), (24, 1), (25, 1)] (digR L = digR L ∧ digR M = digR M ∧ nl = nl ∧ D.osl 0 0 (List.length L + 1) (List.length L + 1) true = D.osl 0 0 (List.length L + 1) (List.length L + 1) true ∧ D.val (Value.int IntKind.u64 (0 : Int)) = D.val (Value.int IntKind.u64 (↑(0 : Nat) : Int)) ∧ iD (↑(List.length L) : Int) = iD (↑(List.length L) : Int) ∧ iD 0 = iD (↑(0 : Nat) : Int)) 1 [] (by kernel_rfl) ⟨rfl, rfl, rfl, rfl, (by kernel_rfl), rfl, (by kernel_rfl)⟩ (by kernel_rfl) (fun _ _ => rfl) (by kernel_rfl)
  rintro k c cur ⟨h1, h2, h3, h4, h5⟩
  have hx := dL k
  have hy := dS k
  focus
   refine zB (zA rfl ?_)
   refine zG [] [(26, bD (decide ((↑k : Int) < (↑(List.length L) : Int))))] ?_
   refine zB ?_
   refine zAm (t := decide ((↑k : Int) < (↑(List.length L) : Int))) (by kernel_rfl) (fun hc => ?_) (fun hc => ?_)
   simp only [decide_eq_true_eq] at hc
   refine zJ (zC (zD (zB (zE (zB (zA rfl ?_))))))
   refine zG [26, 27] [(7, iD ↑k)] ?_
   refine zB (zA rfl ?_)
   refine zF 4 [] [] ((0 : Int) ≤ (↑k : Int) ∧ (↑k : Int) < (↑(List.length L) : Int) ∧ List.map dig L ≠ []) [(28, D.val (Value.int IntKind.u64 (↑c : Int))), (29, digR L), (30, iD ↑k), (31, D.ptr (List.drop (Int.toNat (↑k : Int) * 1) (List.map dig L)))] (by kernel_rfl) ⟨(by omega), ⟨(by omega), (by exact zDm (by omega))⟩⟩ ?_
   refine zY 31 (D.ptr (List.drop (Int.toNat (↑k : Int) * 1) (List.map dig L))) (D.ptr (List.drop k (List.map dig L))) (by kernel_rfl) (by simp (disch := omega) only [Int.toNat_natCast, Nat.mul_one]) (by kernel_rfl) ?_
   refine zF 1 [] [] (0 < List.length (List.drop k (List.map dig L))) [(32, List.headD (List.drop k (List.map dig L)) U)] (by kernel_rfl) (by (simp; omega)) ?_
   refine zY 32 (List.headD (List.drop k (List.map dig L)) U) (dig (List.getD L k 0)) (by kernel_rfl) (by simp (disch := omega) only [zBg]) (by kernel_rfl) ?_
   refine zF 2 [] [] (((0 : Int) ≤ (↑(List.getD L k 0) : Int) ∧ (↑(List.getD L k 0) : Int) ≤ (18446744073709551615 : Int)) ∧ (0 : Int) ≤ (↑c : Int) + (↑(List.getD L k 0) : Int) ∧ (↑c : Int) + (↑(List.getD L k 0) : Int) ≤ (18446744073709551615 : Int)) [(33, D.val (Value.int IntKind.u64 (↑(List.getD L k 0) : Int))), (34, D.val (Value.int IntKind.u64 ((↑c : Int) + (↑(List.getD L k 0) : Int))))] (by kernel_rfl) (by omega) ?_
   refine zY 34 (D.val (Value.int IntKind.u64 ((↑c : Int) + (↑(List.getD L k 0) : Int)))) (D.val (Value.int IntKind.u64 (↑(c + List.getD L k 0) : Int))) (by kernel_rfl) (by simp (disch := omega) only [zCf]) (by kernel_rfl) ?_
   refine zG [28, 29, 30, 31, 32, 33, 34] [(6, D.val (Value.int IntKind.u64 (↑(c + List.getD L k 0) : Int)))] ?_
   refine zB (zB (zA rfl ?_))
   refine zG [35, 36, 37] [(38, bD (decide ((↑k : Int) < (↑(List.length M) : Int))))] ?_
   refine zAm (t := decide ((↑k : Int) < (↑(List.length M) : Int))) (by kernel_rfl) (fun hc => ?_) (fun hc => ?_)
   simp only [decide_eq_true_eq] at hc
   refine zA rfl ?_
   refine zF 4 [] [] ((0 : Int) ≤ (↑k : Int) ∧ (↑k : Int) < (↑(List.length M) : Int) ∧ List.map dig M ≠ []) [(39, D.val (Value.int IntKind.u64 (↑(c + List.getD L k 0) : Int))), (40, digR M), (41, iD ↑k), (42, D.ptr (List.drop (Int.toNat (↑k : Int) * 1) (List.map dig M)))] (by kernel_rfl) ⟨(by omega), ⟨(by omega), (by exact zDm (by omega))⟩⟩ ?_
   refine zY 42 (D.ptr (List.drop (Int.toNat (↑k : Int) * 1) (List.map dig M))) (D.ptr (List.drop k (List.map dig M))) (by kernel_rfl) (by simp (disch := omega) only [Int.toNat_natCast, Nat.mul_one]) (by kernel_rfl) ?_
   refine zF 1 [] [] (0 < List.length (List.drop k (List.map dig M))) [(43, List.headD (List.drop k (List.map dig M)) U)] (by kernel_rfl) (by (simp; omega)) ?_
   refine zY 43 (List.headD (List.drop k (List.map dig M)) U) (dig (List.getD M k 0)) (by kernel_rfl) (by simp (disch := omega) only [zBg]) (by kernel_rfl) ?_
   refine zF 2 [] [] (((0 : Int) ≤ (↑(List.getD M k 0) : Int) ∧ (↑(List.getD M k 0) : Int) ≤ (18446744073709551615 : Int)) ∧ (0 : Int) ≤ (↑(c + List.getD L k 0) : Int) + (↑(List.getD M k 0) : Int) ∧ (↑(c + List.getD L k 0) : Int) + (↑(List.getD M k 0) : Int) ≤ (18446744073709551615 : Int)) [(44, D.val (Value.int IntKind.u64 (↑(List.getD M k 0) : Int))), (45, D.val (Value.int IntKind.u64 ((↑(c + List.getD L k 0) : Int) + (↑(List.getD M k 0) : Int))))] (by kernel_rfl) (by omega) ?_
   refine zY 45 (D.val (Value.int IntKind.u64 ((↑(c + List.getD L k 0) : Int) + (↑(List.getD M k 0) : Int)))) (D.val (Value.int IntKind.u64 (↑(c + List.getD L k 0 + List.getD M k 0) : Int))) (by kernel_rfl) (by simp (disch := omega) only [zCf]) (by kernel_rfl) ?_
   refine zG [38, 39, 40, 41, 42, 43, 44, 45] [(6, D.val (Value.int IntKind.u64 (↑(c + List.getD L k 0 + List.getD M k 0) : Int)))] ?_
   refine zB (zA rfl ?_)
   refine zF 4 [49] [] (True) [(46, D.osl 0 0 (List.length L + 1) (List.length L + 1) true), (47, iD ↑k), (48, D.val (Value.int IntKind.u64 (↑(c + List.getD L k 0 + List.getD M k 0) : Int))), (49, D.val (Value.int IntKind.u32 (IntKind.wrap IntKind.u32 (↑(c + List.getD L k 0 + List.getD M k 0) : Int))))] (by kernel_rfl) trivial ?_
   refine zY 49 (D.val (Value.int IntKind.u32 (IntKind.wrap IntKind.u32 (↑(c + List.getD L k 0 + List.getD M k 0) : Int)))) (dig ((c + List.getD L k 0 + List.getD M k 0) % 4294967296)) (by kernel_rfl) (by simp (disch := omega) only [zBq]) (by kernel_rfl) ?_
   refine zF 1 [] [] ((0 : Int) ≤ (↑k : Int) ∧ (↑k : Int) < (↑(List.length L + 1) : Int)) [(50, D.own 0 (0 + Int.toNat (↑k : Int) * 1))] (by kernel_rfl) (by omega) ?_
   refine zY 50 (D.own 0 (0 + Int.toNat (↑k : Int) * 1)) (D.own 0 k) (by kernel_rfl) (by simp (disch := omega) only [Int.toNat_natCast, Nat.mul_one, Nat.zero_add]) (by kernel_rfl) ?_
   refine zAg 1 [] [] (Bk.fz (Bk.mk (List.map dig cur) 36 1 true false Kd.plain) = false ∧ true = true ∧ 1 = 1 ∧ k + 1 ≤ List.length (List.map dig cur) ∧ ¬0 ∈ []) [] [(0, Bk.mk (setAt (List.map dig cur) k (cellsOf (dig ((c + List.getD L k 0 + List.getD M k 0) % 4294967296)))) (Bk.ty (Bk.mk (List.map dig cur) 36 1 true false Kd.plain)) (Bk.sz (Bk.mk (List.map dig cur) 36 1 true false Kd.plain)) (Bk.arr (Bk.mk (List.map dig cur) 36 1 true false Kd.plain)) (Bk.fz (Bk.mk (List.map dig cur) 36 1 true false Kd.plain)) (Bk.kd (Bk.mk (List.map dig cur) 36 1 true false Kd.plain)))] [] (by kernel_rfl) ⟨(by kernel_rfl), ⟨(by kernel_rfl), ⟨(by kernel_rfl), ⟨(by (simp; omega)), (by decide)⟩⟩⟩⟩ ?_
   refine zBn 0 (Bk.mk (setAt (List.map dig cur) k (cellsOf (dig ((c + List.getD L k 0 + List.getD M k 0) % 4294967296)))) (Bk.ty (Bk.mk (List.map dig cur) 36 1 true false Kd.plain)) (Bk.sz (Bk.mk (List.map dig cur) 36 1 true false Kd.plain)) (Bk.arr (Bk.mk (List.map dig cur) 36 1 true false Kd.plain)) (Bk.fz (Bk.mk (List.map dig cur) 36 1 true false Kd.plain)) (Bk.kd (Bk.mk (List.map dig cur) 36 1 true false Kd.plain))) (Bk.mk (List.map dig (List.set cur k ((c + List.getD L k 0 + List.getD M k 0) % 4294967296))) 36 1 true false Kd.plain) (by kernel_rfl) (by simp (disch := omega) only [cellsOf, setAt, zEi]) ?_
   refine zG [7, 46, 47, 48, 49, 50] [] ?_
   refine zA rfl ?_
   refine zF 2 [] [] ((0 : Int) ≤ (32 : Int)) [(51, D.val (Value.int IntKind.u64 (↑(c + List.getD L k 0 + List.getD M k 0) : Int))), (52, D.val (Value.int IntKind.u64 (Int.fdiv (↑(c + List.getD L k 0 + List.getD M k 0) : Int) ((2 : Int) ^ 32))))] (by kernel_rfl) (by omega) ?_
   refine zY 52 (D.val (Value.int IntKind.u64 (Int.fdiv (↑(c + List.getD L k 0 + List.getD M k 0) : Int) ((2 : Int) ^ 32)))) (D.val (Value.int IntKind.u64 (↑((c + List.getD L k 0 + List.getD M k 0) / 4294967296) : Int))) (by kernel_rfl) (by simp (disch := omega) only [zGd]) (by kernel_rfl) ?_
   refine zAi 1 [(6, D.val (Value.int IntKind.u64 (↑((c + List.getD L k 0 + List.getD M k 0) / 4294967296) : Int)))] ?_
   refine zAb ?_ (by kernel_rfl)
   refine zL (zC (zD (zA rfl ?_)))
   refine zF 1 [] [] (-9223372036854775808 ≤ (↑k : Int) + (1 : Int) ∧ (↑k : Int) + (1 : Int) ≤ 9223372036854775807) [(53, iD ((↑k : Int) + (1 : Int)))] (by kernel_rfl) (by omega) ?_
   refine zY 53 (iD ((↑k : Int) + (1 : Int))) (iD (↑(k + 1) : Int)) (by kernel_rfl) (by simp (disch := omega) only [zBh]) (by kernel_rfl) ?_
   refine zAi 1 [(25, iD (↑(k + 1) : Int))] ?_
   refine zAb ?_ (by kernel_rfl)
   refine zC ?_
   rotate_left
   simp only [decide_eq_false_iff_not] at hc
   refine zJ (zC (zD (zB (zA rfl ?_))))
   refine zF 4 [49] [] (True) [(46, D.osl 0 0 (List.length L + 1) (List.length L + 1) true), (47, iD ↑k), (48, D.val (Value.int IntKind.u64 (↑(c + List.getD L k 0) : Int))), (49, D.val (Value.int IntKind.u32 (IntKind.wrap IntKind.u32 (↑(c + List.getD L k 0) : Int))))] (by kernel_rfl) trivial ?_
   refine zY 49 (D.val (Value.int IntKind.u32 (IntKind.wrap IntKind.u32 (↑(c + List.getD L k 0) : Int)))) (dig ((c + List.getD L k 0) % 4294967296)) (by kernel_rfl) (by simp (disch := omega) only [zBq]) (by kernel_rfl) ?_
   refine zF 1 [] [] ((0 : Int) ≤ (↑k : Int) ∧ (↑k : Int) < (↑(List.length L + 1) : Int)) [(50, D.own 0 (0 + Int.toNat (↑k : Int) * 1))] (by kernel_rfl) (by omega) ?_
   refine zY 50 (D.own 0 (0 + Int.toNat (↑k : Int) * 1)) (D.own 0 k) (by kernel_rfl) (by simp (disch := omega) only [Int.toNat_natCast, Nat.mul_one, Nat.zero_add]) (by kernel_rfl) ?_
   refine zAg 1 [] [] (Bk.fz (Bk.mk (List.map dig cur) 36 1 true false Kd.plain) = false ∧ true = true ∧ 1 = 1 ∧ k + 1 ≤ List.length (List.map dig cur) ∧ ¬0 ∈ []) [] [(0, Bk.mk (setAt (List.map dig cur) k (cellsOf (dig ((c + List.getD L k 0) % 4294967296)))) (Bk.ty (Bk.mk (List.map dig cur) 36 1 true false Kd.plain)) (Bk.sz (Bk.mk (List.map dig cur) 36 1 true false Kd.plain)) (Bk.arr (Bk.mk (List.map dig cur) 36 1 true false Kd.plain)) (Bk.fz (Bk.mk (List.map dig cur) 36 1 true false Kd.plain)) (Bk.kd (Bk.mk (List.map dig cur) 36 1 true false Kd.plain)))] [] (by kernel_rfl) ⟨(by kernel_rfl), ⟨(by kernel_rfl), ⟨(by kernel_rfl), ⟨(by (simp; omega)), (by decide)⟩⟩⟩⟩ ?_
   refine zBn 0 (Bk.mk (setAt (List.map dig cur) k (cellsOf (dig ((c + List.getD L k 0) % 4294967296)))) (Bk.ty (Bk.mk (List.map dig cur) 36 1 true false Kd.plain)) (Bk.sz (Bk.mk (List.map dig cur) 36 1 true false Kd.plain)) (Bk.arr (Bk.mk (List.map dig cur) 36 1 true false Kd.plain)) (Bk.fz (Bk.mk (List.map dig cur) 36 1 true false Kd.plain)) (Bk.kd (Bk.mk (List.map dig cur) 36 1 true false Kd.plain))) (Bk.mk (List.map dig (List.set cur k ((c + List.getD L k 0) % 4294967296))) 36 1 true false Kd.plain) (by kernel_rfl) (by simp (disch := omega) only [cellsOf, setAt, zEi]) ?_
   refine zG [7, 38, 46, 47, 48, 49, 50] [] ?_
   refine zA rfl ?_
   refine zF 2 [] [] ((0 : Int) ≤ (32 : Int)) [(51, D.val (Value.int IntKind.u64 (↑(c + List.getD L k 0) : Int))), (52, D.val (Value.int IntKind.u64 (Int.fdiv (↑(c + List.getD L k 0) : Int) ((2 : Int) ^ 32))))] (by kernel_rfl) (by omega) ?_
   refine zY 52 (D.val (Value.int IntKind.u64 (Int.fdiv (↑(c + List.getD L k 0) : Int) ((2 : Int) ^ 32)))) (D.val (Value.int IntKind.u64 (↑((c + List.getD L k 0) / 4294967296) : Int))) (by kernel_rfl) (by simp (disch := omega) only [zGd]) (by kernel_rfl) ?_
   refine zAi 1 [(6, D.val (Value.int IntKind.u64 (↑((c + List.getD L k 0) / 4294967296) : Int)))] ?_
   refine zAb ?_ (by kernel_rfl)
   refine zL (zC (zD (zA rfl ?_)))
   refine zF 1 [] [] (-9223372036854775808 ≤ (↑k : Int) + (1 : Int) ∧ (↑k : Int) + (1 : Int) ≤ 9223372036854775807) [(53, iD ((↑k : Int) + (1 : Int)))] (by kernel_rfl) (by omega) ?_
   refine zY 53 (iD ((↑k : Int) + (1 : Int))) (iD (↑(k + 1) : Int)) (by kernel_rfl) (by simp (disch := omega) only [zBh]) (by kernel_rfl) ?_
   refine zAi 1 [(25, iD (↑(k + 1) : Int))] ?_
   refine zAb ?_ (by kernel_rfl)
   refine zC ?_
   rotate_left
   simp only [decide_eq_false_iff_not] at hc
   refine zAc (zK (zK (zV rfl (zC (zD (zB (zA rfl ?_)))))))
   refine zF 6 [] [] (((0 : Int) ≤ (↑c : Int) ∧ (↑c : Int) ≤ (4294967295 : Int)) ∧ (0 : Int) ≤ (↑(List.length L) : Int) ∧ (↑(List.length L) : Int) < (↑(List.length L + 1) : Int)) [(54, D.osl 0 0 (List.length L + 1) (List.length L + 1) true), (55, digR L), (56, iD (↑(List.length L) : Int)), (57, D.val (Value.int IntKind.u64 (↑c : Int))), (58, dig c), (59, D.own 0 (0 + Int.toNat (↑(List.length L) : Int) * 1))] (by kernel_rfl) (by omega) ?_
   refine zY 59 (D.own 0 (0 + Int.toNat (↑(List.length L) : Int) * 1)) (D.own 0 (List.length L)) (by kernel_rfl) (by simp (disch := omega) only [Int.toNat_natCast, Nat.mul_one, Nat.zero_add]) (by kernel_rfl) ?_
   refine zAg 1 [] [] (Bk.fz (Bk.mk (List.map dig cur) 36 1 true false Kd.plain) = false ∧ true = true ∧ 1 = 1 ∧ List.length L + 1 ≤ List.length (List.map dig cur) ∧ ¬0 ∈ []) [] [(0, Bk.mk (setAt (List.map dig cur) (List.length L) (cellsOf (dig c))) (Bk.ty (Bk.mk (List.map dig cur) 36 1 true false Kd.plain)) (Bk.sz (Bk.mk (List.map dig cur) 36 1 true false Kd.plain)) (Bk.arr (Bk.mk (List.map dig cur) 36 1 true false Kd.plain)) (Bk.fz (Bk.mk (List.map dig cur) 36 1 true false Kd.plain)) (Bk.kd (Bk.mk (List.map dig cur) 36 1 true false Kd.plain)))] [] (by kernel_rfl) ⟨(by kernel_rfl), ⟨(by kernel_rfl), ⟨(by kernel_rfl), ⟨(by (simp; omega)), (by decide)⟩⟩⟩⟩ ?_
   refine zBn 0 (Bk.mk (setAt (List.map dig cur) (List.length L) (cellsOf (dig c))) (Bk.ty (Bk.mk (List.map dig cur) 36 1 true false Kd.plain)) (Bk.sz (Bk.mk (List.map dig cur) 36 1 true false Kd.plain)) (Bk.arr (Bk.mk (List.map dig cur) 36 1 true false Kd.plain)) (Bk.fz (Bk.mk (List.map dig cur) 36 1 true false Kd.plain)) (Bk.kd (Bk.mk (List.map dig cur) 36 1 true false Kd.plain))) (Bk.mk (List.map dig (List.set cur (List.length L) c)) 36 1 true false Kd.plain) (by kernel_rfl) (by simp (disch := omega) only [cellsOf, setAt, zEi]) ?_
   refine zG [0, 1, 6, 24, 25, 26, 54, 55, 56, 57, 58, 59] [] ?_
   refine zB (zA rfl ?_)
   refine zAi 1 [(60, D.osl 0 0 (List.length L + 1) (List.length L + 1) true)] ?_
   refine zAq [D.row (List.take (List.length L + 1) (List.drop 0 (List.map dig (List.set cur (List.length L) c)))) (List.length L + 1)] [0] [D.row (List.map dig (List.take (List.length L + 1) (List.set cur (List.length L) c))) (List.length L + 1)] (by kernel_rfl) (LeL.of_eq (by simp (disch := omega) only [List.drop_zero, zFm])) (by exact zEg _ _ (by simp; omega) (by omega) ((h4.set _ _ (by omega) (by omega)).take _)) ?_
   refine zG [5, 60, 61] [(4, natD (nval (List.take (List.length L + 1) (List.set cur (List.length L) c))))] ?_
   refine zW ?_
   refine zZ (True) (natD (nval (List.take (List.length L + 1) (List.set cur (List.length L) c)))) (natD (nval (List.take (List.length L + 1) (List.set cur (List.length L) c)))) (.inr rfl) (by kernel_rfl) trivial rfl ?_
   rotate_left
  ·obtain ⟨s1, s2⟩ := zG4 (by omega) h2 dL dS h5
   refine ⟨k + 1, (c + L.getD k 0 + M.getD k 0) / 4294967296, cur.set k ((c + L.getD k 0 + M.getD k 0) % 4294967296), ⟨by omega, s1, by simpa using h3, h4.set _ _ (by omega) (by omega), s2⟩, by omega, ?_⟩
   refine zAp [(0, 1), (1, 1), (4, 1), (5, 1), (6, 1), (24, 1), (25, 1)] (digR L = digR L ∧ digR M = digR M ∧ nl = nl ∧ D.osl 0 0 (List.length L + 1) (List.length L + 1) true = D.osl 0 0 (List.length L + 1) (List.length L + 1) true ∧ D.val (Value.int IntKind.u64 (↑((c + List.getD L k 0 + List.getD M k 0) / 4294967296) : Int)) = D.val (Value.int IntKind.u64 (↑((c + List.getD L k 0 + List.getD M k 0) / 4294967296) : Int)) ∧ iD (↑(List.length L) : Int) = iD (↑(List.length L) : Int) ∧ iD (↑(k + 1) : Int) = iD (↑(k + 1) : Int)) 1 [] (by kernel_rfl) ⟨rfl, rfl, rfl, rfl, rfl, rfl, rfl⟩ (by kernel_rfl) (fun _ _ => rfl) (by kernel_rfl)
  ·obtain ⟨s1, s2⟩ := zG4 (by omega) h2 dL dS h5
   have e0 : M.getD k 0 = 0 := by rw [List.getD_eq_getElem?_getD, List.getElem?_eq_none (by omega)]; rfl
   rw [e0, Nat.add_zero] at s1 s2
   refine ⟨k + 1, (c + L.getD k 0) / 4294967296, cur.set k ((c + L.getD k 0) % 4294967296), ⟨by omega, s1, by simpa using h3, h4.set _ _ (by omega) (by omega), s2⟩, by omega, ?_⟩
   refine zAp [(0, 1), (1, 1), (4, 1), (5, 1), (6, 1), (24, 1), (25, 1)] (digR L = digR L ∧ digR M = digR M ∧ nl = nl ∧ D.osl 0 0 (List.length L + 1) (List.length L + 1) true = D.osl 0 0 (List.length L + 1) (List.length L + 1) true ∧ D.val (Value.int IntKind.u64 (↑((c + List.getD L k 0) / 4294967296) : Int)) = D.val (Value.int IntKind.u64 (↑((c + List.getD L k 0) / 4294967296) : Int)) ∧ iD (↑(List.length L) : Int) = iD (↑(List.length L) : Int) ∧ iD (↑(k + 1) : Int) = iD (↑(k + 1) : Int)) 1 [] (by kernel_rfl) ⟨rfl, rfl, rfl, rfl, rfl, rfl, rfl⟩ (by kernel_rfl) (fun _ _ => rfl) (by kernel_rfl)
  ·have ek : k = L.length := by omega
   subst ek
   have e1 : nval ((cur.set L.length c).take (L.length + 1)) = nval a + nval b := by
    rw [zA4, take_set, zEy _ _ _ _ (by omega), if_pos rfl, h5, List.take_length, List.take_of_length_le (by omega), ev]
   rw [e1]
 ·have hS1 := lb
  have hL1 := la
  have dL : Digs (dg (nval a)) := zBl _
  have dS : Digs (dg (nval b)) := zBl _
  have ev : nval (dg (nval a)) + nval (dg (nval b)) = nval a + nval b := by have := zBk (nval a); have := zBk (nval b); omega
  generalize (dg (nval a)) = L at *
  generalize (dg (nval b)) = M at *
  refine zJf (fun (k c : Nat) (cur : List Nat) => [digR L, digR M, U, U, nl, D.osl 0 0 (List.length L + 1) (List.length L + 1) true, D.val (Value.int IntKind.u64 (↑c : Int)), U, U, U, U, U, U, U, U, U, U, U, U, U, U, U, U, U, iD (↑(List.length L) : Int), iD ↑k, U, U, U, U, U, U, U, U, U, U, U, U, U, U, U, U, U, U, U, U, U, U, U, U, U, U, U, U, U, U, U, U, U, U, U, U]) (fun k c cur => [⟨cur.map dig, 36, 1, true, false, .plain⟩]) (fun k c cur => L.length - k) (fun k c cur => k ≤ L.length ∧ c ≤ 1 ∧ cur.length = L.length + 1 ∧ Digs cur ∧ nval (cur.take k) + 4294967296 ^ k * c = nval (L.take k) + nval (M.take k)) 0 0 (List.replicate (L.length + 1) 0) ?_ ?_ ?_
  ·exact ⟨by simp, by simp, by simp, Digs.replicate _, by simp [nval]⟩
  ·refine zAp [(0, 1), (1, 1), (4, 1), (5, 1), (6, 1), (24, 1), (25, 1)] (digR L = digR L ∧ digR M = digR M ∧ nl = nl ∧ D.osl 0 0 (List.length L + 1) (List.length L + 1) true = D.osl 0 0 (List.length L + 1) (List.length L + 1) true ∧ D.val (Value.int IntKind.u64 (0 : Int)) = D.val (Value.int IntKind.u64 (↑(0 : Nat) : Int)) ∧ iD (↑(List.length L) : Int) = iD (↑(List.length L) : Int) ∧ iD 0 = iD (↑(0 : Nat) : Int)) 1 [] (by kernel_rfl) ⟨rfl, rfl, rfl, rfl, (by kernel_rfl), rfl, (by kernel_rfl)⟩ (by kernel_rfl) (fun _ _ => rfl) (by kernel_rfl)
  rintro k c cur ⟨h1, h2, h3, h4, h5⟩
  have hx := dL k
  have hy := dS k
  focus
   refine zB (zA rfl ?_)
   refine zG [] [(26, bD (decide ((↑k : Int) < (↑(List.length L) : Int))))] ?_
   refine zB ?_
   refine zAm (t := decide ((↑k : Int) < (↑(List.length L) : Int))) (by kernel_rfl) (fun hc => ?_) (fun hc => ?_)
   simp only [decide_eq_true_eq] at hc
   refine zJ (zC (zD (zB (zE (zB (zA rfl ?_))))))
   refine zG [26, 27] [(7, iD ↑k)] ?_
   refine zB (zA rfl ?_)
   refine zF 4 [] [] ((0 : Int) ≤ (↑k : Int) ∧ (↑k : Int) < (↑(List.length L) : Int) ∧ List.map dig L ≠ []) [(28, D.val (Value.int IntKind.u64 (↑c : Int))), (29, digR L), (30, iD ↑k), (31, D.ptr (List.drop (Int.toNat (↑k : Int) * 1) (List.map dig L)))] (by kernel_rfl) ⟨(by omega), ⟨(by omega), (by exact zDm (by omega))⟩⟩ ?_
   refine zY 31 (D.ptr (List.drop (Int.toNat (↑k : Int) * 1) (List.map dig L))) (D.ptr (List.drop k (List.map dig L))) (by kernel_rfl) (by simp (disch := omega) only [Int.toNat_natCast, Nat.mul_one]) (by kernel_rfl) ?_
   refine zF 1 [] [] (0 < List.length (List.drop k (List.map dig L))) [(32, List.headD (List.drop k (List.map dig L)) U)] (by kernel_rfl) (by (simp; omega)) ?_
   refine zY 32 (List.headD (List.drop k (List.map dig L)) U) (dig (List.getD L k 0)) (by kernel_rfl) (by simp (disch := omega) only [zBg]) (by kernel_rfl) ?_
   refine zF 2 [] [] (((0 : Int) ≤ (↑(List.getD L k 0) : Int) ∧ (↑(List.getD L k 0) : Int) ≤ (18446744073709551615 : Int)) ∧ (0 : Int) ≤ (↑c : Int) + (↑(List.getD L k 0) : Int) ∧ (↑c : Int) + (↑(List.getD L k 0) : Int) ≤ (18446744073709551615 : Int)) [(33, D.val (Value.int IntKind.u64 (↑(List.getD L k 0) : Int))), (34, D.val (Value.int IntKind.u64 ((↑c : Int) + (↑(List.getD L k 0) : Int))))] (by kernel_rfl) (by omega) ?_
   refine zY 34 (D.val (Value.int IntKind.u64 ((↑c : Int) + (↑(List.getD L k 0) : Int)))) (D.val (Value.int IntKind.u64 (↑(c + List.getD L k 0) : Int))) (by kernel_rfl) (by simp (disch := omega) only [zCf]) (by kernel_rfl) ?_
   refine zG [28, 29, 30, 31, 32, 33, 34] [(6, D.val (Value.int IntKind.u64 (↑(c + List.getD L k 0) : Int)))] ?_
   refine zB (zB (zA rfl ?_))
   refine zG [35, 36, 37] [(38, bD (decide ((↑k : Int) < (↑(List.length M) : Int))))] ?_
   refine zAm (t := decide ((↑k : Int) < (↑(List.length M) : Int))) (by kernel_rfl) (fun hc => ?_) (fun hc => ?_)
   simp only [decide_eq_true_eq] at hc
   refine zA rfl ?_
   refine zF 4 [] [] ((0 : Int) ≤ (↑k : Int) ∧ (↑k : Int) < (↑(List.length M) : Int) ∧ List.map dig M ≠ []) [(39, D.val (Value.int IntKind.u64 (↑(c + List.getD L k 0) : Int))), (40, digR M), (41, iD ↑k), (42, D.ptr (List.drop (Int.toNat (↑k : Int) * 1) (List.map dig M)))] (by kernel_rfl) ⟨(by omega), ⟨(by omega), (by exact zDm (by omega))⟩⟩ ?_
   refine zY 42 (D.ptr (List.drop (Int.toNat (↑k : Int) * 1) (List.map dig M))) (D.ptr (List.drop k (List.map dig M))) (by kernel_rfl) (by simp (disch := omega) only [Int.toNat_natCast, Nat.mul_one]) (by kernel_rfl) ?_
   refine zF 1 [] [] (0 < List.length (List.drop k (List.map dig M))) [(43, List.headD (List.drop k (List.map dig M)) U)] (by kernel_rfl) (by (simp; omega)) ?_
   refine zY 43 (List.headD (List.drop k (List.map dig M)) U) (dig (List.getD M k 0)) (by kernel_rfl) (by simp (disch := omega) only [zBg]) (by kernel_rfl) ?_
   refine zF 2 [] [] (((0 : Int) ≤ (↑(List.getD M k 0) : Int) ∧ (↑(List.getD M k 0) : Int) ≤ (18446744073709551615 : Int)) ∧ (0 : Int) ≤ (↑(c + List.getD L k 0) : Int) + (↑(List.getD M k 0) : Int) ∧ (↑(c + List.getD L k 0) : Int) + (↑(List.getD M k 0) : Int) ≤ (18446744073709551615 : Int)) [(44, D.val (Value.int IntKind.u64 (↑(List.getD M k 0) : Int))), (45, D.val (Value.int IntKind.u64 ((↑(c + List.getD L k 0) : Int) + (↑(List.getD M k 0) : Int))))] (by kernel_rfl) (by omega) ?_
   refine zY 45 (D.val (Value.int IntKind.u64 ((↑(c + List.getD L k 0) : Int) + (↑(List.getD M k 0) : Int)))) (D.val (Value.int IntKind.u64 (↑(c + List.getD L k 0 + List.getD M k 0) : Int))) (by kernel_rfl) (by simp (disch := omega) only [zCf]) (by kernel_rfl) ?_
   refine zG [38, 39, 40, 41, 42, 43, 44, 45] [(6, D.val (Value.int IntKind.u64 (↑(c + List.getD L k 0 + List.getD M k 0) : Int)))] ?_
   refine zB (zA rfl ?_)
   refine zF 4 [49] [] (True) [(46, D.osl 0 0 (List.length L + 1) (List.length L + 1) true), (47, iD ↑k), (48, D.val (Value.int IntKind.u64 (↑(c + List.getD L k 0 + List.getD M k 0) : Int))), (49, D.val (Value.int IntKind.u32 (IntKind.wrap IntKind.u32 (↑(c + List.getD L k 0 + List.getD M k 0) : Int))))] (by kernel_rfl) trivial ?_
   refine zY 49 (D.val (Value.int IntKind.u32 (IntKind.wrap IntKind.u32 (↑(c + List.getD L k 0 + List.getD M k 0) : Int)))) (dig ((c + List.getD L k 0 + List.getD M k 0) % 4294967296)) (by kernel_rfl) (by simp (disch := omega) only [zBq]) (by kernel_rfl) ?_
   refine zF 1 [] [] ((0 : Int) ≤ (↑k : Int) ∧ (↑k : Int) < (↑(List.length L + 1) : Int)) [(50, D.own 0 (0 + Int.toNat (↑k : Int) * 1))] (by kernel_rfl) (by omega) ?_
   refine zY 50 (D.own 0 (0 + Int.toNat (↑k : Int) * 1)) (D.own 0 k) (by kernel_rfl) (by simp (disch := omega) only [Int.toNat_natCast, Nat.mul_one, Nat.zero_add]) (by kernel_rfl) ?_
   refine zAg 1 [] [] (Bk.fz (Bk.mk (List.map dig cur) 36 1 true false Kd.plain) = false ∧ true = true ∧ 1 = 1 ∧ k + 1 ≤ List.length (List.map dig cur) ∧ ¬0 ∈ []) [] [(0, Bk.mk (setAt (List.map dig cur) k (cellsOf (dig ((c + List.getD L k 0 + List.getD M k 0) % 4294967296)))) (Bk.ty (Bk.mk (List.map dig cur) 36 1 true false Kd.plain)) (Bk.sz (Bk.mk (List.map dig cur) 36 1 true false Kd.plain)) (Bk.arr (Bk.mk (List.map dig cur) 36 1 true false Kd.plain)) (Bk.fz (Bk.mk (List.map dig cur) 36 1 true false Kd.plain)) (Bk.kd (Bk.mk (List.map dig cur) 36 1 true false Kd.plain)))] [] (by kernel_rfl) ⟨(by kernel_rfl), ⟨(by kernel_rfl), ⟨(by kernel_rfl), ⟨(by (simp; omega)), (by decide)⟩⟩⟩⟩ ?_
   refine zBn 0 (Bk.mk (setAt (List.map dig cur) k (cellsOf (dig ((c + List.getD L k 0 + List.getD M k 0) % 4294967296)))) (Bk.ty (Bk.mk (List.map dig cur) 36 1 true false Kd.plain)) (Bk.sz (Bk.mk (List.map dig cur) 36 1 true false Kd.plain)) (Bk.arr (Bk.mk (List.map dig cur) 36 1 true false Kd.plain)) (Bk.fz (Bk.mk (List.map dig cur) 36 1 true false Kd.plain)) (Bk.kd (Bk.mk (List.map dig cur) 36 1 true false Kd.plain))) (Bk.mk (List.map dig (List.set cur k ((c + List.getD L k 0 + List.getD M k 0) % 4294967296))) 36 1 true false Kd.plain) (by kernel_rfl) (by simp (disch := omega) only [cellsOf, setAt, zEi]) ?_
   refine zG [7, 46, 47, 48, 49, 50] [] ?_
   refine zA rfl ?_
   refine zF 2 [] [] ((0 : Int) ≤ (32 : Int)) [(51, D.val (Value.int IntKind.u64 (↑(c + List.getD L k 0 + List.getD M k 0) : Int))), (52, D.val (Value.int IntKind.u64 (Int.fdiv (↑(c + List.getD L k 0 + List.getD M k 0) : Int) ((2 : Int) ^ 32))))] (by kernel_rfl) (by omega) ?_
   refine zY 52 (D.val (Value.int IntKind.u64 (Int.fdiv (↑(c + List.getD L k 0 + List.getD M k 0) : Int) ((2 : Int) ^ 32)))) (D.val (Value.int IntKind.u64 (↑((c + List.getD L k 0 + List.getD M k 0) / 4294967296) : Int))) (by kernel_rfl) (by simp (disch := omega) only [zGd]) (by kernel_rfl) ?_
   refine zAi 1 [(6, D.val (Value.int IntKind.u64 (↑((c + List.getD L k 0 + List.getD M k 0) / 4294967296) : Int)))] ?_
   refine zAb ?_ (by kernel_rfl)
   refine zL (zC (zD (zA rfl ?_)))
   refine zF 1 [] [] (-9223372036854775808 ≤ (↑k : Int) + (1 : Int) ∧ (↑k : Int) + (1 : Int) ≤ 9223372036854775807) [(53, iD ((↑k : Int) + (1 : Int)))] (by kernel_rfl) (by omega) ?_
   refine zY 53 (iD ((↑k : Int) + (1 : Int))) (iD (↑(k + 1) : Int)) (by kernel_rfl) (by simp (disch := omega) only [zBh]) (by kernel_rfl) ?_
   refine zAi 1 [(25, iD (↑(k + 1) : Int))] ?_
   refine zAb ?_ (by kernel_rfl)
   refine zC ?_
   rotate_left
   simp only [decide_eq_false_iff_not] at hc
   refine zJ (zC (zD (zB (zA rfl ?_))))
   refine zF 4 [49] [] (True) [(46, D.osl 0 0 (List.length L + 1) (List.length L + 1) true), (47, iD ↑k), (48, D.val (Value.int IntKind.u64 (↑(c + List.getD L k 0) : Int))), (49, D.val (Value.int IntKind.u32 (IntKind.wrap IntKind.u32 (↑(c + List.getD L k 0) : Int))))] (by kernel_rfl) trivial ?_
   refine zY 49 (D.val (Value.int IntKind.u32 (IntKind.wrap IntKind.u32 (↑(c + List.getD L k 0) : Int)))) (dig ((c + List.getD L k 0) % 4294967296)) (by kernel_rfl) (by simp (disch := omega) only [zBq]) (by kernel_rfl) ?_
   refine zF 1 [] [] ((0 : Int) ≤ (↑k : Int) ∧ (↑k : Int) < (↑(List.length L + 1) : Int)) [(50, D.own 0 (0 + Int.toNat (↑k : Int) * 1))] (by kernel_rfl) (by omega) ?_
   refine zY 50 (D.own 0 (0 + Int.toNat (↑k : Int) * 1)) (D.own 0 k) (by kernel_rfl) (by simp (disch := omega) only [Int.toNat_natCast, Nat.mul_one, Nat.zero_add]) (by kernel_rfl) ?_
   refine zAg 1 [] [] (Bk.fz (Bk.mk (List.map dig cur) 36 1 true false Kd.plain) = false ∧ true = true ∧ 1 = 1 ∧ k + 1 ≤ List.length (List.map dig cur) ∧ ¬0 ∈ []) [] [(0, Bk.mk (setAt (List.map dig cur) k (cellsOf (dig ((c + List.getD L k 0) % 4294967296)))) (Bk.ty (Bk.mk (List.map dig cur) 36 1 true false Kd.plain)) (Bk.sz (Bk.mk (List.map dig cur) 36 1 true false Kd.plain)) (Bk.arr (Bk.mk (List.map dig cur) 36 1 true false Kd.plain)) (Bk.fz (Bk.mk (List.map dig cur) 36 1 true false Kd.plain)) (Bk.kd (Bk.mk (List.map dig cur) 36 1 true false Kd.plain)))] [] (by kernel_rfl) ⟨(by kernel_rfl), ⟨(by kernel_rfl), ⟨(by kernel_rfl), ⟨(by (simp; omega)), (by decide)⟩⟩⟩⟩ ?_
   refine zBn 0 (Bk.mk (setAt (List.map dig cur) k (cellsOf (dig ((c + List.getD L k 0) % 4294967296)))) (Bk.ty (Bk.mk (List.map dig cur) 36 1 true false Kd.plain)) (Bk.sz (Bk.mk (List.map dig cur) 36 1 true false Kd.plain)) (Bk.arr (Bk.mk (List.map dig cur) 36 1 true false Kd.plain)) (Bk.fz (Bk.mk (List.map dig cur) 36 1 true false Kd.plain)) (Bk.kd (Bk.mk (List.map dig cur) 36 1 true false Kd.plain))) (Bk.mk (List.map dig (List.set cur k ((c + List.getD L k 0) % 4294967296))) 36 1 true false Kd.plain) (by kernel_rfl) (by simp (disch := omega) only [cellsOf, setAt, zEi]) ?_
   refine zG [7, 38, 46, 47, 48, 49, 50] [] ?_
   refine zA rfl ?_
   refine zF 2 [] [] ((0 : Int) ≤ (32 : Int)) [(51, D.val (Value.int IntKind.u64 (↑(c + List.getD L k 0) : Int))), (52, D.val (Value.int IntKind.u64 (Int.fdiv (↑(c + List.getD L k 0) : Int) ((2 : Int) ^ 32))))] (by kernel_rfl) (by omega) ?_
   refine zY 52 (D.val (Value.int IntKind.u64 (Int.fdiv (↑(c + List.getD L k 0) : Int) ((2 : Int) ^ 32)))) (D.val (Value.int IntKind.u64 (↑((c + List.getD L k 0) / 4294967296) : Int))) (by kernel_rfl) (by simp (disch := omega) only [zGd]) (by kernel_rfl) ?_
   refine zAi 1 [(6, D.val (Value.int IntKind.u64 (↑((c + List.getD L k 0) / 4294967296) : Int)))] ?_
   refine zAb ?_ (by kernel_rfl)
   refine zL (zC (zD (zA rfl ?_)))
   refine zF 1 [] [] (-9223372036854775808 ≤ (↑k : Int) + (1 : Int) ∧ (↑k : Int) + (1 : Int) ≤ 9223372036854775807) [(53, iD ((↑k : Int) + (1 : Int)))] (by kernel_rfl) (by omega) ?_
   refine zY 53 (iD ((↑k : Int) + (1 : Int))) (iD (↑(k + 1) : Int)) (by kernel_rfl) (by simp (disch := omega) only [zBh]) (by kernel_rfl) ?_
   refine zAi 1 [(25, iD (↑(k + 1) : Int))] ?_
   refine zAb ?_ (by kernel_rfl)
   refine zC ?_
   rotate_left
   simp only [decide_eq_false_iff_not] at hc
   refine zAc (zK (zK (zV rfl (zC (zD (zB (zA rfl ?_)))))))
   refine zF 6 [] [] (((0 : Int) ≤ (↑c : Int) ∧ (↑c : Int) ≤ (4294967295 : Int)) ∧ (0 : Int) ≤ (↑(List.length L) : Int) ∧ (↑(List.length L) : Int) < (↑(List.length L + 1) : Int)) [(54, D.osl 0 0 (List.length L + 1) (List.length L + 1) true), (55, digR L), (56, iD (↑(List.length L) : Int)), (57, D.val (Value.int IntKind.u64 (↑c : Int))), (58, dig c), (59, D.own 0 (0 + Int.toNat (↑(List.length L) : Int) * 1))] (by kernel_rfl) (by omega) ?_
   refine zY 59 (D.own 0 (0 + Int.toNat (↑(List.length L) : Int) * 1)) (D.own 0 (List.length L)) (by kernel_rfl) (by simp (disch := omega) only [Int.toNat_natCast, Nat.mul_one, Nat.zero_add]) (by kernel_rfl) ?_
   refine zAg 1 [] [] (Bk.fz (Bk.mk (List.map dig cur) 36 1 true false Kd.plain) = false ∧ true = true ∧ 1 = 1 ∧ List.length L + 1 ≤ List.length (List.map dig cur) ∧ ¬0 ∈ []) [] [(0, Bk.mk (setAt (List.map dig cur) (List.length L) (cellsOf (dig c))) (Bk.ty (Bk.mk (List.map dig cur) 36 1 true false Kd.plain)) (Bk.sz (Bk.mk (List.map dig cur) 36 1 true false Kd.plain)) (Bk.arr (Bk.mk (List.map dig cur) 36 1 true false Kd.plain)) (Bk.fz (Bk.mk (List.map dig cur) 36 1 true false Kd.plain)) (Bk.kd (Bk.mk (List.map dig cur) 36 1 true false Kd.plain)))] [] (by kernel_rfl) ⟨(by kernel_rfl), ⟨(by kernel_rfl), ⟨(by kernel_rfl), ⟨(by (simp; omega)), (by decide)⟩⟩⟩⟩ ?_
   refine zBn 0 (Bk.mk (setAt (List.map dig cur) (List.length L) (cellsOf (dig c))) (Bk.ty (Bk.mk (List.map dig cur) 36 1 true false Kd.plain)) (Bk.sz (Bk.mk (List.map dig cur) 36 1 true false Kd.plain)) (Bk.arr (Bk.mk (List.map dig cur) 36 1 true false Kd.plain)) (Bk.fz (Bk.mk (List.map dig cur) 36 1 true false Kd.plain)) (Bk.kd (Bk.mk (List.map dig cur) 36 1 true false Kd.plain))) (Bk.mk (List.map dig (List.set cur (List.length L) c)) 36 1 true false Kd.plain) (by kernel_rfl) (by simp (disch := omega) only [cellsOf, setAt, zEi]) ?_
   refine zG [0, 1, 6, 24, 25, 26, 54, 55, 56, 57, 58, 59] [] ?_
   refine zB (zA rfl ?_)
   refine zAi 1 [(60, D.osl 0 0 (List.length L + 1) (List.length L + 1) true)] ?_
   refine zAq [D.row (List.take (List.length L + 1) (List.drop 0 (List.map dig (List.set cur (List.length L) c)))) (List.length L + 1)] [0] [D.row (List.map dig (List.take (List.length L + 1) (List.set cur (List.length L) c))) (List.length L + 1)] (by kernel_rfl) (LeL.of_eq (by simp (disch := omega) only [List.drop_zero, zFm])) (by exact zEg _ _ (by simp; omega) (by omega) ((h4.set _ _ (by omega) (by omega)).take _)) ?_
   refine zG [5, 60, 61] [(4, natD (nval (List.take (List.length L + 1) (List.set cur (List.length L) c))))] ?_
   refine zW ?_
   refine zZ (True) (natD (nval (List.take (List.length L + 1) (List.set cur (List.length L) c)))) (natD (nval (List.take (List.length L + 1) (List.set cur (List.length L) c)))) (.inr rfl) (by kernel_rfl) trivial rfl ?_
   rotate_left
  ·obtain ⟨s1, s2⟩ := zG4 (by omega) h2 dL dS h5
   refine ⟨k + 1, (c + L.getD k 0 + M.getD k 0) / 4294967296, cur.set k ((c + L.getD k 0 + M.getD k 0) % 4294967296), ⟨by omega, s1, by simpa using h3, h4.set _ _ (by omega) (by omega), s2⟩, by omega, ?_⟩
   refine zAp [(0, 1), (1, 1), (4, 1), (5, 1), (6, 1), (24, 1), (25, 1)] (digR L = digR L ∧ digR M = digR M ∧ nl = nl ∧ D.osl 0 0 (List.length L + 1) (List.length L + 1) true = D.osl 0 0 (List.length L + 1) (List.length L + 1) true ∧ D.val (Value.int IntKind.u64 (↑((c + List.getD L k 0 + List.getD M k 0) / 4294967296) : Int)) = D.val (Value.int IntKind.u64 (↑((c + List.getD L k 0 + List.getD M k 0) / 4294967296) : Int)) ∧ iD (↑(List.length L) : Int) = iD (↑(List.length L) : Int) ∧ iD (↑(k + 1) : Int) = iD (↑(k + 1) : Int)) 1 [] (by kernel_rfl) ⟨rfl, rfl, rfl, rfl, rfl, rfl, rfl⟩ (by kernel_rfl) (fun _ _ => rfl) (by kernel_rfl)
  ·obtain ⟨s1, s2⟩ := zG4 (by omega) h2 dL dS h5
   have e0 : M.getD k 0 = 0 := by rw [List.getD_eq_getElem?_getD, List.getElem?_eq_none (by omega)]; rfl
   rw [e0, Nat.add_zero] at s1 s2
   refine ⟨k + 1, (c + L.getD k 0) / 4294967296, cur.set k ((c + L.getD k 0) % 4294967296), ⟨by omega, s1, by simpa using h3, h4.set _ _ (by omega) (by omega), s2⟩, by omega, ?_⟩
   refine zAp [(0, 1), (1, 1), (4, 1), (5, 1), (6, 1), (24, 1), (25, 1)] (digR L = digR L ∧ digR M = digR M ∧ nl = nl ∧ D.osl 0 0 (List.length L + 1) (List.length L + 1) true = D.osl 0 0 (List.length L + 1) (List.length L + 1) true ∧ D.val (Value.int IntKind.u64 (↑((c + List.getD L k 0) / 4294967296) : Int)) = D.val (Value.int IntKind.u64 (↑((c + List.getD L k 0) / 4294967296) : Int)) ∧ iD (↑(List.length L) : Int) = iD (↑(List.length L) : Int) ∧ iD (↑(k + 1) : Int) = iD (↑(k + 1) : Int)) 1 [] (by kernel_rfl) ⟨rfl, rfl, rfl, rfl, rfl, rfl, rfl⟩ (by kernel_rfl) (fun _ _ => rfl) (by kernel_rfl)
  ·have ek : k = L.length := by omega
   subst ek
   have e1 : nval ((cur.set L.length c).take (L.length + 1)) = nval a + nval b := by
    rw [zA4, take_set, zEy _ _ _ _ (by omega), if_pos rfl, h5, List.take_length, List.take_of_length_le (by omega), ev]
   rw [e1]
 all_goals omega
theorem zSd (a : Int) : Pure Tryz.prog 106 [.val (.int .i64 a)] [] (.val (.bool false)) := by
 refine zP zAo mixed Tryz.func106 rfl ?_
 focus
  refine zB (zA rfl ?_)
  refine zG [] [(2, bD false)] ?_
  refine zB (zA rfl ?_)
  refine zG [0, 3, 4, 5] [(2, bD (a != a))] ?_
  refine zW ?_
  refine zZ (True) (bD (a != a)) (D.val (Value.bool (a != a))) (.inr rfl) (by kernel_rfl) trivial rfl (by simp)
theorem zPy (a b : Int) : Pure Tryz.prog 66 [.val (.int .i64 a), .val (.int .i64 b)] [] (.val (.int .i64 (cmpD a b))) := by
 refine zP zAo mixed Tryz.func66 rfl ?_
 focus
  refine zB (zA rfl ?_)
  refine zG [] [(4, iD 0)] ?_
  refine zB (zA rfl ?_)
  refine zAi 1 [(7, iD a)] ?_
  refine zX [iD a] (by exact zSd _) ?_
  refine zG [7, 8] [(5, bD false)] ?_
  refine zB (zA rfl ?_)
  refine zAi 1 [(9, iD b)] ?_
  refine zX [iD b] (by exact zSd _) ?_
  refine zG [9, 10] [(6, bD false)] ?_
  refine zB (zB (zA rfl ?_))
  refine zG [5] [(11, bD false)] ?_
  refine zS ?_
  refine zJ (zC (zD (zB (zB (zA rfl ?_)))))
  refine zG [6, 11] [(13, bD false)] ?_
  refine zS ?_
  refine zJ (zC (zD (zB (zB (zA rfl ?_)))))
  refine zG [13, 14, 15] [(16, bD (decide (a < b)))] ?_
  refine zAm (t := decide (a < b)) (by kernel_rfl) (fun hc => ?_) (fun hc => ?_)
  simp only [decide_eq_true_eq] at hc
  refine zB (zA rfl ?_)
  refine zG [16] [(4, iD (-1))] ?_
  refine zW (zR ?_)
  refine zZ (True) (iD (-1)) (D.val (Value.int IntKind.i64 (-1))) (.inr rfl) (by kernel_rfl) trivial rfl ?_
  rotate_left
  simp only [decide_eq_false_iff_not] at hc
  refine zJ (zC (zD (zB (zB (zA rfl ?_)))))
  refine zG [0, 1, 16, 17, 18] [(19, bD (decide (a > b)))] ?_
  refine zAm (t := decide (a > b)) (by kernel_rfl) (fun hc => ?_) (fun hc => ?_)
  simp only [decide_eq_true_eq] at hc
  refine zB (zA rfl ?_)
  refine zG [19] [(4, iD 1)] ?_
  refine zW (zR ?_)
  refine zZ (True) (iD 1) (D.val (Value.int IntKind.i64 1)) (.inr rfl) (by kernel_rfl) trivial rfl ?_
  rotate_left
  simp only [decide_eq_false_iff_not] at hc
  refine zJ (zC (zD (zB (zA rfl ?_))))
  refine zG [19] [] ?_
  refine zW ?_
  refine zZ (True) (iD 0) (D.val (Value.int IntKind.i64 0)) (.inr rfl) (by kernel_rfl) trivial rfl ?_
  rotate_left
 all_goals (unfold cmpD; (repeat' split) <;> first | rfl | omega)
theorem zJ8 (a : Int) : Pure Tryz.prog 107 [.val (.int .u32 a)] [] (.val (.bool false)) := by
 refine zP zAo mixed Tryz.func107 rfl ?_
 focus
  refine zB (zA rfl ?_)
  refine zG [] [(2, bD false)] ?_
  refine zB (zA rfl ?_)
  refine zG [0, 3, 4, 5] [(2, bD (a != a))] ?_
  refine zW ?_
  refine zZ (True) (bD (a != a)) (D.val (Value.bool (a != a))) (.inr rfl) (by kernel_rfl) trivial rfl (by simp)
theorem zNv (a b : Int) : Pure Tryz.prog 67 [.val (.int .u32 a), .val (.int .u32 b)] [] (.val (.int .i64 (cmpD a b))) := by
 refine zP zAo mixed Tryz.func67 rfl ?_
 focus
  refine zB (zA rfl ?_)
  refine zG [] [(4, iD 0)] ?_
  refine zB (zA rfl ?_)
  refine zAi 1 [(7, D.val (Value.int IntKind.u32 a))] ?_
  refine zX [D.val (Value.int IntKind.u32 a)] (by exact zJ8 _) ?_
  refine zG [7, 8] [(5, bD false)] ?_
  refine zB (zA rfl ?_)
  refine zAi 1 [(9, D.val (Value.int IntKind.u32 b))] ?_
  refine zX [D.val (Value.int IntKind.u32 b)] (by exact zJ8 _) ?_
  refine zG [9, 10] [(6, bD false)] ?_
  refine zB (zB (zA rfl ?_))
  refine zG [5] [(11, bD false)] ?_
  refine zS ?_
  refine zJ (zC (zD (zB (zB (zA rfl ?_)))))
  refine zG [6, 11] [(13, bD false)] ?_
  refine zS ?_
  refine zJ (zC (zD (zB (zB (zA rfl ?_)))))
  refine zG [13, 14, 15] [(16, bD (decide (a < b)))] ?_
  refine zAm (t := decide (a < b)) (by kernel_rfl) (fun hc => ?_) (fun hc => ?_)
  simp only [decide_eq_true_eq] at hc
  refine zB (zA rfl ?_)
  refine zG [16] [(4, iD (-1))] ?_
  refine zW (zR ?_)
  refine zZ (True) (iD (-1)) (D.val (Value.int IntKind.i64 (-1))) (.inr rfl) (by kernel_rfl) trivial rfl ?_
  rotate_left
  simp only [decide_eq_false_iff_not] at hc
  refine zJ (zC (zD (zB (zB (zA rfl ?_)))))
  refine zG [0, 1, 16, 17, 18] [(19, bD (decide (a > b)))] ?_
  refine zAm (t := decide (a > b)) (by kernel_rfl) (fun hc => ?_) (fun hc => ?_)
  simp only [decide_eq_true_eq] at hc
  refine zB (zA rfl ?_)
  refine zG [19] [(4, iD 1)] ?_
  refine zW (zR ?_)
  refine zZ (True) (iD 1) (D.val (Value.int IntKind.i64 1)) (.inr rfl) (by kernel_rfl) trivial rfl ?_
  rotate_left
  simp only [decide_eq_false_iff_not] at hc
  refine zJ (zC (zD (zB (zA rfl ?_))))
  refine zG [19] [] ?_
  refine zW ?_
  refine zZ (True) (iD 0) (D.val (Value.int IntKind.i64 0)) (.inr rfl) (by kernel_rfl) trivial rfl ?_
  rotate_left
 all_goals (unfold cmpD; (repeat' split) <;> first | rfl | omega)
theorem zL7 (a : Int) : Pure Tryz.prog 141 [.val (.int .i64 a)] [] (.val (.bool false)) := by
 refine zP zAo mixed Tryz.func141 rfl ?_
 focus
  refine zB (zA rfl ?_)
  refine zG [] [(2, bD false)] ?_
  refine zB (zA rfl ?_)
  refine zG [0, 3, 4, 5] [(2, bD (a != a))] ?_
  refine zW ?_
  refine zZ (True) (bD (a != a)) (D.val (Value.bool (a != a))) (.inr rfl) (by kernel_rfl) trivial rfl (by simp)
theorem zQv (a b : Int) : Pure Tryz.prog 127 [.val (.int .i64 a), .val (.int .i64 b)] [] (.val (.int .i64 (cmpD a b))) := by
 refine zP zAo mixed Tryz.func127 rfl ?_
 focus
  refine zB (zA rfl ?_)
  refine zG [] [(4, iD 0)] ?_
  refine zB (zA rfl ?_)
  refine zAi 1 [(7, iD a)] ?_
  refine zX [iD a] (by exact zL7 _) ?_
  refine zG [7, 8] [(5, bD false)] ?_
  refine zB (zA rfl ?_)
  refine zAi 1 [(9, iD b)] ?_
  refine zX [iD b] (by exact zL7 _) ?_
  refine zG [9, 10] [(6, bD false)] ?_
  refine zB (zB (zA rfl ?_))
  refine zG [5] [(11, bD false)] ?_
  refine zS ?_
  refine zJ (zC (zD (zB (zB (zA rfl ?_)))))
  refine zG [6, 11] [(13, bD false)] ?_
  refine zS ?_
  refine zJ (zC (zD (zB (zB (zA rfl ?_)))))
  refine zG [13, 14, 15] [(16, bD (decide (a < b)))] ?_
  refine zAm (t := decide (a < b)) (by kernel_rfl) (fun hc => ?_) (fun hc => ?_)
  simp only [decide_eq_true_eq] at hc
  refine zB (zA rfl ?_)
  refine zG [16] [(4, iD (-1))] ?_
  refine zW (zR ?_)
  refine zZ (True) (iD (-1)) (D.val (Value.int IntKind.i64 (-1))) (.inr rfl) (by kernel_rfl) trivial rfl ?_
  rotate_left
  simp only [decide_eq_false_iff_not] at hc
  refine zJ (zC (zD (zB (zB (zA rfl ?_)))))
  refine zG [0, 1, 16, 17, 18] [(19, bD (decide (a > b)))] ?_
  refine zAm (t := decide (a > b)) (by kernel_rfl) (fun hc => ?_) (fun hc => ?_)
  simp only [decide_eq_true_eq] at hc
  refine zB (zA rfl ?_)
  refine zG [19] [(4, iD 1)] ?_
  refine zW (zR ?_)
  refine zZ (True) (iD 1) (D.val (Value.int IntKind.i64 1)) (.inr rfl) (by kernel_rfl) trivial rfl ?_
  rotate_left
  simp only [decide_eq_false_iff_not] at hc
  refine zJ (zC (zD (zB (zA rfl ?_))))
  refine zG [19] [] ?_
  refine zW ?_
  refine zZ (True) (iD 0) (D.val (Value.int IntKind.i64 0)) (.inr rfl) (by kernel_rfl) trivial rfl ?_
  rotate_left
 all_goals (unfold cmpD; (repeat' split) <;> first | rfl | omega)
set_option maxHeartbeats 2000000 in
theorem mul_c (a b : List Nat) (n m : Nat) (hn : a.length = n) (hm : b.length = m) (hl : n ≤ 1000000) (hl' : m ≤ 1000000) (ha : Digs a) (hb : Digs b) : Pure Tryz.prog 86 [.row (a.map dig) n, .row (b.map dig) m] [] (natD (nval a * nval b)) := by
 subst hn hm
 have la := zH6 ha
 have lb := zH6 hb
 refine zP zAo mixed Tryz.func86 rfl ?_
 focus
  refine zB (zA rfl ?_)
  refine zG [] [(4, nl)] ?_
  refine zB (zA rfl ?_)
  refine zAi 1 [(9, digR a)] ?_
  refine zX [digR a] (by exact zEg a _ rfl (by omega) ha) ?_
  refine zAi 1 [(11, digR b)] ?_
  refine zX [digR b] (by exact zEg b _ rfl (by omega) hb) ?_
  refine zG [9, 10, 11, 12] [(0, natD (nval a)), (1, natD (nval b))] ?_
  refine zB (zA rfl ?_)
  refine zF 5 [] [] (-9223372036854775808 ≤ (↑(List.length (dg (nval a))) : Int) + (↑(List.length (dg (nval b))) : Int) ∧ (↑(List.length (dg (nval a))) : Int) + (↑(List.length (dg (nval b))) : Int) ≤ 9223372036854775807) [(13, natD (nval a)), (14, iD (↑(List.length (dg (nval a))) : Int)), (15, natD (nval b)), (16, iD (↑(List.length (dg (nval b))) : Int)), (17, iD ((↑(List.length (dg (nval a))) : Int) + (↑(List.length (dg (nval b))) : Int)))] (by kernel_rfl) (by omega) ?_
  refine zY 17 (iD ((↑(List.length (dg (nval a))) : Int) + (↑(List.length (dg (nval b))) : Int))) (iD (↑(List.length (dg (nval a)) + List.length (dg (nval b))) : Int)) (by kernel_rfl) (by simp (disch := omega) only [zCf]) (by kernel_rfl) ?_
  refine zAg 1 [] [] ((0 : Int) ≤ (↑(List.length (dg (nval a)) + List.length (dg (nval b))) : Int) ∧ (↑(List.length (dg (nval a)) + List.length (dg (nval b))) : Int) ≤ (↑(List.length (dg (nval a)) + List.length (dg (nval b))) : Int) ∧ (↑(4 : Nat) : Int) * (↑(List.length (dg (nval a)) + List.length (dg (nval b))) : Int) ≤ (281474976710656 : Int) ∧ (↑(List.length (dg (nval a)) + List.length (dg (nval b))) : Int) ≤ (281474976710656 : Int) ∧ 0 < 1 ∧ 1 = 1) [(18, D.osl 0 0 (Int.toNat (↑(List.length (dg (nval a)) + List.length (dg (nval b))) : Int)) (Int.toNat (↑(List.length (dg (nval a)) + List.length (dg (nval b))) : Int) * 1) true)] [] [Bk.mk (repL (Int.toNat (↑(List.length (dg (nval a)) + List.length (dg (nval b))) : Int)) [D.val (Value.int IntKind.u32 0)]) 36 1 true false (kdOf false)] (by kernel_rfl) (by omega) ?_
  refine zBn 0 (Bk.mk (repL (Int.toNat (↑(List.length (dg (nval a)) + List.length (dg (nval b))) : Int)) [D.val (Value.int IntKind.u32 0)]) 36 1 true false (kdOf false)) (Bk.mk (List.map dig (List.replicate (List.length (dg (nval a)) + List.length (dg (nval b))) 0)) 36 1 true false (kdOf false)) (by kernel_rfl) (by simp (disch := omega) only [Int.toNat_natCast, zKx]) ?_
  refine zAi 1 [(5, D.osl 0 0 (Int.toNat (↑(List.length (dg (nval a)) + List.length (dg (nval b))) : Int)) (Int.toNat (↑(List.length (dg (nval a)) + List.length (dg (nval b))) : Int) * 1) true)] ?_
  refine zY 5 (D.osl 0 0 (Int.toNat (↑(List.length (dg (nval a)) + List.length (dg (nval b))) : Int)) (Int.toNat (↑(List.length (dg (nval a)) + List.length (dg (nval b))) : Int) * 1) true) (D.osl 0 0 (List.length (dg (nval a)) + List.length (dg (nval b))) (List.length (dg (nval a)) + List.length (dg (nval b))) true) (by kernel_rfl) (by simp (disch := omega) only [Int.toNat_natCast, Nat.mul_one]) (by kernel_rfl) ?_
  refine zG [13, 14, 15, 16, 17, 18] [] ?_
  refine zB (zB (zA rfl ?_))
  refine zG [19] [(20, iD (↑(List.length (dg (nval a))) : Int)), (21, iD 0)] ?_
  refine zE ?_
  rotate_left
 have ev : nval a * nval b = nval (dg (nval a)) * nval (dg (nval b)) := by rw [zBk, zBk]
 rw [ev]
 have dA : Digs (dg (nval a)) := zBl _
 have dB : Digs (dg (nval b)) := zBl _
 generalize dg (nval a) = A at *
 generalize dg (nval b) = B at *
 refine zTn (fun (i : Nat) (cur : List Nat) => [digR A, digR B, U, U, nl, D.osl 0 0 (List.length A + List.length B) (List.length A + List.length B) true, U, U, U, U, U, U, U, U, U, U, U, U, U, U, iD (↑(List.length A) : Int), iD ↑i, U, U, U, U, U, U, U, U, U, U, U, U, U, U, U, U, U, U, U, U, U, U, U, U, U, U, U, U, U, U, U, U, U, U, U, U, U, U, U, U, U, U, U, U, U, U, U, U, U]) (fun i cur => [⟨cur.map dig, 36, 1, true, false, .plain⟩]) (fun i cur => A.length - i) (fun i cur => i ≤ A.length ∧ cur.length = A.length + B.length ∧ Digs cur ∧ (∀ t, i + B.length ≤ t → cur.getD t 0 = 0) ∧ nval cur = nval (A.take i) * nval B) 0 (List.replicate (A.length + B.length) 0) ?_ ?_ ?_
 ·refine ⟨by simp, by simp, Digs.replicate _, fun t _ => ?_, ?_⟩
  ·simp only [List.getD_eq_getElem?_getD, List.getElem?_replicate]; split <;> rfl
  ·rw [zJr]; simp [nval]
 ·refine zAp [(0, 1), (1, 1), (4, 1), (5, 1), (20, 1), (21, 1)] (digR A = digR A ∧ digR B = digR B ∧ nl = nl ∧ D.osl 0 0 (List.length A + List.length B) (List.length A + List.length B) true = D.osl 0 0 (List.length A + List.length B) (List.length A + List.length B) true ∧ iD (↑(List.length A) : Int) = iD (↑(List.length A) : Int) ∧ iD 0 = iD (↑(0 : Nat) : Int)) 1 [] (by kernel_rfl) ⟨rfl, rfl, rfl, rfl, rfl, (by kernel_rfl)⟩ (by kernel_rfl) (fun _ _ => rfl) (by kernel_rfl)
 rintro i cur ⟨h1, h2, h3, h4, h5⟩
 focus
  refine zB (zA rfl ?_)
  refine zG [] [(22, bD (decide ((↑i : Int) < (↑(List.length A) : Int))))] ?_
  refine zB ?_
  refine zAm (t := decide ((↑i : Int) < (↑(List.length A) : Int))) (by kernel_rfl) (fun hc => ?_) (fun hc => ?_)
  simp only [decide_eq_true_eq] at hc
  refine zJ (zC (zD (zB (zE (zB (zA rfl ?_))))))
  refine zG [22, 23] [(6, iD ↑i)] ?_
  refine zB (zA rfl ?_)
  refine zG [] [(7, D.val (Value.int IntKind.u64 0))] ?_
  refine zB (zB (zA rfl ?_))
  refine zG [24] [(25, iD (↑(List.length B) : Int)), (26, iD 0)] ?_
  refine zE ?_
  rotate_left
  simp only [decide_eq_false_iff_not] at hc
  refine zAc (zK (zK (zV rfl (zC (zD (zB (zA rfl ?_)))))))
  refine zAi 1 [(69, D.osl 0 0 (List.length A + List.length B) (List.length A + List.length B) true)] ?_
  refine zAq [D.row (List.take (List.length A + List.length B) (List.drop 0 (List.map dig cur))) (List.length A + List.length B)] [0] [D.row (List.map dig (List.take (List.length A + List.length B) cur)) (List.length A + List.length B)] (by kernel_rfl) (LeL.of_eq (by simp (disch := omega) only [List.drop_zero, zFm])) (by exact zEg _ _ (by simp; omega) (by omega) (h3.take _)) ?_
  refine zG [0, 1, 5, 20, 21, 22, 69, 70] [(4, natD (nval (List.take (List.length A + List.length B) cur)))] ?_
  refine zW ?_
  refine zZ (True) (natD (nval (List.take (List.length A + List.length B) cur))) (natD (nval (List.take (List.length A + List.length B) cur))) (.inr rfl) (by kernel_rfl) trivial rfl ?_
  rotate_left
 ·refine zJf (fun (j c : Nat) (cur' : List Nat) => [digR A, digR B, U, U, nl, D.osl 0 0 (List.length A + List.length B) (List.length A + List.length B) true, iD (↑i : Int), D.val (Value.int IntKind.u64 (↑c : Int)), U, U, U, U, U, U, U, U, U, U, U, U, iD (↑(List.length A) : Int), iD (↑i : Int), U, U, U, iD (↑(List.length B) : Int), iD (↑j : Int), U, U, U, U, U, U, U, U, U, U, U, U, U, U, U, U, U, U, U, U, U, U, U, U, U, U, U, U, U, U, U, U, U, U, U, U, U, U, U, U, U, U, U, U]) (fun j c cur' => [⟨cur'.map dig, 36, 1, true, false, .plain⟩]) (fun j c cur' => B.length - j) (fun j c cur' => j ≤ B.length ∧ c < 4294967296 ∧ zM0 A B i j c cur') 0 0 cur ?_ ?_ ?_
  ·exact ⟨by simp, by simp, zSe h2 h3 h4 h5⟩
  ·refine zAp [(0, 1), (1, 1), (4, 1), (5, 1), (6, 1), (7, 1), (20, 1), (21, 1), (25, 1), (26, 1)] (digR A = digR A ∧ digR B = digR B ∧ nl = nl ∧ D.osl 0 0 (List.length A + List.length B) (List.length A + List.length B) true = D.osl 0 0 (List.length A + List.length B) (List.length A + List.length B) true ∧ iD (↑i : Int) = iD (↑i : Int) ∧ D.val (Value.int IntKind.u64 (0 : Int)) = D.val (Value.int IntKind.u64 (↑(0 : Nat) : Int)) ∧ iD (↑(List.length A) : Int) = iD (↑(List.length A) : Int) ∧ iD (↑i : Int) = iD (↑i : Int) ∧ iD (↑(List.length B) : Int) = iD (↑(List.length B) : Int) ∧ iD 0 = iD (↑(0 : Nat) : Int)) 1 [] (by kernel_rfl) ⟨rfl, rfl, rfl, rfl, rfl, (by kernel_rfl), rfl, rfl, rfl, (by kernel_rfl)⟩ (by kernel_rfl) (fun _ _ => rfl) (by kernel_rfl)
  rintro j c cur' ⟨k1, k2, k3⟩
  have hx := dA i
  have hy := dB j
  have hz := k3.2.1 (i + j)
  have hw := k3.1
  obtain ⟨b1, b2, b3⟩ := zSf hx hy k2 hz
  focus
   refine zB (zA rfl ?_)
   refine zG [] [(27, bD (decide ((↑j : Int) < (↑(List.length B) : Int))))] ?_
   refine zB ?_
   refine zAm (t := decide ((↑j : Int) < (↑(List.length B) : Int))) (by kernel_rfl) (fun hc => ?_) (fun hc => ?_)
   simp only [decide_eq_true_eq] at hc
   refine zJ (zC (zD (zB (zE (zB (zA rfl ?_))))))
   refine zG [27, 28] [(8, iD ↑j)] ?_
   refine zB ?_
   refine zT [0, 1, 2, 3, 6, 7, 8, 12, 13, 14, 15, 16, 4, 5, 9, 10, 11, 17, 18, 19, 20, 21] (by kernel_rfl) rfl ?_
   refine zF 4 [] [] ((0 : Int) ≤ (↑i : Int) ∧ (↑i : Int) < (↑(List.length A) : Int) ∧ List.map dig A ≠ []) [(29, D.val (Value.int IntKind.u64 (↑c : Int))), (30, digR A), (31, iD ↑i), (32, D.ptr (List.drop (Int.toNat (↑i : Int) * 1) (List.map dig A)))] (by kernel_rfl) ⟨(by omega), ⟨(by omega), (by exact zDm (by omega))⟩⟩ ?_
   refine zY 32 (D.ptr (List.drop (Int.toNat (↑i : Int) * 1) (List.map dig A))) (D.ptr (List.drop i (List.map dig A))) (by kernel_rfl) (by simp (disch := omega) only [Int.toNat_natCast, Nat.mul_one]) (by kernel_rfl) ?_
   refine zF 3 [] [] ((0 : Int) ≤ (↑j : Int) ∧ (↑j : Int) < (↑(List.length B) : Int) ∧ List.map dig B ≠ []) [(35, digR B), (36, iD ↑j), (37, D.ptr (List.drop (Int.toNat (↑j : Int) * 1) (List.map dig B)))] (by kernel_rfl) ⟨(by omega), ⟨(by omega), (by exact zDm (by omega))⟩⟩ ?_
   refine zY 37 (D.ptr (List.drop (Int.toNat (↑j : Int) * 1) (List.map dig B))) (D.ptr (List.drop j (List.map dig B))) (by kernel_rfl) (by simp (disch := omega) only [Int.toNat_natCast, Nat.mul_one]) (by kernel_rfl) ?_
   refine zF 4 [] [] (-9223372036854775808 ≤ (↑i : Int) + (↑j : Int) ∧ (↑i : Int) + (↑j : Int) ≤ 9223372036854775807) [(41, D.osl 0 0 (List.length A + List.length B) (List.length A + List.length B) true), (42, iD ↑i), (43, iD ↑j), (44, iD ((↑i : Int) + (↑j : Int)))] (by kernel_rfl) (by omega) ?_
   refine zY 44 (iD ((↑i : Int) + (↑j : Int))) (iD (↑(i + j) : Int)) (by kernel_rfl) (by simp (disch := omega) only [zCf]) (by kernel_rfl) ?_
   refine zF 1 [] [] ((0 : Int) ≤ (↑(i + j) : Int) ∧ (↑(i + j) : Int) < (↑(List.length A + List.length B) : Int)) [(45, D.own 0 (0 + Int.toNat (↑(i + j) : Int) * 1))] (by kernel_rfl) (by omega) ?_
   refine zY 45 (D.own 0 (0 + Int.toNat (↑(i + j) : Int) * 1)) (D.own 0 (i + j)) (by kernel_rfl) (by simp (disch := omega) only [Int.toNat_natCast, Nat.mul_one, Nat.zero_add]) (by kernel_rfl) ?_
   refine zF 1 [] [] (0 < List.length (List.drop i (List.map dig A))) [(33, List.headD (List.drop i (List.map dig A)) U)] (by kernel_rfl) (by (simp; omega)) ?_
   refine zY 33 (List.headD (List.drop i (List.map dig A)) U) (dig (List.getD A i 0)) (by kernel_rfl) (by simp (disch := omega) only [zBg]) (by kernel_rfl) ?_
   refine zF 2 [] [] (((0 : Int) ≤ (↑(List.getD A i 0) : Int) ∧ (↑(List.getD A i 0) : Int) ≤ (18446744073709551615 : Int)) ∧ 0 < List.length (List.drop j (List.map dig B))) [(34, D.val (Value.int IntKind.u64 (↑(List.getD A i 0) : Int))), (38, List.headD (List.drop j (List.map dig B)) U)] (by kernel_rfl) ⟨(by omega), (by (simp; omega))⟩ ?_
   refine zY 38 (List.headD (List.drop j (List.map dig B)) U) (dig (List.getD B j 0)) (by kernel_rfl) (by simp (disch := omega) only [zBg]) (by kernel_rfl) ?_
   refine zF 2 [] [] (((0 : Int) ≤ (↑(List.getD B j 0) : Int) ∧ (↑(List.getD B j 0) : Int) ≤ (18446744073709551615 : Int)) ∧ (0 : Int) ≤ (↑(List.getD A i 0) : Int) * (↑(List.getD B j 0) : Int) ∧ (↑(List.getD A i 0) : Int) * (↑(List.getD B j 0) : Int) ≤ (18446744073709551615 : Int)) [(39, D.val (Value.int IntKind.u64 (↑(List.getD B j 0) : Int))), (40, D.val (Value.int IntKind.u64 ((↑(List.getD A i 0) : Int) * (↑(List.getD B j 0) : Int))))] (by kernel_rfl) (by omega) ?_
   refine zY 40 (D.val (Value.int IntKind.u64 ((↑(List.getD A i 0) : Int) * (↑(List.getD B j 0) : Int)))) (D.val (Value.int IntKind.u64 (↑(List.getD A i 0 * List.getD B j 0) : Int))) (by kernel_rfl) (by simp (disch := omega) only [zVy]) (by kernel_rfl) ?_
   refine zF 1 [] [] (0 < List.length (List.drop (i + j) (List.map dig cur'))) [(46, List.headD (List.drop (i + j) (List.map dig cur')) U)] (by kernel_rfl) (by (simp; omega)) ?_
   refine zY 46 (List.headD (List.drop (i + j) (List.map dig cur')) U) (dig (List.getD cur' (i + j) 0)) (by kernel_rfl) (by simp (disch := omega) only [zBg]) (by kernel_rfl) ?_
   refine zF 2 [] [] (((0 : Int) ≤ (↑(List.getD cur' (i + j) 0) : Int) ∧ (↑(List.getD cur' (i + j) 0) : Int) ≤ (18446744073709551615 : Int)) ∧ (0 : Int) ≤ (↑(List.getD A i 0 * List.getD B j 0) : Int) + (↑(List.getD cur' (i + j) 0) : Int) ∧ (↑(List.getD A i 0 * List.getD B j 0) : Int) + (↑(List.getD cur' (i + j) 0) : Int) ≤ (18446744073709551615 : Int)) [(47, D.val (Value.int IntKind.u64 (↑(List.getD cur' (i + j) 0) : Int))), (48, D.val (Value.int IntKind.u64 ((↑(List.getD A i 0 * List.getD B j 0) : Int) + (↑(List.getD cur' (i + j) 0) : Int))))] (by kernel_rfl) (by omega) ?_
   refine zY 48 (D.val (Value.int IntKind.u64 ((↑(List.getD A i 0 * List.getD B j 0) : Int) + (↑(List.getD cur' (i + j) 0) : Int)))) (D.val (Value.int IntKind.u64 (↑(List.getD A i 0 * List.getD B j 0 + List.getD cur' (i + j) 0) : Int))) (by kernel_rfl) (by simp (disch := omega) only [zCf]) (by kernel_rfl) ?_
   refine zF 1 [] [] ((0 : Int) ≤ (↑c : Int) + (↑(List.getD A i 0 * List.getD B j 0 + List.getD cur' (i + j) 0) : Int) ∧ (↑c : Int) + (↑(List.getD A i 0 * List.getD B j 0 + List.getD cur' (i + j) 0) : Int) ≤ (18446744073709551615 : Int)) [(49, D.val (Value.int IntKind.u64 ((↑c : Int) + (↑(List.getD A i 0 * List.getD B j 0 + List.getD cur' (i + j) 0) : Int))))] (by kernel_rfl) (by omega) ?_
   refine zY 49 (D.val (Value.int IntKind.u64 ((↑c : Int) + (↑(List.getD A i 0 * List.getD B j 0 + List.getD cur' (i + j) 0) : Int)))) (D.val (Value.int IntKind.u64 (↑(c + (List.getD A i 0 * List.getD B j 0 + List.getD cur' (i + j) 0)) : Int))) (by kernel_rfl) (by simp (disch := omega) only [zCf]) (by kernel_rfl) ?_
   refine zG [29, 30, 31, 32, 33, 34, 35, 36, 37, 38, 39, 40, 41, 42, 43, 44, 45, 46, 47, 48, 49] [(7, D.val (Value.int IntKind.u64 (↑(c + (List.getD A i 0 * List.getD B j 0 + List.getD cur' (i + j) 0)) : Int)))] ?_
   refine zB (zA rfl ?_)
   refine zF 4 [] [] (-9223372036854775808 ≤ (↑i : Int) + (↑j : Int) ∧ (↑i : Int) + (↑j : Int) ≤ 9223372036854775807) [(50, D.osl 0 0 (List.length A + List.length B) (List.length A + List.length B) true), (51, iD ↑i), (52, iD ↑j), (53, iD ((↑i : Int) + (↑j : Int)))] (by kernel_rfl) (by omega) ?_
   refine zY 53 (iD ((↑i : Int) + (↑j : Int))) (iD (↑(i + j) : Int)) (by kernel_rfl) (by simp (disch := omega) only [zCf]) (by kernel_rfl) ?_
   refine zF 2 [55] [] (True) [(54, D.val (Value.int IntKind.u64 (↑(c + (List.getD A i 0 * List.getD B j 0 + List.getD cur' (i + j) 0)) : Int))), (55, D.val (Value.int IntKind.u32 (IntKind.wrap IntKind.u32 (↑(c + (List.getD A i 0 * List.getD B j 0 + List.getD cur' (i + j) 0)) : Int))))] (by kernel_rfl) trivial ?_
   refine zY 55 (D.val (Value.int IntKind.u32 (IntKind.wrap IntKind.u32 (↑(c + (List.getD A i 0 * List.getD B j 0 + List.getD cur' (i + j) 0)) : Int)))) (dig ((c + (List.getD A i 0 * List.getD B j 0 + List.getD cur' (i + j) 0)) % 4294967296)) (by kernel_rfl) (by simp (disch := omega) only [zBq]) (by kernel_rfl) ?_
   refine zF 1 [] [] ((0 : Int) ≤ (↑(i + j) : Int) ∧ (↑(i + j) : Int) < (↑(List.length A + List.length B) : Int)) [(56, D.own 0 (0 + Int.toNat (↑(i + j) : Int) * 1))] (by kernel_rfl) (by omega) ?_
   refine zY 56 (D.own 0 (0 + Int.toNat (↑(i + j) : Int) * 1)) (D.own 0 (i + j)) (by kernel_rfl) (by simp (disch := omega) only [Int.toNat_natCast, Nat.mul_one, Nat.zero_add]) (by kernel_rfl) ?_
   refine zAg 1 [] [] (Bk.fz (Bk.mk (List.map dig cur') 36 1 true false Kd.plain) = false ∧ true = true ∧ 1 = 1 ∧ i + j + 1 ≤ List.length (List.map dig cur') ∧ ¬0 ∈ []) [] [(0, Bk.mk (setAt (List.map dig cur') (i + j) (cellsOf (dig ((c + (List.getD A i 0 * List.getD B j 0 + List.getD cur' (i + j) 0)) % 4294967296)))) (Bk.ty (Bk.mk (List.map dig cur') 36 1 true false Kd.plain)) (Bk.sz (Bk.mk (List.map dig cur') 36 1 true false Kd.plain)) (Bk.arr (Bk.mk (List.map dig cur') 36 1 true false Kd.plain)) (Bk.fz (Bk.mk (List.map dig cur') 36 1 true false Kd.plain)) (Bk.kd (Bk.mk (List.map dig cur') 36 1 true false Kd.plain)))] [] (by kernel_rfl) ⟨(by kernel_rfl), ⟨(by kernel_rfl), ⟨(by kernel_rfl), ⟨(by (simp; omega)), (by decide)⟩⟩⟩⟩ ?_
   refine zBn 0 (Bk.mk (setAt (List.map dig cur') (i + j) (cellsOf (dig ((c + (List.getD A i 0 * List.getD B j 0 + List.getD cur' (i + j) 0)) % 4294967296)))) (Bk.ty (Bk.mk (List.map dig cur') 36 1 true false Kd.plain)) (Bk.sz (Bk.mk (List.map dig cur') 36 1 true false Kd.plain)) (Bk.arr (Bk.mk (List.map dig cur') 36 1 true false Kd.plain)) (Bk.fz (Bk.mk (List.map dig cur') 36 1 true false Kd.plain)) (Bk.kd (Bk.mk (List.map dig cur') 36 1 true false Kd.plain))) (Bk.mk (List.map dig (List.set cur' (i + j) ((c + (List.getD A i 0 * List.getD B j 0 + List.getD cur' (i + j) 0)) % 4294967296))) 36 1 true false Kd.plain) (by kernel_rfl) (by simp (disch := omega) only [cellsOf, setAt, zEi]) ?_
   refine zG [8, 50, 51, 52, 53, 54, 55, 56] [] ?_
   refine zA rfl ?_
   refine zF 2 [] [] ((0 : Int) ≤ (32 : Int)) [(57, D.val (Value.int IntKind.u64 (↑(c + (List.getD A i 0 * List.getD B j 0 + List.getD cur' (i + j) 0)) : Int))), (58, D.val (Value.int IntKind.u64 (Int.fdiv (↑(c + (List.getD A i 0 * List.getD B j 0 + List.getD cur' (i + j) 0)) : Int) ((2 : Int) ^ 32))))] (by kernel_rfl) (by omega) ?_
   refine zY 58 (D.val (Value.int IntKind.u64 (Int.fdiv (↑(c + (List.getD A i 0 * List.getD B j 0 + List.getD cur' (i + j) 0)) : Int) ((2 : Int) ^ 32)))) (D.val (Value.int IntKind.u64 (↑((c + (List.getD A i 0 * List.getD B j 0 + List.getD cur' (i + j) 0)) / 4294967296) : Int))) (by kernel_rfl) (by simp (disch := omega) only [zGd]) (by kernel_rfl) ?_
   refine zAi 1 [(7, D.val (Value.int IntKind.u64 (↑((c + (List.getD A i 0 * List.getD B j 0 + List.getD cur' (i + j) 0)) / 4294967296) : Int)))] ?_
   refine zAb ?_ (by kernel_rfl)
   refine zL (zC (zD (zA rfl ?_)))
   refine zF 1 [] [] (-9223372036854775808 ≤ (↑j : Int) + (1 : Int) ∧ (↑j : Int) + (1 : Int) ≤ 9223372036854775807) [(59, iD ((↑j : Int) + (1 : Int)))] (by kernel_rfl) (by omega) ?_
   refine zY 59 (iD ((↑j : Int) + (1 : Int))) (iD (↑(j + 1) : Int)) (by kernel_rfl) (by simp (disch := omega) only [zBh]) (by kernel_rfl) ?_
   refine zAi 1 [(26, iD (↑(j + 1) : Int))] ?_
   refine zAb ?_ (by kernel_rfl)
   refine zC ?_
   rotate_left
   simp only [decide_eq_false_iff_not] at hc
   refine zAc (zK (zK (zV rfl (zC (zD (zA rfl ?_))))))
   refine zF 5 [] [] (-9223372036854775808 ≤ (↑i : Int) + (↑(List.length B) : Int) ∧ (↑i : Int) + (↑(List.length B) : Int) ≤ 9223372036854775807) [(60, D.osl 0 0 (List.length A + List.length B) (List.length A + List.length B) true), (61, iD ↑i), (62, digR B), (63, iD (↑(List.length B) : Int)), (64, iD ((↑i : Int) + (↑(List.length B) : Int)))] (by kernel_rfl) (by omega) ?_
   refine zY 64 (iD ((↑i : Int) + (↑(List.length B) : Int))) (iD (↑(i + List.length B) : Int)) (by kernel_rfl) (by simp (disch := omega) only [zCf]) (by kernel_rfl) ?_
   refine zF 3 [] [] (((0 : Int) ≤ (↑c : Int) ∧ (↑c : Int) ≤ (4294967295 : Int)) ∧ (0 : Int) ≤ (↑(i + List.length B) : Int) ∧ (↑(i + List.length B) : Int) < (↑(List.length A + List.length B) : Int)) [(65, D.val (Value.int IntKind.u64 (↑c : Int))), (66, dig c), (67, D.own 0 (0 + Int.toNat (↑(i + List.length B) : Int) * 1))] (by kernel_rfl) (by omega) ?_
   refine zY 67 (D.own 0 (0 + Int.toNat (↑(i + List.length B) : Int) * 1)) (D.own 0 (i + List.length B)) (by kernel_rfl) (by simp (disch := omega) only [Int.toNat_natCast, Nat.mul_one, Nat.zero_add]) (by kernel_rfl) ?_
   refine zAg 1 [] [] (Bk.fz (Bk.mk (List.map dig cur') 36 1 true false Kd.plain) = false ∧ true = true ∧ 1 = 1 ∧ i + List.length B + 1 ≤ List.length (List.map dig cur') ∧ ¬0 ∈ []) [] [(0, Bk.mk (setAt (List.map dig cur') (i + List.length B) (cellsOf (dig c))) (Bk.ty (Bk.mk (List.map dig cur') 36 1 true false Kd.plain)) (Bk.sz (Bk.mk (List.map dig cur') 36 1 true false Kd.plain)) (Bk.arr (Bk.mk (List.map dig cur') 36 1 true false Kd.plain)) (Bk.fz (Bk.mk (List.map dig cur') 36 1 true false Kd.plain)) (Bk.kd (Bk.mk (List.map dig cur') 36 1 true false Kd.plain)))] [] (by kernel_rfl) ⟨(by kernel_rfl), ⟨(by kernel_rfl), ⟨(by kernel_rfl), ⟨(by (simp; omega)), (by decide)⟩⟩⟩⟩ ?_
   refine zBn 0 (Bk.mk (setAt (List.map dig cur') (i + List.length B) (cellsOf (dig c))) (Bk.ty (Bk.mk (List.map dig cur') 36 1 true false Kd.plain)) (Bk.sz (Bk.mk (List.map dig cur') 36 1 true false Kd.plain)) (Bk.arr (Bk.mk (List.map dig cur') 36 1 true false Kd.plain)) (Bk.fz (Bk.mk (List.map dig cur') 36 1 true false Kd.plain)) (Bk.kd (Bk.mk (List.map dig cur') 36 1 true false Kd.plain))) (Bk.mk (List.map dig (List.set cur' (i + List.length B) c)) 36 1 true false Kd.plain) (by kernel_rfl) (by simp (disch := omega) only [cellsOf, setAt, zEi]) ?_
   refine zAb ?_ (by kernel_rfl)
   refine zL (zC (zD (zA rfl ?_)))
   refine zF 1 [] [] (-9223372036854775808 ≤ (↑i : Int) + (1 : Int) ∧ (↑i : Int) + (1 : Int) ≤ 9223372036854775807) [(68, iD ((↑i : Int) + (1 : Int)))] (by kernel_rfl) (by omega) ?_
   refine zY 68 (iD ((↑i : Int) + (1 : Int))) (iD (↑(i + 1) : Int)) (by kernel_rfl) (by simp (disch := omega) only [zBh]) (by kernel_rfl) ?_
   refine zAi 1 [(21, iD (↑(i + 1) : Int))] ?_
   refine zAb ?_ (by kernel_rfl)
   refine zC ?_
   rotate_left
  ·refine ⟨j + 1, (c + (A.getD i 0 * B.getD j 0 + cur'.getD (i + j) 0)) / 4294967296, cur'.set (i + j) ((c + (A.getD i 0 * B.getD j 0 + cur'.getD (i + j) 0)) % 4294967296), ⟨by omega, b3, zVj (by omega) (by omega) k3⟩, by omega, ?_⟩
   refine zAp [(0, 1), (1, 1), (4, 1), (5, 1), (6, 1), (7, 1), (20, 1), (21, 1), (25, 1), (26, 1)] (digR A = digR A ∧ digR B = digR B ∧ nl = nl ∧ D.osl 0 0 (List.length A + List.length B) (List.length A + List.length B) true = D.osl 0 0 (List.length A + List.length B) (List.length A + List.length B) true ∧ iD (↑i : Int) = iD (↑i : Int) ∧ D.val (Value.int IntKind.u64 (↑((c + (List.getD A i 0 * List.getD B j 0 + List.getD cur' (i + j) 0)) / 4294967296) : Int)) = D.val (Value.int IntKind.u64 (↑((c + (List.getD A i 0 * List.getD B j 0 + List.getD cur' (i + j) 0)) / 4294967296) : Int)) ∧ iD (↑(List.length A) : Int) = iD (↑(List.length A) : Int) ∧ iD (↑i : Int) = iD (↑i : Int) ∧ iD (↑(List.length B) : Int) = iD (↑(List.length B) : Int) ∧ iD (↑(j + 1) : Int) = iD (↑(j + 1) : Int)) 1 [] (by kernel_rfl) ⟨rfl, rfl, rfl, rfl, rfl, rfl, rfl, rfl, rfl, rfl⟩ (by kernel_rfl) (fun _ _ => rfl) (by kernel_rfl)
  ·have ej : j = B.length := by omega
   subst ej
   obtain ⟨m1, m2, m3, m4⟩ := mul_end (by omega) k2 k3
   refine ⟨i + 1, cur'.set (i + B.length) c, ⟨by omega, m1, m2, m3, m4⟩, by omega, ?_⟩
   refine zAp [(0, 1), (1, 1), (4, 1), (5, 1), (20, 1), (21, 1)] (digR A = digR A ∧ digR B = digR B ∧ nl = nl ∧ D.osl 0 0 (List.length A + List.length B) (List.length A + List.length B) true = D.osl 0 0 (List.length A + List.length B) (List.length A + List.length B) true ∧ iD (↑(List.length A) : Int) = iD (↑(List.length A) : Int) ∧ iD (↑(i + 1) : Int) = iD (↑(i + 1) : Int)) 1 [] (by kernel_rfl) ⟨rfl, rfl, rfl, rfl, rfl, rfl⟩ (by kernel_rfl) (fun _ _ => rfl) (by kernel_rfl)
 ·have ei : i = A.length := by omega
  rw [List.take_of_length_le (by omega), h5, ei, List.take_length]
theorem cmp_c (a b : List Nat) (n m : Nat) (hn : a.length = n) (hm : b.length = m) (hl : n ≤ 1000000) (hl' : m ≤ 1000000) (ha : Digs a) (hb : Digs b) : Pure Tryz.prog 27 [.row (a.map dig) n, .row (b.map dig) m] [] (.val (.int .i64 (cmpD (nval a) (nval b)))) := by
 subst hn hm
 have la := zH6 ha
 have lb := zH6 hb
 refine zP zAo mixed Tryz.func27 rfl ?_
 focus
  refine zB (zA rfl ?_)
  refine zG [] [(4, iD 0)] ?_
  refine zB (zA rfl ?_)
  refine zAi 1 [(6, digR a)] ?_
  refine zX [digR a] (by exact zEg a _ rfl (by omega) ha) ?_
  refine zAi 1 [(8, digR b)] ?_
  refine zX [digR b] (by exact zEg b _ rfl (by omega) hb) ?_
  refine zG [6, 7, 8, 9] [(0, natD (nval a)), (1, natD (nval b))] ?_
  refine zB (zB (zA rfl ?_))
  refine zG [10, 11, 12, 13] [(14, bD ((↑(List.length (dg (nval a))) : Int) != (↑(List.length (dg (nval b))) : Int)))] ?_
  refine zAm (t := (↑(List.length (dg (nval a))) : Int) != (↑(List.length (dg (nval b))) : Int)) (by kernel_rfl) (fun hc => ?_) (fun hc => ?_)
  simp only [bne_iff_ne] at hc
  refine zB (zA rfl ?_)
  refine zAi 4 [(15, natD (nval a)), (16, iD (↑(List.length (dg (nval a))) : Int)), (17, natD (nval b)), (18, iD (↑(List.length (dg (nval b))) : Int))] ?_
  refine zX [iD (↑(List.length (dg (nval a))) : Int), iD (↑(List.length (dg (nval b))) : Int)] (by exact zPy _ _) ?_
  refine zG [14, 15, 16, 17, 18, 19] [(4, iD (cmpD (↑(List.length (dg (nval a))) : Int) (↑(List.length (dg (nval b))) : Int)))] ?_
  refine zW (zR ?_)
  refine zZ (True) (iD (cmpD (↑(List.length (dg (nval a))) : Int) (↑(List.length (dg (nval b))) : Int))) (D.val (Value.int IntKind.i64 (cmpD (↑(List.length (dg (nval a))) : Int) (↑(List.length (dg (nval b))) : Int)))) (.inr rfl) (by kernel_rfl) trivial rfl ?_
  rotate_left
  simp only [bne_eq_false_iff_eq] at hc
  refine zJ (zC (zD (zB (zB (zA rfl ?_)))))
  refine zQ [] [] [14, 20, 21, 22] (-9223372036854775808 ≤ (↑(List.length (dg (nval a))) : Int) - (1 : Int) ∧ (↑(List.length (dg (nval a))) : Int) - (1 : Int) ≤ 9223372036854775807) [(5, iD ((↑(List.length (dg (nval a))) : Int) - (1 : Int)))] (by kernel_rfl) (by omega) ?_
  refine zE ?_
  rotate_left
 ·congr 2
  have n1 := zL2 (nval a)
  have n2 := zL2 (nval b)
  have e1 := zBk (nval a)
  have e2 := zBk (nval b)
  refine zS7 (fun h => ?_) (fun h => ?_) (fun h => by omega)
  ·have := Normal.lt_of_length (zBl (nval a)) n2 h; omega
  ·have := Normal.lt_of_length (zBl (nval b)) n1 h; omega
 ·have ev : cmpD (nval a) (nval b) = cmpD (nval (dg (nval a))) (nval (dg (nval b))) := by rw [zBk, zBk]
  rw [ev]
  have dA : Digs (dg (nval a)) := zBl _
  have dB : Digs (dg (nval b)) := zBl _
  generalize dg (nval a) = A at *
  generalize dg (nval b) = B at *
  refine zC0 (fun (n : Nat) => [digR A, digR B, U, U, U, iD ((↑n : Int) - (1 : Int)), U, U, U, U, U, U, U, U, U, U, U, U, U, U, U, U, U, U, U, U, U, U, U, U, U, U, U, U, U, U, U, U, U, U, U, U, U, U, U]) (fun _ => []) (fun n => n) (fun n => n ≤ A.length ∧ A.drop n = B.drop n) A.length ?_ ?_ ?_
  ·exact ⟨Nat.le_refl _, by rw [List.drop_length, List.drop_of_length_le (by omega)]⟩
  ·refine zAp [(0, 1), (1, 1), (5, 1)] (digR A = digR A ∧ digR B = digR B ∧ iD ((↑(List.length A) : Int) - (1 : Int)) = iD ((↑(List.length A) : Int) - (1 : Int))) 0 [] (by kernel_rfl) ⟨rfl, rfl, rfl⟩ (by kernel_rfl) (fun _ _ => rfl) (by kernel_rfl)
  rintro n ⟨h1, h2⟩
  focus
   refine zB (zB (zA rfl ?_))
   refine zG [23] [(24, bD (decide ((↑n : Int) - (1 : Int) ≥ (0 : Int))))] ?_
   refine zAm (t := decide ((↑n : Int) - (1 : Int) ≥ (0 : Int))) (by kernel_rfl) (fun hc => ?_) (fun hc => ?_)
   simp only [decide_eq_true_eq] at hc
   refine zJ (zC (zD (zB (zE (zB ?_)))))
   refine zT [0, 1, 2, 4, 5, 6, 3, 7, 8] (by kernel_rfl) rfl ?_
   refine zAi 2 [(27, digR A), (28, iD ((↑n : Int) - (1 : Int)))] ?_
   refine zY 28 (iD ((↑n : Int) - (1 : Int))) (iD (↑(n - 1) : Int)) (by kernel_rfl) (by simp (disch := omega) only [zCw]) (by kernel_rfl) ?_
   refine zF 1 [] [] ((0 : Int) ≤ (↑(n - 1) : Int) ∧ (↑(n - 1) : Int) < (↑(List.length A) : Int) ∧ List.map dig A ≠ []) [(29, D.ptr (List.drop (Int.toNat (↑(n - 1) : Int) * 1) (List.map dig A)))] (by kernel_rfl) ⟨(by omega), ⟨(by omega), (by exact zDm (by omega))⟩⟩ ?_
   refine zY 29 (D.ptr (List.drop (Int.toNat (↑(n - 1) : Int) * 1) (List.map dig A))) (D.ptr (List.drop (n - 1) (List.map dig A))) (by kernel_rfl) (by simp (disch := omega) only [Int.toNat_natCast, Nat.mul_one]) (by kernel_rfl) ?_
   refine zAi 2 [(31, digR B), (32, iD ((↑n : Int) - (1 : Int)))] ?_
   refine zY 32 (iD ((↑n : Int) - (1 : Int))) (iD (↑(n - 1) : Int)) (by kernel_rfl) (by simp (disch := omega) only [zCw]) (by kernel_rfl) ?_
   refine zF 1 [] [] ((0 : Int) ≤ (↑(n - 1) : Int) ∧ (↑(n - 1) : Int) < (↑(List.length B) : Int) ∧ List.map dig B ≠ []) [(33, D.ptr (List.drop (Int.toNat (↑(n - 1) : Int) * 1) (List.map dig B)))] (by kernel_rfl) ⟨(by omega), ⟨(by omega), (by exact zDm (by omega))⟩⟩ ?_
   refine zY 33 (D.ptr (List.drop (Int.toNat (↑(n - 1) : Int) * 1) (List.map dig B))) (D.ptr (List.drop (n - 1) (List.map dig B))) (by kernel_rfl) (by simp (disch := omega) only [Int.toNat_natCast, Nat.mul_one]) (by kernel_rfl) ?_
   refine zF 1 [] [] (0 < List.length (List.drop (n - 1) (List.map dig A))) [(30, List.headD (List.drop (n - 1) (List.map dig A)) U)] (by kernel_rfl) (by (simp; omega)) ?_
   refine zY 30 (List.headD (List.drop (n - 1) (List.map dig A)) U) (dig (List.getD A (n - 1) 0)) (by kernel_rfl) (by simp (disch := omega) only [zBg]) (by kernel_rfl) ?_
   refine zF 1 [] [] (0 < List.length (List.drop (n - 1) (List.map dig B))) [(34, List.headD (List.drop (n - 1) (List.map dig B)) U)] (by kernel_rfl) (by (simp; omega)) ?_
   refine zY 34 (List.headD (List.drop (n - 1) (List.map dig B)) U) (dig (List.getD B (n - 1) 0)) (by kernel_rfl) (by simp (disch := omega) only [zBg]) (by kernel_rfl) ?_
   refine zG [24, 27, 28, 29, 30, 31, 32, 33, 34] [(35, bD ((↑(List.getD A (n - 1) 0) : Int) != (↑(List.getD B (n - 1) 0) : Int)))] ?_
   refine zAm (t := (↑(List.getD A (n - 1) 0) : Int) != (↑(List.getD B (n - 1) 0) : Int)) (by kernel_rfl) (fun hc => ?_) (fun hc => ?_)
   simp only [bne_iff_ne] at hc
   refine zB ?_
   refine zT [0, 1, 2, 4, 5, 6, 3, 7, 8, 9] (by kernel_rfl) rfl ?_
   refine zAi 2 [(36, digR A), (37, iD ((↑n : Int) - (1 : Int)))] ?_
   refine zY 37 (iD ((↑n : Int) - (1 : Int))) (iD (↑(n - 1) : Int)) (by kernel_rfl) (by simp (disch := omega) only [zCw]) (by kernel_rfl) ?_
   refine zF 1 [] [] ((0 : Int) ≤ (↑(n - 1) : Int) ∧ (↑(n - 1) : Int) < (↑(List.length A) : Int) ∧ List.map dig A ≠ []) [(38, D.ptr (List.drop (Int.toNat (↑(n - 1) : Int) * 1) (List.map dig A)))] (by kernel_rfl) ⟨(by omega), ⟨(by omega), (by exact zDm (by omega))⟩⟩ ?_
   refine zY 38 (D.ptr (List.drop (Int.toNat (↑(n - 1) : Int) * 1) (List.map dig A))) (D.ptr (List.drop (n - 1) (List.map dig A))) (by kernel_rfl) (by simp (disch := omega) only [Int.toNat_natCast, Nat.mul_one]) (by kernel_rfl) ?_
   refine zAi 2 [(40, digR B), (41, iD ((↑n : Int) - (1 : Int)))] ?_
   refine zY 41 (iD ((↑n : Int) - (1 : Int))) (iD (↑(n - 1) : Int)) (by kernel_rfl) (by simp (disch := omega) only [zCw]) (by kernel_rfl) ?_
   refine zF 1 [] [] ((0 : Int) ≤ (↑(n - 1) : Int) ∧ (↑(n - 1) : Int) < (↑(List.length B) : Int) ∧ List.map dig B ≠ []) [(42, D.ptr (List.drop (Int.toNat (↑(n - 1) : Int) * 1) (List.map dig B)))] (by kernel_rfl) ⟨(by omega), ⟨(by omega), (by exact zDm (by omega))⟩⟩ ?_
   refine zY 42 (D.ptr (List.drop (Int.toNat (↑(n - 1) : Int) * 1) (List.map dig B))) (D.ptr (List.drop (n - 1) (List.map dig B))) (by kernel_rfl) (by simp (disch := omega) only [Int.toNat_natCast, Nat.mul_one]) (by kernel_rfl) ?_
   refine zF 1 [] [] (0 < List.length (List.drop (n - 1) (List.map dig A))) [(39, List.headD (List.drop (n - 1) (List.map dig A)) U)] (by kernel_rfl) (by (simp; omega)) ?_
   refine zY 39 (List.headD (List.drop (n - 1) (List.map dig A)) U) (dig (List.getD A (n - 1) 0)) (by kernel_rfl) (by simp (disch := omega) only [zBg]) (by kernel_rfl) ?_
   refine zF 1 [] [] (0 < List.length (List.drop (n - 1) (List.map dig B))) [(43, List.headD (List.drop (n - 1) (List.map dig B)) U)] (by kernel_rfl) (by (simp; omega)) ?_
   refine zY 43 (List.headD (List.drop (n - 1) (List.map dig B)) U) (dig (List.getD B (n - 1) 0)) (by kernel_rfl) (by simp (disch := omega) only [zBg]) (by kernel_rfl) ?_
   refine zX [dig (List.getD A (n - 1) 0), dig (List.getD B (n - 1) 0)] (by exact zNv _ _) ?_
   refine zG [35, 36, 37, 38, 39, 40, 41, 42, 43, 44] [(4, iD (cmpD (↑(List.getD A (n - 1) 0) : Int) (↑(List.getD B (n - 1) 0) : Int)))] ?_
   refine zW (zAd (zR (zR (zAd (zR ?_)))))
   refine zZ (True) (iD (cmpD (↑(List.getD A (n - 1) 0) : Int) (↑(List.getD B (n - 1) 0) : Int))) (D.val (Value.int IntKind.i64 (cmpD (↑(List.getD A (n - 1) 0) : Int) (↑(List.getD B (n - 1) 0) : Int)))) (.inr rfl) (by kernel_rfl) trivial rfl ?_
   rotate_left
   simp only [bne_eq_false_iff_eq] at hc
   refine zJ (zL (zC (zD (zA rfl ?_))))
   refine zAi 1 [(25, iD ((↑n : Int) - (1 : Int)))] ?_
   refine zY 25 (iD ((↑n : Int) - (1 : Int))) (iD (↑(n - 1) : Int)) (by kernel_rfl) (by simp (disch := omega) only [zCw]) (by kernel_rfl) ?_
   refine zF 2 [] [] (-9223372036854775808 ≤ (↑(n - 1) : Int) - (1 : Int) ∧ (↑(n - 1) : Int) - (1 : Int) ≤ 9223372036854775807) [(5, iD ((↑(n - 1) : Int) - (1 : Int))), (26, iD ((↑(n - 1) : Int) - (1 : Int)))] (by kernel_rfl) (by omega) ?_
   refine zAb ?_ (by kernel_rfl)
   refine zC ?_
   rotate_left
   simp only [decide_eq_false_iff_not] at hc
   refine zAc (zK (zK (zV rfl (zC (zD (zB (zA rfl ?_)))))))
   refine zG [0, 1, 5, 24] [(4, iD 0)] ?_
   refine zW ?_
   refine zZ (True) (iD 0) (D.val (Value.int IntKind.i64 0)) (.inr rfl) (by kernel_rfl) trivial rfl ?_
   rotate_left
  ·have h3 : A.drop (n - 1 + 1) = B.drop (n - 1 + 1) := by rw [show n - 1 + 1 = n by omega]; exact h2
   congr 2
   refine zS7 (fun h => ?_) (fun h => ?_) (fun h => by omega)
   ·exact zEe dA (by omega) (by omega) h3 h
   ·exact zEe dB (by omega) (by omega) h3.symm h
  ·refine ⟨n - 1, ⟨by omega, ?_⟩, by omega, ?_⟩
   ·rw [zH5 A (n - 1) (by omega), zH5 B (n - 1) (by omega), show n - 1 + 1 = n by omega, h2]
    congr 1; omega
   ·refine zAp [(0, 1), (1, 1), (5, 1)] (digR A = digR A ∧ digR B = digR B ∧ iD ((↑(n - 1) : Int) - (1 : Int)) = iD ((↑(n - 1) : Int) - (1 : Int))) 0 [] (by kernel_rfl) ⟨rfl, rfl, rfl⟩ (by kernel_rfl) (fun _ _ => rfl) (by kernel_rfl)
  ·have e0 : n = 0 := by omega
   subst e0
   rw [List.drop_zero, List.drop_zero] at h2
   simp [h2, cmpD]
end
section
open Go.RowKit
attribute [local irreducible] seqW awp zA3 zCo zBd Weak updS zB0 retL Pure Acts
set_option maxRecDepth 4096
theorem zQx (cs : List D) (n : Nat) (hl : cs.length = n * 1) (hn : n ≤ 1000000000) : Pure Tryz.prog 101 [.row cs n] [⟨cs, 36, 1, true, false, .plain⟩] (.osl 0 0 n (n * 1) true) := by
 by_cases h0 : n = 0
 ·subst h0
  obtain rfl : cs = [] := List.eq_nil_of_length_eq_zero (by omega)
  exact zQy
 have h1 : 0 < n := by omega
 refine zBb zAo mixed Tryz.func101 rfl rfl ?_
 focus
  refine zB (zA rfl ?_)
  refine zG [] [(2, nl)] ?_
  refine zB (zB (zA rfl ?_))
  refine zQ [] [] [3] (0 < n) [(4, bD false)] (by kernel_rfl) (by omega) ?_
  refine zS ?_
  refine zJ (zC (zD (zB (zA rfl ?_))))
  refine zAg 4 [] [] ((True ∧ 0 < 1 ∧ 1 = 1 ∧ 0 ≤ 16777216 ∧ 0 ≤ 9223372036854775807) ∧ true = true ∧ 0 = 0 ∧ 0 = 0 ∧ 36 = 36 ∧ 1 = 1 ∧ List.length cs = n * 1 ∧ 0 < 1 ∧ 0 < 4 ∧ 36 = 36 ∧ (0 + n) * 4 ≤ 140737488355328 ∧ 1 = 1 ∧ false = false ∧ (false = false ∨ false = true)) [(2, D.osl 0 0 (0 + n) ((0 + n) * 1) true), (6, D.row cs n), (7, D.osl 0 0 (0 + n) ((0 + n) * 1) true)] [] [Bk.mk cs 36 1 true false Kd.plain] (by kernel_rfl) ⟨⟨trivial, (by omega)⟩, ⟨(by kernel_rfl), ⟨(by kernel_rfl), ⟨(by kernel_rfl), ⟨(by kernel_rfl), ⟨(by kernel_rfl), ⟨(by omega), ⟨(by omega), ⟨(by omega), ⟨(by kernel_rfl), ⟨(by omega), ⟨(by kernel_rfl), ⟨(by kernel_rfl), (by decide)⟩⟩⟩⟩⟩⟩⟩⟩⟩⟩⟩⟩⟩ ?_
  refine zY 2 (D.osl 0 0 (0 + n) ((0 + n) * 1) true) (D.osl 0 0 n n true) (by kernel_rfl) (by simp (disch := omega) only [Nat.zero_add, Nat.mul_one]) (by kernel_rfl) ?_
  refine zG [0, 4, 6, 7] [] ?_
  refine zW ?_
  refine zA7 (True) [D.osl 0 0 n n true] (.inr rfl) (by kernel_rfl) trivial ?_
  rotate_left
 exact ⟨0, by simp [oneD], rfl⟩
theorem zS9 (cs : List D) (n : Nat) (hl : cs.length = n * 1) (hn : n ≤ 1000000000) : Pure Tryz.prog 101 [.row cs n] [] (.row cs n) := (zQx cs n hl hn).frozen rfl (List.take_of_length_le (by show cs.length ≤ _; omega))
theorem zMn (cs : List D) (n : Nat) (hl : cs.length = n * 1) (hn : n ≤ 1000000000) : Pure Tryz.prog 75 [.row cs n] [⟨cs, 4, 1, true, false, .plain⟩] (.osl 0 0 n (n * 1) true) := by
 by_cases h0 : n = 0
 ·subst h0
  obtain rfl : cs = [] := List.eq_nil_of_length_eq_zero (by omega)
  exact zMo
 have h1 : 0 < n := by omega
 refine zBb zAo mixed Tryz.func75 rfl rfl ?_
 focus
  refine zB (zA rfl ?_)
  refine zG [] [(2, nl)] ?_
  refine zB (zB (zA rfl ?_))
  refine zQ [] [] [3] (0 < n) [(4, bD false)] (by kernel_rfl) (by omega) ?_
  refine zS ?_
  refine zJ (zC (zD (zB (zA rfl ?_))))
  refine zAg 4 [] [] ((True ∧ 0 < 1 ∧ 1 = 1 ∧ 0 ≤ 16777216 ∧ 0 ≤ 9223372036854775807) ∧ true = true ∧ 0 = 0 ∧ 0 = 0 ∧ 4 = 4 ∧ 1 = 1 ∧ List.length cs = n * 1 ∧ 0 < 1 ∧ 0 < 1 ∧ 4 = 4 ∧ (0 + n) * 1 ≤ 140737488355328 ∧ 1 = 1 ∧ false = false ∧ (false = false ∨ false = true)) [(2, D.osl 0 0 (0 + n) ((0 + n) * 1) true), (6, D.row cs n), (7, D.osl 0 0 (0 + n) ((0 + n) * 1) true)] [] [Bk.mk cs 4 1 true false Kd.plain] (by kernel_rfl) ⟨⟨trivial, (by omega)⟩, ⟨(by kernel_rfl), ⟨(by kernel_rfl), ⟨(by kernel_rfl), ⟨(by kernel_rfl), ⟨(by kernel_rfl), ⟨(by omega), ⟨(by omega), ⟨(by omega), ⟨(by kernel_rfl), ⟨(by omega), ⟨(by kernel_rfl), ⟨(by kernel_rfl), (by decide)⟩⟩⟩⟩⟩⟩⟩⟩⟩⟩⟩⟩⟩ ?_
  refine zY 2 (D.osl 0 0 (0 + n) ((0 + n) * 1) true) (D.osl 0 0 n n true) (by kernel_rfl) (by simp (disch := omega) only [Nat.zero_add, Nat.mul_one]) (by kernel_rfl) ?_
  refine zG [0, 4, 6, 7] [] ?_
  refine zW ?_
  refine zA7 (True) [D.osl 0 0 n n true] (.inr rfl) (by kernel_rfl) trivial ?_
  rotate_left
 exact ⟨0, by simp [oneD], rfl⟩
theorem zH9 (cs : List D) (n : Nat) (hl : cs.length = n * 1) (hn : n ≤ 1000000000) : Pure Tryz.prog 75 [.row cs n] [] (.row cs n) := (zMn cs n hl hn).frozen rfl (List.take_of_length_le (by show cs.length ≤ _; omega))
theorem cloneO_rows (cs : List D) (n : Nat) (hl : cs.length = n * 1) (hn : n ≤ 100000000) : Pure Tryz.prog 92 [.row cs n] [⟨cs, 54, 1, true, false, .plain⟩] (.osl 0 0 n (n * 1) true) := by
 by_cases h0 : n = 0
 ·subst h0
  obtain rfl : cs = [] := List.eq_nil_of_length_eq_zero (by omega)
  exact clone0_rows
 have h1 : 0 < n := by omega
 refine zBb zAo mixed Tryz.func92 rfl rfl ?_
 focus
  refine zB (zA rfl ?_)
  refine zG [] [(2, nl)] ?_
  refine zB (zB (zA rfl ?_))
  refine zQ [] [] [3] (0 < n) [(4, bD false)] (by kernel_rfl) (by omega) ?_
  refine zS ?_
  refine zJ (zC (zD (zB (zA rfl ?_))))
  refine zAg 4 [] [] ((True ∧ 0 < 1 ∧ 1 = 1 ∧ 0 ≤ 16777216 ∧ 0 ≤ 9223372036854775807) ∧ true = true ∧ 0 = 0 ∧ 0 = 0 ∧ 54 = 54 ∧ 1 = 1 ∧ List.length cs = n * 1 ∧ 0 < 1 ∧ 0 < 24 ∧ 54 = 54 ∧ (0 + n) * 24 ≤ 140737488355328 ∧ 1 = 1 ∧ false = false ∧ (false = false ∨ false = true)) [(2, D.osl 0 0 (0 + n) ((0 + n) * 1) true), (6, D.row cs n), (7, D.osl 0 0 (0 + n) ((0 + n) * 1) true)] [] [Bk.mk cs 54 1 true false Kd.plain] (by kernel_rfl) ⟨⟨trivial, (by omega)⟩, ⟨(by kernel_rfl), ⟨(by kernel_rfl), ⟨(by kernel_rfl), ⟨(by kernel_rfl), ⟨(by kernel_rfl), ⟨(by omega), ⟨(by omega), ⟨(by omega), ⟨(by kernel_rfl), ⟨(by omega), ⟨(by kernel_rfl), ⟨(by kernel_rfl), (by decide)⟩⟩⟩⟩⟩⟩⟩⟩⟩⟩⟩⟩⟩ ?_
  refine zY 2 (D.osl 0 0 (0 + n) ((0 + n) * 1) true) (D.osl 0 0 n n true) (by kernel_rfl) (by simp (disch := omega) only [Nat.zero_add, Nat.mul_one]) (by kernel_rfl) ?_
  refine zG [0, 4, 6, 7] [] ?_
  refine zW ?_
  refine zA7 (True) [D.osl 0 0 n n true] (.inr rfl) (by kernel_rfl) trivial ?_
  rotate_left
 exact ⟨0, by simp [oneD], rfl⟩
theorem zQw (cs : List D) (n : Nat) (hl : cs.length = n * 3) (hn : n ≤ 100000000) : Pure Tryz.prog 100 [.row cs n] [⟨cs, 64, 3, true, false, .plain⟩] (.osl 0 0 n (n * 3) true) := by
 by_cases h0 : n = 0
 ·subst h0
  obtain rfl : cs = [] := List.eq_nil_of_length_eq_zero (by omega)
  exact clone0_row
 have h1 : 0 < n := by omega
 refine zBb zAo mixed Tryz.func100 rfl rfl ?_
 focus
  refine zB (zA rfl ?_)
  refine zG [] [(2, nl)] ?_
  refine zB (zB (zA rfl ?_))
  refine zQ [] [] [3] (0 < n) [(4, bD false)] (by kernel_rfl) (by omega) ?_
  refine zS ?_
  refine zJ (zC (zD (zB (zA rfl ?_))))
  refine zAg 4 [] [] ((True ∧ 0 < 3 ∧ 3 = 3 ∧ 0 ≤ 16777216 ∧ 0 ≤ 9223372036854775807) ∧ true = true ∧ 0 = 0 ∧ 0 = 0 ∧ 64 = 64 ∧ 3 = 3 ∧ List.length cs = n * 3 ∧ 0 < 3 ∧ 0 < 32 ∧ 64 = 64 ∧ (0 + n) * 32 ≤ 140737488355328 ∧ 3 = 3 ∧ false = false ∧ (false = false ∨ false = true)) [(2, D.osl 0 0 (0 + n) ((0 + n) * 3) true), (6, D.row cs n), (7, D.osl 0 0 (0 + n) ((0 + n) * 3) true)] [] [Bk.mk cs 64 3 true false Kd.plain] (by kernel_rfl) ⟨⟨trivial, (by omega)⟩, ⟨(by kernel_rfl), ⟨(by kernel_rfl), ⟨(by kernel_rfl), ⟨(by kernel_rfl), ⟨(by kernel_rfl), ⟨(by omega), ⟨(by omega), ⟨(by omega), ⟨(by kernel_rfl), ⟨(by omega), ⟨(by kernel_rfl), ⟨(by kernel_rfl), (by decide)⟩⟩⟩⟩⟩⟩⟩⟩⟩⟩⟩⟩⟩ ?_
  refine zY 2 (D.osl 0 0 (0 + n) ((0 + n) * 3) true) (D.osl 0 0 n (n * 3) true) (by kernel_rfl) (by simp (disch := omega) only [Nat.zero_add]) (by kernel_rfl) ?_
  refine zG [0, 4, 6, 7] [] ?_
  refine zW ?_
  refine zA7 (True) [D.osl 0 0 n (n * 3) true] (.inr rfl) (by kernel_rfl) trivial ?_
  rotate_left
 exact ⟨0, by simp [oneD], rfl⟩
theorem zS8 (cs : List D) (n : Nat) (hl : cs.length = n * 3) (hn : n ≤ 100000000) : Pure Tryz.prog 100 [.row cs n] [] (.row cs n) := (zQw cs n hl hn).frozen rfl (List.take_of_length_le (by show cs.length ≤ _; omega))
theorem zNw (cs : List D) (n : Nat) (hl : cs.length = n * 3) (hn : n ≤ 100000000) : Pure Tryz.prog 78 [.row cs n] [⟨cs, 99, 3, true, false, .plain⟩] (.osl 0 0 n (n * 3) true) := by
 by_cases h0 : n = 0
 ·subst h0
  obtain rfl : cs = [] := List.eq_nil_of_length_eq_zero (by omega)
  exact zNx
 have h1 : 0 < n := by omega
 refine zBb zAo mixed Tryz.func78 rfl rfl ?_
 focus
  refine zB (zA rfl ?_)
  refine zG [] [(2, nl)] ?_
  refine zB (zB (zA rfl ?_))
  refine zQ [] [] [3] (0 < n) [(4, bD false)] (by kernel_rfl) (by omega) ?_
  refine zS ?_
  refine zJ (zC (zD (zB (zA rfl ?_))))
  refine zAg 4 [] [] ((True ∧ 0 < 3 ∧ 3 = 3 ∧ 0 ≤ 16777216 ∧ 0 ≤ 9223372036854775807) ∧ true = true ∧ 0 = 0 ∧ 0 = 0 ∧ 99 = 99 ∧ 3 = 3 ∧ List.length cs = n * 3 ∧ 0 < 3 ∧ 0 < 24 ∧ 99 = 99 ∧ (0 + n) * 24 ≤ 140737488355328 ∧ 3 = 3 ∧ false = false ∧ (false = false ∨ false = true)) [(2, D.osl 0 0 (0 + n) ((0 + n) * 3) true), (6, D.row cs n), (7, D.osl 0 0 (0 + n) ((0 + n) * 3) true)] [] [Bk.mk cs 99 3 true false Kd.plain] (by kernel_rfl) ⟨⟨trivial, (by omega)⟩, ⟨(by kernel_rfl), ⟨(by kernel_rfl), ⟨(by kernel_rfl), ⟨(by kernel_rfl), ⟨(by kernel_rfl), ⟨(by omega), ⟨(by omega), ⟨(by omega), ⟨(by kernel_rfl), ⟨(by omega), ⟨(by kernel_rfl), ⟨(by kernel_rfl), (by decide)⟩⟩⟩⟩⟩⟩⟩⟩⟩⟩⟩⟩⟩ ?_
  refine zY 2 (D.osl 0 0 (0 + n) ((0 + n) * 3) true) (D.osl 0 0 n (n * 3) true) (by kernel_rfl) (by simp (disch := omega) only [Nat.zero_add]) (by kernel_rfl) ?_
  refine zG [0, 4, 6, 7] [] ?_
  refine zW ?_
  refine zA7 (True) [D.osl 0 0 n (n * 3) true] (.inr rfl) (by kernel_rfl) trivial ?_
  rotate_left
 exact ⟨0, by simp [oneD], rfl⟩
theorem zKf (cs : List D) (n : Nat) (hl : cs.length = n * 3) (hn : n ≤ 100000000) : Pure Tryz.prog 78 [.row cs n] [] (.row cs n) := (zNw cs n hl hn).frozen rfl (List.take_of_length_le (by show cs.length ≤ _; omega))
theorem norm_c (l : List Nat) (n : Nat) (hn : l.length = n) (hl : n ≤ 1000000) (hd : Digs l) : Pure Tryz.prog 57 [.row (l.map dig) n] [] (natD (nval l)) := by
 subst hn
 have h1 := zH6 hd
 refine zP zAo mixed Tryz.func57 rfl ?_
 focus
  refine zB (zA rfl ?_)
  refine zG [] [(2, nl)] ?_
  refine zB (zA rfl ?_)
  refine zAi 1 [(3, digR l)] ?_
  refine zX [digR l] (by exact zEg l _ rfl (by omega) hd) ?_
  refine zX [natD (nval l)] (by exact zS9 ((dg (nval l)).map dig) _ (by simp) (by omega)) ?_
  refine zG [0, 3, 4, 5] [(2, natD (nval l))] ?_
  refine zW ?_
  refine zZ (True) (natD (nval l)) (natD (nval l)) (.inr rfl) (by kernel_rfl) trivial rfl rfl
def Sm (n : Nat) : Prop := (dg n).length ≤ 1000
theorem zNt {n : Nat} : ∀ {m : Nat}, m ≤ n → (dg m).length ≤ (dg n).length := by
 induction n using Nat.strongRecOn with
 | _ n ih =>
  intro m h
  by_cases hm : m = 0
  ·subst hm
   rw [show dg 0 = [] by rw [dg]; simp]; simp
  ·have e1 : dg m = m % 4294967296 :: dg (m / 4294967296) := by rw [dg, dif_neg hm]
   have e2 : dg n = n % 4294967296 :: dg (n / 4294967296) := by rw [dg, dif_neg (by omega)]
   have h2 : (dg (m / 4294967296)).length ≤ (dg (n / 4294967296)).length := ih _ (by omega) (Nat.div_le_div_right h)
   rw [e1, e2, List.length_cons, List.length_cons]
   omega
theorem Sm.le {n m : Nat} (h : Sm n) (k : m ≤ n) : Sm m := Nat.le_trans (zNt k) h
theorem Sm.of {n : Nat} (h : n < 340282366920938463463374607431768211456) : Sm n := by
 have : (dg n).length ≤ 4 := by
  rw [dg]; split
  ·simp
  ·rw [List.length_cons, dg]; split
   ·simp
   ·rw [List.length_cons, dg]; split
    ·simp
    ·rw [List.length_cons, dg]; split
     ·simp
     ·rw [List.length_cons, dg, dif_pos (by omega)]; simp
 unfold Sm; omega
theorem Sm.len {n : Nat} (h : Sm n) : (dg n).length ≤ 1000 := h
theorem nadd_c (a b : Nat) (ha : Sm a) (hb : Sm b) : Pure Tryz.prog 46 [natD a, natD b] [] (natD (a + b)) := by
 have h := add_c (dg a) (dg b) _ _ rfl rfl (by have := ha.len; omega) (by have := hb.len; omega) (zBl _) (zBl _)
 rwa [zBk, zBk] at h
theorem zL4 (a b : Nat) (ha : Sm a) (hb : Sm b) : Pure Tryz.prog 86 [natD a, natD b] [] (natD (a * b)) := by
 have h := mul_c (dg a) (dg b) _ _ rfl rfl (by have := ha.len; omega) (by have := hb.len; omega) (zBl _) (zBl _)
 rwa [zBk, zBk] at h
theorem zWe (a b : Nat) (ha : Sm a) (hb : Sm b) : Pure Tryz.prog 27 [natD a, natD b] [] (iD (cmpD a b)) := by
 have h := cmp_c (dg a) (dg b) _ _ rfl rfl (by have := ha.len; omega) (by have := hb.len; omega) (zBl _) (zBl _)
 rwa [zBk, zBk] at h
theorem zK1 (a : Nat) (ha : Sm a) : Pure Tryz.prog 57 [natD a] [] (natD a) := by
 have h := norm_c (dg a) _ rfl (by have := ha.len; omega) (zBl _)
 rwa [zBk] at h
theorem zSc : natD 0 = .row [] 0 := by simp [natD, digR, dg]
theorem zQs (l : List Nat) (k : Nat) (h : k < l.length) : ((l.map natD).drop k).headD .unk = natD (l.getD k 0) := zMe natD l 0 k h
theorem zPe (l : List Nat) (k : Nat) (h : k < l.length) : (l.take (k + 1)).sum = (l.take k).sum + l.getD k 0 := by
 rw [List.take_succ_eq_append_getElem h, List.sum_append]
 simp only [List.sum_cons, List.sum_nil, Nat.add_zero, List.getD_eq_getElem?_getD, List.getElem?_eq_getElem h, Option.getD_some]
theorem zWa (l : List Nat) (k : Nat) : (l.take k).sum ≤ l.sum := by
 conv => rhs; rw [← List.take_append_drop k l, List.sum_append]
 omega
set_option maxHeartbeats 1000000 in
theorem nsum_c (l : List Nat) (n : Nat) (hn : l.length = n) (hb : n ≤ 1000000) (hs : Sm l.sum) : Pure Tryz.prog 136 [.row (l.map natD) n] [] (natD l.sum) := by
 subst hn
 refine zP zAo mixed Tryz.func136 rfl ?_
 focus
  refine zB (zA rfl ?_)
  refine zG [] [(2, nl)] ?_
  refine zB (zA rfl ?_)
  refine zG [] [(3, nl)] ?_
  refine zB (zB (zA rfl ?_))
  refine zG [5] [(6, iD (↑(List.length l) : Int)), (7, iD 0)] ?_
  refine zE ?_
  rotate_left
 refine zC0 (fun (k : Nat) => [D.row (List.map natD l) (List.length l), U, nl, natD (List.sum (List.take k l)), U, U, iD (↑(List.length l) : Int), iD ↑k, U, U, U, U, U, U, U, U, U, U]) (fun k => []) (fun k => l.length - k) (fun k => k ≤ l.length) 0 ?_ ?_ ?_
 ·omega
 ·rw [List.take_zero, List.sum_nil, zSc]
  refine zAp [(0, 1), (2, 1), (3, 3), (6, 1), (7, 1)] (D.row (List.map natD l) (List.length l) = D.row (List.map natD l) (List.length l) ∧ nl = nl ∧ iD (↑(List.length l) : Int) = iD (↑(List.length l) : Int) ∧ iD 0 = iD (↑(0 : Nat) : Int)) 0 [] (by kernel_rfl) ⟨rfl, rfl, rfl, (by kernel_rfl)⟩ (by kernel_rfl) (fun _ _ => rfl) (by kernel_rfl)
 rintro k h1
 have s1 := hs.le (zWa l k)
 have s2 := hs.le (zWa l (k + 1))
 focus
  refine zB (zA rfl ?_)
  refine zG [] [(8, bD (decide ((↑k : Int) < (↑(List.length l) : Int))))] ?_
  refine zB ?_
  refine zAm (t := decide ((↑k : Int) < (↑(List.length l) : Int))) (by kernel_rfl) (fun hc => ?_) (fun hc => ?_)
  simp only [decide_eq_true_eq] at hc
  refine zJ (zC (zD (zB (zE (zB (zA rfl ?_))))))
  refine zG [8, 9] [(4, iD ↑k)] ?_
  refine zA rfl ?_
  refine zF 4 [] [] ((0 : Int) ≤ (↑k : Int) ∧ (↑k : Int) < (↑(List.length l) : Int) ∧ List.map natD l ≠ []) [(10, natD (List.sum (List.take k l))), (11, D.row (List.map natD l) (List.length l)), (12, iD ↑k), (13, D.ptr (List.drop (Int.toNat (↑k : Int) * 1) (List.map natD l)))] (by kernel_rfl) ⟨(by omega), ⟨(by omega), (by exact zDm (by omega))⟩⟩ ?_
  refine zY 13 (D.ptr (List.drop (Int.toNat (↑k : Int) * 1) (List.map natD l))) (D.ptr (List.drop k (List.map natD l))) (by kernel_rfl) (by simp (disch := omega) only [Int.toNat_natCast, Nat.mul_one]) (by kernel_rfl) ?_
  refine zF 1 [] [] (0 < List.length (List.drop k (List.map natD l))) [(14, List.headD (List.drop k (List.map natD l)) U)] (by kernel_rfl) (by (simp; omega)) ?_
  refine zY 14 (List.headD (List.drop k (List.map natD l)) U) (natD (List.getD l k 0)) (by kernel_rfl) (by simp (disch := omega) only [zQs]) (by kernel_rfl) ?_
  refine zX [natD (List.sum (List.take k l)), natD (List.getD l k 0)] (by exact nadd_c _ _ s1 (s2.le (by rw [zPe l k (by omega)]; omega))) ?_
  refine zAi 1 [(3, natD (List.sum (List.take k l) + List.getD l k 0))] ?_
  refine zAb ?_ (by kernel_rfl)
  refine zL (zC (zD (zA rfl ?_)))
  refine zF 1 [] [] (-9223372036854775808 ≤ (↑k : Int) + (1 : Int) ∧ (↑k : Int) + (1 : Int) ≤ 9223372036854775807) [(16, iD ((↑k : Int) + (1 : Int)))] (by kernel_rfl) (by omega) ?_
  refine zY 16 (iD ((↑k : Int) + (1 : Int))) (iD (↑(k + 1) : Int)) (by kernel_rfl) (by simp (disch := omega) only [zBh]) (by kernel_rfl) ?_
  refine zAi 1 [(7, iD (↑(k + 1) : Int))] ?_
  refine zAb ?_ (by kernel_rfl)
  refine zC ?_
  rotate_left
  simp only [decide_eq_false_iff_not] at hc
  refine zAc (zK (zK (zV rfl (zC (zD (zB (zA rfl ?_)))))))
  refine zG [0, 3, 6, 7, 8, 17] [(2, natD (List.sum (List.take k l)))] ?_
  refine zW ?_
  refine zZ (True) (natD (List.sum (List.take k l))) (natD (List.sum (List.take k l))) (.inr rfl) (by kernel_rfl) trivial rfl ?_
  rotate_left
 ·refine ⟨k + 1, by omega, by omega, ?_⟩
  rw [zPe l k (by omega)]
  refine zAp [(0, 1), (2, 1), (3, 1), (6, 1), (7, 1)] (D.row (List.map natD l) (List.length l) = D.row (List.map natD l) (List.length l) ∧ nl = nl ∧ natD (List.sum (List.take k l) + List.getD l k 0) = natD (List.sum (List.take k l) + List.getD l k 0) ∧ iD (↑(List.length l) : Int) = iD (↑(List.length l) : Int) ∧ iD (↑(k + 1) : Int) = iD (↑(k + 1) : Int)) 0 [] (by kernel_rfl) ⟨rfl, rfl, rfl, rfl, rfl⟩ (by kernel_rfl) (fun _ _ => rfl) (by kernel_rfl)
 ·have e : k = l.length := by omega
  rw [e, List.take_length]
end
section
open Go.RowKit
theorem scmp_c (a b : List UInt8) : Pure Tryz.prog 128 [strD a, strD b] [] (iD (Lib.compareBytes a b)) :=
 zD0 (us := [.string (bs a), .string (bs b)]) fun w => (Tryz.strings_Compare (bs a) (bs b) w).mono fun e w' h => ⟨h.1, h.2.symm⟩
end
section
open Go.RowKit
attribute [local irreducible] seqW awp zA3 zCo zBd Weak updS zB0 retL Pure Acts
set_option maxRecDepth 4096
theorem zP3 : (ByteArray.mk #[]).toList = [] := by rw [ByteArray.toList_eq]
theorem zRk (l : List UInt8) : (l == []) = l.isEmpty := by cases l <;> rfl
abbrev q2_ (x0 : Va) := D.val (Value.string (bs (Va.str x0)))
abbrev q1_ (x0 : Va) := Bk.mk [iD (Va.kind x0), iD (Va.int x0), (q2_ x0)] 64 0 false false Kd.plain
theorem zN9 (v : Va) : Pure Tryz.prog 83 [vaD v] [] (bD (vok v)) := by
 refine zP zAo mixed Tryz.func83 rfl ?_
 focus
  refine zB (zA rfl ?_)
  refine zN [] [] [0] (True) [(1, D.own 0 0), (2, bD false)] [] [(q1_ v)] (by kernel_rfl) trivial ?_
  refine zB (zB (zA rfl ?_))
  refine zQ [] [] [3] (True ∧ 0 < 3) [(4, iD (Va.kind v))] (by kernel_rfl) (by decide) ?_
  refine zE (zB (zA rfl ?_))
  refine zG [6] [(5, bD (Va.kind v == (1 : Int)))] ?_
  refine zAm (t := Va.kind v == (1 : Int)) (by kernel_rfl) (fun hc => ?_) (fun hc => ?_)
  simp only [beq_iff_eq] at hc
  refine zB (zA rfl ?_)
  refine zF 3 [] [] (True ∧ 0 < 1 ∧ True) [(7, D.own 0 2), (8, (q2_ v)), (9, bD (ByteArray.toList (bs (Va.str v)) == ByteArray.toList (ByteArray.mk #[])))] (by kernel_rfl) (by decide) ?_
  refine zY 9 (bD (ByteArray.toList (bs (Va.str v)) == ByteArray.toList (ByteArray.mk #[]))) (bD (Va.str v == [])) (by kernel_rfl) (by simp (disch := omega) only [zTh, zP3]) (by kernel_rfl) ?_
  refine zG [1, 4, 5, 7, 8, 9] [(2, bD (Va.str v == []))] ?_
  refine zW (zAd (zR ?_))
  refine zZ (True) (bD (Va.str v == [])) (D.val (Value.bool (Va.str v == []))) (.inr rfl) (by kernel_rfl) trivial rfl ?_
  rotate_left
  simp only [beq_eq_false_iff_ne] at hc
  refine zB (zA rfl ?_)
  refine zG [4, 5, 11] [(10, bD (Va.kind v == (2 : Int)))] ?_
  refine zAm (t := Va.kind v == (2 : Int)) (by kernel_rfl) (fun hc => ?_) (fun hc => ?_)
  simp only [beq_iff_eq] at hc
  refine zB (zA rfl ?_)
  refine zF 4 [] [] (True ∧ 0 < 2 ∧ True) [(12, D.own 0 1), (13, iD (Va.int v)), (14, bD (Va.int v == (0 : Int))), (15, bD (Va.int v == (0 : Int)))] (by kernel_rfl) (by decide) ?_
  refine zKo 15 (Va.int v == (0 : Int)) (by kernel_rfl) (fun hc => ?_) (fun hc => ?_)
  simp only [beq_iff_eq] at hc
  refine zQ [] [] [1, 10, 12, 13, 14, 15, 16, 17, 18, 19, 20] (True ∧ 0 < 1) [(2, bD (decide ((↑(List.length (Va.str v)) : Int) ≤ (24 : Int))))] (by kernel_rfl) (by decide) ?_
  refine zW (zAd (zR ?_))
  refine zZ (True) (bD (decide ((↑(List.length (Va.str v)) : Int) ≤ (24 : Int)))) (D.val (Value.bool (decide ((↑(List.length (Va.str v)) : Int) ≤ (24 : Int))))) (.inr rfl) (by kernel_rfl) trivial rfl ?_
  rotate_left
  simp only [beq_eq_false_iff_ne] at hc
  refine zG [1, 10, 12, 13, 14, 15, 16, 17, 18, 19, 20] [] ?_
  refine zW (zAd (zR ?_))
  refine zZ (True) (bD false) (D.val (Value.bool false)) (.inr rfl) (by kernel_rfl) trivial rfl ?_
  rotate_left
  simp only [beq_eq_false_iff_ne] at hc
  refine zJ (zL (zC (zD (zB (zA rfl ?_)))))
  refine zG [1, 10] [] ?_
  refine zW ?_
  refine zZ (True) (bD false) (D.val (Value.bool false)) (.inr rfl) (by kernel_rfl) trivial rfl ?_
  rotate_left
 ·congr 2
  rw [zRk]
  simp [vok, *]
 ·congr 2
  have h : ¬ v.kind = 1 := by assumption
  simp [vok, *]
  omega
 ·congr 2
  have h : ¬ v.kind = 1 := by assumption
  simp [vok, *]
 ·congr 2
  simp [vok, *]
theorem zF3 (a b : Va) : Pure Tryz.prog 103 [vaD a, vaD b] [] (iD (vcmp a b)) := by
 refine zP zAo mixed Tryz.func103 rfl ?_
 focus
  refine zB (zA rfl ?_)
  refine zN [] [] [0, 1] (True) [(2, D.own 0 0), (3, D.own 1 0), (4, iD 0)] [] [(q1_ a), (q1_ b)] (by kernel_rfl) trivial ?_
  refine zB (zB (zA rfl ?_))
  refine zQ [] [] [5, 6, 7, 8] (True ∧ 0 < 3 ∧ True ∧ 0 < 3 ∧ True) [(9, bD (Va.kind a != Va.kind b))] (by kernel_rfl) (by decide) ?_
  refine zAm (t := Va.kind a != Va.kind b) (by kernel_rfl) (fun hc => ?_) (fun hc => ?_)
  simp only [bne_iff_ne] at hc
  refine zB (zA rfl ?_)
  refine zF 4 [] [] (True ∧ 0 < 3 ∧ True ∧ 0 < 3) [(10, D.own 0 0), (11, iD (Va.kind a)), (12, D.own 1 0), (13, iD (Va.kind b))] (by kernel_rfl) (by decide) ?_
  refine zX [iD (Va.kind a), iD (Va.kind b)] (by exact zPy _ _) ?_
  refine zG [9, 10, 11, 12, 13, 14] [(4, iD (cmpD (Va.kind a) (Va.kind b)))] ?_
  refine zW (zR ?_)
  refine zZ (True) (iD (cmpD (Va.kind a) (Va.kind b))) (D.val (Value.int IntKind.i64 (cmpD (Va.kind a) (Va.kind b)))) (.inr rfl) (by kernel_rfl) trivial rfl ?_
  rotate_left
  simp only [bne_eq_false_iff_eq] at hc
  refine zJ (zC (zD (zB (zB (zA rfl ?_)))))
  refine zQ [] [] [9, 15, 16, 17, 18] (True ∧ 0 < 2 ∧ True ∧ 0 < 2 ∧ True) [(19, bD (Va.int a != Va.int b))] (by kernel_rfl) (by decide) ?_
  refine zAm (t := Va.int a != Va.int b) (by kernel_rfl) (fun hc => ?_) (fun hc => ?_)
  simp only [bne_iff_ne] at hc
  refine zB (zA rfl ?_)
  refine zF 4 [] [] (True ∧ 0 < 2 ∧ True ∧ 0 < 2) [(20, D.own 0 1), (21, iD (Va.int a)), (22, D.own 1 1), (23, iD (Va.int b))] (by kernel_rfl) (by decide) ?_
  refine zX [iD (Va.int a), iD (Va.int b)] (by exact zQv _ _) ?_
  refine zG [19, 20, 21, 22, 23, 24] [(4, iD (cmpD (Va.int a) (Va.int b)))] ?_
  refine zW (zR ?_)
  refine zZ (True) (iD (cmpD (Va.int a) (Va.int b))) (D.val (Value.int IntKind.i64 (cmpD (Va.int a) (Va.int b)))) (.inr rfl) (by kernel_rfl) trivial rfl ?_
  rotate_left
  simp only [bne_eq_false_iff_eq] at hc
  refine zJ (zC (zD (zB (zA rfl ?_))))
  refine zF 4 [] [] (True ∧ 0 < 1 ∧ True ∧ 0 < 1) [(25, D.own 0 2), (26, (q2_ a)), (27, D.own 1 2), (28, (q2_ b))] (by kernel_rfl) (by decide) ?_
  refine zX [(q2_ a), (q2_ b)] (by exact scmp_c _ _) ?_
  refine zG [2, 3, 19, 25, 26, 27, 28, 29] [(4, iD (Lib.compareBytes (Va.str a) (Va.str b)))] ?_
  refine zW ?_
  refine zZ (True) (iD (Lib.compareBytes (Va.str a) (Va.str b))) (D.val (Value.int IntKind.i64 (Lib.compareBytes (Va.str a) (Va.str b)))) (.inr rfl) (by kernel_rfl) trivial rfl ?_
  rotate_left
 all_goals simp [vcmp, *]
theorem zPa (r : List Va) (i : Nat) (h : i < r.length) : 3 ≤ (List.drop (i * 3) (zM r)).length := by
 rw [List.length_drop, zGf]; omega
theorem zV5 {α : Type} (p : α → Bool) (d : α) (l : List α) (i : Nat) (h : i < l.length) : (l.take (i + 1)).all p = ((l.take i).all p && p (l.getD i d)) := by
 rw [List.take_succ_eq_append_getElem h, List.all_append, List.getD_eq_getElem?_getD, List.getElem?_eq_getElem h]; simp
theorem all_no {α : Type} (p : α → Bool) (d : α) (l : List α) (i : Nat) (h : i < l.length) (hp : p (l.getD i d) = false) : l.all p = false := by
 rw [Bool.eq_false_iff]
 intro ha
 rw [List.all_eq_true] at ha
 have := ha _ (List.getElem_mem h)
 rw [List.getD_eq_getElem?_getD, List.getElem?_eq_getElem h] at hp
 simp only [Option.getD_some] at hp
 rw [this] at hp; cases hp
abbrev q3_ (x0 : List Va) := D.row (zM x0) (List.length x0)
set_option maxHeartbeats 1000000 in
theorem rvalid_c (r : List Va) (n : Nat) (hn : r.length = n) (hl : n ≤ 1000000000) : Pure Tryz.prog 122 [.row (zM r) n] [] (bD (r.all vok)) := by
 subst hn
 refine zP zAo mixed Tryz.func122 rfl ?_
 focus
  refine zB (zA rfl ?_)
  refine zG [] [(2, bD false)] ?_
  refine zB (zB (zA rfl ?_))
  refine zG [4] [(5, iD (↑(List.length r) : Int)), (6, iD 0)] ?_
  refine zE ?_
  rotate_left
 refine zC0 (fun (i : Nat) => [(q3_ r), U, U, U, U, iD (↑(List.length r) : Int), iD ↑i, U, U, U, U, U, U, U, U, U]) (fun _ => []) (fun i => r.length - i) (fun i => i ≤ r.length ∧ (r.take i).all vok = true) 0 ?_ ?_ ?_
 ·exact ⟨by omega, by simp⟩
 ·refine zAp [(0, 1), (5, 1), (6, 1)] (D.row (zM r) (List.length r) = D.row (zM r) (List.length r) ∧ iD (↑(List.length r) : Int) = iD (↑(List.length r) : Int) ∧ iD 0 = iD (↑(0 : Nat) : Int)) 0 [] (by kernel_rfl) ⟨rfl, rfl, (by kernel_rfl)⟩ (by kernel_rfl) (fun _ _ => rfl) (by kernel_rfl)
 rintro i ⟨h1, h2⟩
 focus
  refine zB (zA rfl ?_)
  refine zG [] [(7, bD (decide ((↑i : Int) < (↑(List.length r) : Int))))] ?_
  refine zB ?_
  refine zAm (t := decide ((↑i : Int) < (↑(List.length r) : Int))) (by kernel_rfl) (fun hc => ?_) (fun hc => ?_)
  simp only [decide_eq_true_eq] at hc
  refine zJ (zC (zD (zB (zE (zB (zA rfl ?_))))))
  refine zG [7, 8] [(3, iD ↑i)] ?_
  refine zB (zA rfl ?_)
  refine zF 4 [] [] (((0 : Int) ≤ (↑i : Int) ∧ (↑i : Int) < (↑(List.length r) : Int) ∧ zM r ≠ []) ∧ 3 ≤ List.length (List.drop (i * 3) (zM r))) [(9, (q3_ r)), (10, iD ↑i), (11, D.ptr (List.drop (i * 3) (zM r))), (12, D.agg (List.take 3 (List.drop (i * 3) (zM r))))] (by kernel_rfl) ⟨⟨(by omega), ⟨(by omega), (by exact zT7 _ (by omega))⟩⟩, (by exact zPa _ _ (by omega))⟩ ?_
  refine zY 12 (D.agg (List.take 3 (List.drop (i * 3) (zM r)))) (D.agg (vaC (List.getD r i default))) (by kernel_rfl) (by simp (disch := omega) only [zKm]) (by kernel_rfl) ?_
  refine zX [D.agg [iD (Va.kind (List.getD r i default)), iD (Va.int (List.getD r i default)), D.val (Value.string (bs (Va.str (List.getD r i default))))]] (by exact zN9 _) ?_
  refine zG [3, 9, 10, 11, 12, 13] [(14, bD !vok (List.getD r i default))] ?_
  refine zAm (t := !vok (List.getD r i default)) (by kernel_rfl) (fun hc => ?_) (fun hc => ?_)
  simp only [Bool.not_eq_true'] at hc
  refine zB (zA rfl ?_)
  refine zG [14] [(2, bD false)] ?_
  refine zW (zAd (zR (zR (zAd (zR ?_)))))
  refine zZ (True) (bD false) (D.val (Value.bool false)) (.inr rfl) (by kernel_rfl) trivial rfl ?_
  rotate_left
  simp only [Bool.not_eq_false'] at hc
  refine zJ (zL (zC (zD (zA rfl ?_))))
  refine zF 1 [] [] (-9223372036854775808 ≤ (↑i : Int) + (1 : Int) ∧ (↑i : Int) + (1 : Int) ≤ 9223372036854775807) [(15, iD ((↑i : Int) + (1 : Int)))] (by kernel_rfl) (by omega) ?_
  refine zY 15 (iD ((↑i : Int) + (1 : Int))) (iD (↑(i + 1) : Int)) (by kernel_rfl) (by simp (disch := omega) only [zBh]) (by kernel_rfl) ?_
  refine zAi 1 [(6, iD (↑(i + 1) : Int))] ?_
  refine zAb ?_ (by kernel_rfl)
  refine zC ?_
  rotate_left
  simp only [decide_eq_false_iff_not] at hc
  refine zAc (zK (zK (zV rfl (zC (zD (zB (zA rfl ?_)))))))
  refine zG [0, 5, 6, 7] [(2, bD true)] ?_
  refine zW ?_
  refine zZ (True) (bD true) (D.val (Value.bool true)) (.inr rfl) (by kernel_rfl) trivial rfl ?_
  rotate_left
 ·congr 2
  symm
  exact all_no vok default r i (by omega) (by assumption)
 ·refine ⟨i + 1, ⟨by omega, ?_⟩, by omega, ?_⟩
  ·rw [zV5 vok default r i (by omega), h2]; simpa using hc
  ·refine zAp [(0, 1), (5, 1), (6, 1)] (D.row (zM r) (List.length r) = D.row (zM r) (List.length r) ∧ iD (↑(List.length r) : Int) = iD (↑(List.length r) : Int) ∧ iD (↑(i + 1) : Int) = iD (↑(i + 1) : Int)) 0 [] (by kernel_rfl) ⟨rfl, rfl, rfl⟩ (by kernel_rfl) (fun _ _ => rfl) (by kernel_rfl)
 ·congr 2
  have e : i = r.length := by omega
  rw [e, List.take_length] at h2
  exact h2.symm
def zF6 : List Va → List Va → List Bool → Int
 | [], [], _ => 0
 | [], _ :: _, _ => -1
 | _ :: _, [], _ => 1
 | a :: r, b :: s, ds => if vcmp a b = 0 then zF6 r s ds.tail else if ds.headD false then - vcmp a b else vcmp a b
theorem zLw : ∀ (a b : List Va), zF6 a b [] = rcmp a b
 | [], [] => rfl
 | [], _ :: _ => rfl
 | _ :: _, [] => rfl
 | a :: r, b :: s => by simp only [zF6, rcmp, List.tail_nil, List.headD_nil, Bool.false_eq_true, if_false]; rw [zLw r s]
theorem zF5 : ∀ (i : Nat) (a b : List Va) (ds : List Bool), i ≤ a.length → i ≤ b.length → a.take i = b.take i → zF6 a b ds = zF6 (a.drop i) (b.drop i) (ds.drop i)
 | 0, _, _, _, _, _, _ => rfl
 | i + 1, [], b, _, h, _, _ => by simp at h
 | i + 1, _ :: _, [], _, _, h, _ => by simp at h
 | i + 1, x :: a, y :: b, ds, h1, h2, h3 => by
  simp only [List.take_succ_cons, List.cons.injEq] at h3
  obtain ⟨rfl, h3⟩ := h3
  rw [zF6, if_pos ((zFl x x).2.1.2 rfl), zF5 i a b ds.tail (by simpa using h1) (by simpa using h2) h3]
  cases ds <;> simp
theorem zKz (i : Nat) (a b : List Va) (ds : List Bool) (ha : i < a.length) (hb : i < b.length) (h : a.take i = b.take i) (hv : vcmp (a.getD i default) (b.getD i default) ≠ 0) : zF6 a b ds = if ds.getD i false then - vcmp (a.getD i default) (b.getD i default) else vcmp (a.getD i default) (b.getD i default) := by
 rw [zF5 i a b ds (by omega) (by omega) h, List.drop_eq_getElem_cons ha, List.drop_eq_getElem_cons hb]
 simp only [List.getD_eq_getElem?_getD, List.getElem?_eq_getElem ha, List.getElem?_eq_getElem hb, Option.getD_some] at hv ⊢
 rw [zF6, if_neg hv, List.headD_eq_head?_getD, List.head?_drop]
theorem zVs (l : List Bool) (k : Nat) (h : k < l.length) : ((l.map bD).drop k).headD .unk = bD (l.getD k false) := zMe bD l false k h
theorem zVc (a b : List Va) (i : Nat) (ds : List Bool) (ha : i ≤ a.length) (hb : i ≤ b.length) (h : a.take i = b.take i) (he : i = a.length ∨ i = b.length) : zF6 a b ds = if a.length < b.length then -1 else if a.length > b.length then 1 else 0 := by
 rw [zF5 i a b ds ha hb h]
 rcases he with rfl | rfl
 ·rw [List.drop_length]
  cases hc : b.drop a.length with
  | nil =>
   have := congrArg List.length hc
   simp at this
   rw [if_neg (by omega), if_neg (by omega)]; rfl
  | cons x r =>
   have := congrArg List.length hc
   simp at this
   rw [if_pos (by omega)]; rfl
 ·rw [List.drop_length]
  cases hc : a.drop b.length with
  | nil =>
   have := congrArg List.length hc
   simp at this
   rw [if_neg (by omega), if_neg (by omega)]; rfl
  | cons x r =>
   have := congrArg List.length hc
   simp at this
   rw [if_neg (by omega), if_pos (by omega)]; rfl
abbrev q4_ := D.val (Value.int IntKind.i64 (-1))
abbrev q5_ := D.val (Value.int IntKind.i64 1)
abbrev q6_ := D.val (Value.int IntKind.i64 0)
set_option maxHeartbeats 2000000 in
theorem zLv (a b : List Va) (ds : List Bool) (n m k : Nat) (hn : a.length = n) (hm : b.length = m) (hk : ds.length = k) (ln : n ≤ 1000000000) (lm : m ≤ 1000000000) (lk : k ≤ 1000000000) : Pure Tryz.prog 137 [.row (zM a) n, .row (zM b) m, .row (ds.map bD) k] [] (iD (zF6 a b ds)) := by
 subst hn hm hk
 refine zP zAo mixed Tryz.func137 rfl ?_
 focus
  refine zB (zA rfl ?_)
  refine zG [] [(6, iD 0)] ?_
  refine zB (zB (zA rfl ?_))
  refine zG [9, 10, 11, 12] [(13, iD (if (↑(List.length b) : Int) < (↑(List.length a) : Int) then (↑(List.length b) : Int) else (↑(List.length a) : Int))), (14, iD 0)] ?_
  refine zE ?_
  rotate_left
 refine zC0 (fun (i : Nat) => [(q3_ a), (q3_ b), D.row (List.map bD ds) (List.length ds), U, U, U, U, U, U, U, U, U, U, iD (if (↑(List.length b) : Int) < (↑(List.length a) : Int) then (↑(List.length b) : Int) else (↑(List.length a) : Int)), iD ↑i, U, U, U, U, U, U, U, U, U, U, U, U, U, U, U, U, U, U, U, U, U, U, U, U, U, U, U, U, U, U, U, U, U, U, U, U, U, U, U]) (fun _ => []) (fun i => a.length - i) (fun i => i ≤ a.length ∧ i ≤ b.length ∧ a.take i = b.take i) 0 ?_ ?_ ?_
 ·exact ⟨by omega, by omega, by simp⟩
 ·refine zAp [(0, 1), (1, 1), (2, 1), (13, 1), (14, 1)] (D.row (zM a) (List.length a) = D.row (zM a) (List.length a) ∧ D.row (zM b) (List.length b) = D.row (zM b) (List.length b) ∧ D.row (List.map bD ds) (List.length ds) = D.row (List.map bD ds) (List.length ds) ∧ iD (if (↑(List.length b) : Int) < (↑(List.length a) : Int) then (↑(List.length b) : Int) else (↑(List.length a) : Int)) = iD (if (↑(List.length b) : Int) < (↑(List.length a) : Int) then (↑(List.length b) : Int) else (↑(List.length a) : Int)) ∧ iD 0 = iD (↑(0 : Nat) : Int)) 0 [] (by kernel_rfl) ⟨rfl, rfl, rfl, rfl, (by kernel_rfl)⟩ (by kernel_rfl) (fun _ _ => rfl) (by kernel_rfl)
 rintro i ⟨h1, h2, h3⟩
 have hv := (zFl (a.getD i default) (b.getD i default)).1
 focus
  refine zB (zA rfl ?_)
  refine zG [] [(15, bD (decide ((↑i : Int) < if (↑(List.length b) : Int) < (↑(List.length a) : Int) then (↑(List.length b) : Int) else (↑(List.length a) : Int))))] ?_
  refine zB ?_
  refine zAm (t := decide ((↑i : Int) < if (↑(List.length b) : Int) < (↑(List.length a) : Int) then (↑(List.length b) : Int) else (↑(List.length a) : Int))) (by kernel_rfl) (fun hc => ?_) (fun hc => ?_)
  simp only [decide_eq_true_eq] at hc
  refine zJ (zC (zD (zB (zE (zB (zA rfl ?_))))))
  refine zG [15, 16] [(7, iD ↑i)] ?_
  refine zB ?_
  refine zT [0, 1, 2, 4, 5, 6, 3, 7, 8, 9] (by kernel_rfl) rfl ?_
  refine zF 7 [] [] (((0 : Int) ≤ (↑i : Int) ∧ (↑i : Int) < (↑(List.length a) : Int) ∧ zM a ≠ []) ∧ ((0 : Int) ≤ (↑i : Int) ∧ (↑i : Int) < (↑(List.length b) : Int) ∧ zM b ≠ []) ∧ 3 ≤ List.length (List.drop (i * 3) (zM a))) [(17, (q3_ a)), (18, iD ↑i), (19, D.ptr (List.drop (i * 3) (zM a))), (20, D.agg (List.take 3 (List.drop (i * 3) (zM a)))), (21, (q3_ b)), (22, iD ↑i), (23, D.ptr (List.drop (i * 3) (zM b)))] (by kernel_rfl) ⟨⟨(by omega), ⟨(by omega), (by exact zT7 _ (by omega))⟩⟩, ⟨(by omega), ⟨(by omega), (by exact zT7 _ (by omega))⟩⟩, (by exact zPa _ _ (by omega))⟩ ?_
  refine zY 20 (D.agg (List.take 3 (List.drop (i * 3) (zM a)))) (D.agg (vaC (List.getD a i default))) (by kernel_rfl) (by simp (disch := omega) only [zKm]) (by kernel_rfl) ?_
  refine zF 1 [] [] (3 ≤ List.length (List.drop (i * 3) (zM b))) [(24, D.agg (List.take 3 (List.drop (i * 3) (zM b))))] (by kernel_rfl) (by exact zPa _ _ (by omega)) ?_
  refine zY 24 (D.agg (List.take 3 (List.drop (i * 3) (zM b)))) (D.agg (vaC (List.getD b i default))) (by kernel_rfl) (by simp (disch := omega) only [zKm]) (by kernel_rfl) ?_
  refine zX [D.agg [iD (Va.kind (List.getD a i default)), iD (Va.int (List.getD a i default)), D.val (Value.string (bs (Va.str (List.getD a i default))))], D.agg [iD (Va.kind (List.getD b i default)), iD (Va.int (List.getD b i default)), D.val (Value.string (bs (Va.str (List.getD b i default))))]] (by exact zF3 _ _) ?_
  refine zG [17, 18, 19, 20, 21, 22, 23, 24, 25] [(8, iD (vcmp (List.getD a i default) (List.getD b i default)))] ?_
  refine zB (zB (zA rfl ?_))
  refine zG [26] [(27, bD (vcmp (List.getD a i default) (List.getD b i default) == (0 : Int)))] ?_
  refine zAm (t := vcmp (List.getD a i default) (List.getD b i default) == (0 : Int)) (by kernel_rfl) (fun hc => ?_) (fun hc => ?_)
  simp only [beq_iff_eq] at hc
  refine zAc (zK (zV rfl (zC (zD (zA rfl ?_)))))
  refine zF 1 [] [] (-9223372036854775808 ≤ (↑i : Int) + (1 : Int) ∧ (↑i : Int) + (1 : Int) ≤ 9223372036854775807) [(41, iD ((↑i : Int) + (1 : Int)))] (by kernel_rfl) (by omega) ?_
  refine zY 41 (iD ((↑i : Int) + (1 : Int))) (iD (↑(i + 1) : Int)) (by kernel_rfl) (by simp (disch := omega) only [zBh]) (by kernel_rfl) ?_
  refine zAi 1 [(14, iD (↑(i + 1) : Int))] ?_
  refine zAb ?_ (by kernel_rfl)
  refine zC ?_
  rotate_left
  simp only [beq_eq_false_iff_ne] at hc
  refine zJ (zC (zD (zB (zB (zA rfl ?_)))))
  refine zAi 5 [(28, iD ↑i), (29, D.row (List.map bD ds) (List.length ds)), (30, iD (↑(List.length ds) : Int)), (31, bD (decide ((↑i : Int) < (↑(List.length ds) : Int)))), (32, bD (decide ((↑i : Int) < (↑(List.length ds) : Int))))] ?_
  refine zKo 32 (decide ((↑i : Int) < (↑(List.length ds) : Int))) (by kernel_rfl) (fun hc => ?_) (fun hc => ?_)
  simp only [decide_eq_true_eq] at hc
  refine zF 3 [] [] ((0 : Int) ≤ (↑i : Int) ∧ (↑i : Int) < (↑(List.length ds) : Int) ∧ List.map bD ds ≠ []) [(33, D.row (List.map bD ds) (List.length ds)), (34, iD ↑i), (35, D.ptr (List.drop (Int.toNat (↑i : Int) * 1) (List.map bD ds)))] (by kernel_rfl) ⟨(by omega), ⟨(by omega), (by exact zDm (by omega))⟩⟩ ?_
  refine zY 35 (D.ptr (List.drop (Int.toNat (↑i : Int) * 1) (List.map bD ds))) (D.ptr (List.drop i (List.map bD ds))) (by kernel_rfl) (by simp (disch := omega) only [Int.toNat_natCast, Nat.mul_one]) (by kernel_rfl) ?_
  refine zF 1 [] [] (0 < List.length (List.drop i (List.map bD ds))) [(36, List.headD (List.drop i (List.map bD ds)) U)] (by kernel_rfl) (by (simp; omega)) ?_
  refine zY 36 (List.headD (List.drop i (List.map bD ds)) U) (bD (List.getD ds i false)) (by kernel_rfl) (by simp (disch := omega) only [zVs]) (by kernel_rfl) ?_
  refine zG [7, 27, 28, 29, 30, 31, 32, 33, 34, 35, 36] [(37, bD (List.getD ds i false))] ?_
  refine zAm (t := List.getD ds i false) (by kernel_rfl) (fun hc => ?_) (fun hc => ?_)
  refine zB (zA rfl ?_)
  refine zQ [] [] [37, 38, 39] (-9223372036854775808 ≤ (0 : Int) - vcmp (List.getD a i default) (List.getD b i default) ∧ (0 : Int) - vcmp (List.getD a i default) (List.getD b i default) ≤ 9223372036854775807) [(6, iD ((0 : Int) - vcmp (List.getD a i default) (List.getD b i default)))] (by kernel_rfl) (by omega) ?_
  refine zW (zR (zAd (zR (zR (zAd (zR ?_))))))
  refine zZ (True) (iD ((0 : Int) - vcmp (List.getD a i default) (List.getD b i default))) (D.val (Value.int IntKind.i64 ((0 : Int) - vcmp (List.getD a i default) (List.getD b i default)))) (.inr rfl) (by kernel_rfl) trivial rfl ?_
  rotate_left
  refine zJ (zC (zD (zB (zA rfl ?_))))
  refine zG [8, 37, 40] [(6, iD (vcmp (List.getD a i default) (List.getD b i default)))] ?_
  refine zW (zAd (zR (zR (zAd (zR ?_)))))
  refine zZ (True) (iD (vcmp (List.getD a i default) (List.getD b i default))) (D.val (Value.int IntKind.i64 (vcmp (List.getD a i default) (List.getD b i default)))) (.inr rfl) (by kernel_rfl) trivial rfl ?_
  rotate_left
  simp only [decide_eq_false_iff_not] at hc
  refine zG [7, 27, 28, 29, 30, 31, 32, 33, 34, 35, 36] [(37, bD false)] ?_
  refine zS ?_
  refine zJ (zC (zD (zB (zA rfl ?_))))
  refine zG [8, 37, 40] [(6, iD (vcmp (List.getD a i default) (List.getD b i default)))] ?_
  refine zW (zAd (zR (zR (zAd (zR ?_)))))
  refine zZ (True) (iD (vcmp (List.getD a i default) (List.getD b i default))) (D.val (Value.int IntKind.i64 (vcmp (List.getD a i default) (List.getD b i default)))) (.inr rfl) (by kernel_rfl) trivial rfl ?_
  rotate_left
  simp only [decide_eq_false_iff_not] at hc
  refine zAc (zK (zK (zV rfl (zC (zD (zB (zE (zB (zA rfl ?_)))))))))
  refine zG [2, 13, 14, 15, 43, 44, 45, 46, 47] [(42, bD (decide ((↑(List.length a) : Int) < (↑(List.length b) : Int))))] ?_
  refine zAm (t := decide ((↑(List.length a) : Int) < (↑(List.length b) : Int))) (by kernel_rfl) (fun hc => ?_) (fun hc => ?_)
  simp only [decide_eq_true_eq] at hc
  refine zB (zA rfl ?_)
  refine zG [0, 1, 42] [(6, iD (-1))] ?_
  refine zW (zAd (zR ?_))
  refine zZ (True) (iD (-1)) (q4_) (.inr rfl) (by kernel_rfl) trivial rfl ?_
  rotate_left
  simp only [decide_eq_false_iff_not] at hc
  refine zB (zA rfl ?_)
  refine zG [0, 1, 42, 49, 50, 51, 52, 53] [(48, bD (decide ((↑(List.length a) : Int) > (↑(List.length b) : Int))))] ?_
  refine zAm (t := decide ((↑(List.length a) : Int) > (↑(List.length b) : Int))) (by kernel_rfl) (fun hc => ?_) (fun hc => ?_)
  simp only [decide_eq_true_eq] at hc
  refine zB (zA rfl ?_)
  refine zG [48] [(6, iD 1)] ?_
  refine zW (zAd (zR ?_))
  refine zZ (True) (iD 1) (q5_) (.inr rfl) (by kernel_rfl) trivial rfl ?_
  rotate_left
  simp only [decide_eq_false_iff_not] at hc
  refine zJ (zL (zC (zD (zB (zA rfl ?_)))))
  refine zG [48] [(6, iD 0)] ?_
  refine zW ?_
  refine zZ (True) (iD 0) (q6_) (.inr rfl) (by kernel_rfl) trivial rfl ?_
  rotate_left
 ·refine ⟨i + 1, ⟨by omega, by omega, ?_⟩, by omega, ?_⟩
  ·exact zLn i a b (by omega) (by omega) h3 (by omega)
  ·refine zAp [(0, 1), (1, 1), (2, 1), (13, 1), (14, 1)] (D.row (zM a) (List.length a) = D.row (zM a) (List.length a) ∧ D.row (zM b) (List.length b) = D.row (zM b) (List.length b) ∧ D.row (List.map bD ds) (List.length ds) = D.row (List.map bD ds) (List.length ds) ∧ iD (if (↑(List.length b) : Int) < (↑(List.length a) : Int) then (↑(List.length b) : Int) else (↑(List.length a) : Int)) = iD (if (↑(List.length b) : Int) < (↑(List.length a) : Int) then (↑(List.length b) : Int) else (↑(List.length a) : Int)) ∧ iD (↑(i + 1) : Int) = iD (↑(i + 1) : Int)) 0 [] (by kernel_rfl) ⟨rfl, rfl, rfl, rfl, rfl⟩ (by kernel_rfl) (fun _ _ => rfl) (by kernel_rfl)
 ·rw [zKz i a b ds (by omega) (by omega) h3 (by assumption), if_pos (by assumption), Int.zero_sub]
 ·rw [zKz i a b ds (by omega) (by omega) h3 (by assumption), if_neg (by rw [show ds.getD i false = false by assumption]; decide)]
 ·rw [zKz i a b ds (by omega) (by omega) h3 (by assumption), if_neg]
  rw [List.getD_eq_getElem?_getD, List.getElem?_eq_none (by omega)]; simp
 all_goals
  have he : i = a.length ∨ i = b.length := by
   have hc' : ¬ ((i : Int) < if (b.length : Int) < a.length then (b.length : Int) else a.length) := by omega
   split at hc' <;> omega
  rw [zVc a b i ds (by omega) (by omega) h3 he]
 ·rw [if_pos (by omega)]
 ·rw [if_neg (by omega), if_pos (by omega)]
 ·rw [if_neg (by omega), if_neg (by omega)]
theorem zJ4 (a b : List Va) (n m : Nat) (hn : a.length = n) (hm : b.length = m) (ln : n ≤ 1000000000) (lm : m ≤ 1000000000) : Pure Tryz.prog 120 [.row (zM a) n, .row (zM b) m] [] (iD (rcmp a b)) := by
 refine zP zAo mixed Tryz.func120 rfl ?_
 focus
  refine zB (zA rfl ?_)
  refine zG [] [(4, iD 0)] ?_
  refine zB (zA rfl ?_)
  refine zAi 2 [(5, D.row (zM a) n), (6, D.row (zM b) m)] ?_
  refine zAz [D.row (zM a) n, D.row (zM b) m, nl] [D.row (zM a) n, D.row (zM b) m, D.row [] 0] (by kernel_rfl) (LeL.trans (LeL.refl _) (LeL.cons (LeD.refl _) (LeL.cons (LeD.refl _) (LeL.cons LeD.nil_row LeL.nil)))) (by exact zLv a b [] _ _ 0 hn hm rfl ln lm (by omega)) ?_
  refine zG [0, 1, 5, 6, 7] [(4, iD (zF6 a b []))] ?_
  refine zW ?_
  refine zZ (True) (iD (zF6 a b [])) (D.val (Value.int IntKind.i64 (zF6 a b []))) (.inr rfl) (by kernel_rfl) trivial rfl ?_
  rotate_left
 rw [zLw]
end
section
open Go.RowKit
attribute [local irreducible] seqW awp zA3 zCo zBd Weak updS zB0 retL Pure Acts
set_option maxRecDepth 4096
inductive WT where
 | nil
 | node (v : Va) (w : Nat) (l r : WT)
namespace WT
def ht : WT → Nat
 | nil => 0
 | node _ _ l r => max l.ht r.ht + 1
def sz : WT → Nat
 | nil => 0
 | node _ _ l r => l.sz + 1 + r.sz
def tot : WT → Nat
 | nil => 0
 | node _ w l r => l.tot + w + r.tot
def lst : WT → List (Va × Nat)
 | nil => []
 | node v w l r => l.lst ++ (v, w) :: r.lst
def d : WT → D
 | nil => .val (.pointer none)
 | node v w l r => .ptr (vaC v ++ [natD w, .fx l.d, .fx r.d, iD (max l.ht r.ht + 1 : Nat), iD (l.sz + 1 + r.sz : Nat), natD (l.tot + w + r.tot)])
def bal (l : WT) (v : Va) (w : Nat) (r : WT) : WT :=
 if r.ht + 1 < l.ht then match l with
  | node lv lw ll lr => if lr.ht ≤ ll.ht then node lv lw ll (node v w lr r) else match lr with
   | node mv mw ml mr => node mv mw (node lv lw ll ml) (node v w mr r)
   | nil => nil
  | nil => nil
 else if l.ht + 1 < r.ht then match r with
  | node rv rw rl rr => if rl.ht ≤ rr.ht then node rv rw (node v w l rl) rr else match rl with
   | node mv mw ml mr => node mv mw (node v w l ml) (node rv rw mr rr)
   | nil => nil
  | nil => nil
 else node v w l r
def cmp (desc : Bool) (a b : Va) : Int := if desc then vcmp b a else vcmp a b
def put (desc : Bool) (v : Va) (w : Nat) : WT → WT
 | nil => node v w nil nil
 | node u x l r => if cmp desc v u < 0 then bal (put desc v w l) u x r else if cmp desc v u > 0 then bal l u x (put desc v w r) else node v w l r
theorem zDn : ∀ t : WT, t.lst.length = t.sz
 | nil => rfl
 | node v w l r => by simp only [lst, sz, List.length_append, List.length_cons, zDn l, zDn r]; omega
theorem ht_le_sz : ∀ t : WT, t.ht ≤ t.sz
 | nil => Nat.le_refl _
 | node v w l r => by have := ht_le_sz l; have := ht_le_sz r; simp only [ht, sz]; omega
theorem ht_pos {t : WT} (h : 0 < t.ht) : ∃ v w l r, t = node v w l r := by
 cases t with
 | nil => simp [ht] at h
 | node v w l r => exact ⟨v, w, l, r, rfl⟩
theorem zTl (l : WT) (v : Va) (w : Nat) (r : WT) : (bal l v w r).lst = l.lst ++ (v, w) :: r.lst := by
 unfold bal
 split
 ·rename_i h
  obtain ⟨lv, lw, ll, lr, rfl⟩ := ht_pos (t := l) (by omega)
  simp only
  split
  ·simp [lst]
  ·obtain ⟨mv, mw, ml, mr, rfl⟩ := ht_pos (t := lr) (by omega)
   simp [lst]
 ·split
  ·rename_i h
   obtain ⟨rv, rw', rl, rr, rfl⟩ := ht_pos (t := r) (by omega)
   simp only
   split
   ·simp [lst]
   ·obtain ⟨mv, mw, ml, mr, rfl⟩ := ht_pos (t := rl) (by omega)
    simp [lst]
  ·rfl
theorem zHa : ∀ t : WT, (t.lst.map Prod.snd).sum = t.tot
 | nil => rfl
 | node v w l r => by simp only [lst, tot, List.map_append, List.map_cons, List.sum_append, List.sum_cons, zHa l, zHa r]; omega
theorem zWq (l : WT) (v : Va) (w : Nat) (r : WT) : (bal l v w r).sz = l.sz + 1 + r.sz := by
 rw [← zDn, zTl, List.length_append, List.length_cons, zDn, zDn]; omega
theorem zTk (l : WT) (v : Va) (w : Nat) (r : WT) : (bal l v w r).tot = l.tot + w + r.tot := by
 rw [← zHa, zTl, List.map_append, List.map_cons, List.sum_append, List.sum_cons, zHa, zHa]; simp only; omega
theorem put_le (desc : Bool) (v : Va) (w : Nat) : ∀ t : WT, (put desc v w t).sz ≤ t.sz + 1 ∧ (put desc v w t).tot ≤ t.tot + w
 | nil => by simp [put, sz, tot]
 | node u x l r => by
  have h1 := put_le desc v w l
  have h2 := put_le desc v w r
  simp only [put]
  split
  ·rw [zWq, zTk]; simp only [sz, tot]; omega
  ·split
   ·rw [zWq, zTk]; simp only [sz, tot]; omega
   ·simp only [sz, tot]; omega
def Ok (t : WT) : Prop := t.sz ≤ 1000000000 ∧ Sm t.tot
theorem Ok.node {v : Va} {w : Nat} {l r : WT} (h : (node v w l r).Ok) : l.Ok ∧ r.Ok ∧ Sm w := by
 obtain ⟨h1, h2⟩ := h
 simp only [sz, tot] at h1 h2
 exact ⟨⟨by omega, h2.le (by omega)⟩, ⟨by omega, h2.le (by omega)⟩, h2.le (by omega)⟩
end WT
abbrev zJs (v : Va) (w : Nat) (l r : WT) : D := .ptr (vaC v ++ [natD w, .fx l.d, .fx r.d, iD (max l.ht r.ht + 1 : Nat), iD (l.sz + 1 + r.sz : Nat), natD (l.tot + w + r.tot)])
theorem LeL.relC {I : Im} {w : World} : ∀ {cs cs' : List D} {b o : Nat}, LeL cs cs' → RelC I w cs b o → RelC I w cs' b o
 | _, _, _, _, .nil, h => h
 | _, _, b, o, .cons h1 h2, h => by
  simp only [RelC] at h ⊢
  obtain ⟨⟨k1, v, k2, k3, k4⟩, k5⟩ := h
  exact ⟨⟨k1, v, k2, k3, h1 _ _ _ _ k4⟩, h2.relC k5⟩
theorem LeD.ptr {cs cs' : List D} (h : LeL cs cs') : LeD (.ptr cs) (.ptr cs') := fun I w β v hr => by
 simp only [Rel] at hr ⊢
 obtain ⟨b, o, h1, h2⟩ := hr
 exact ⟨b, o, h1, h.relC h2⟩
theorem WT.d_node (v : Va) (w : Nat) (l r : WT) : (WT.node v w l r).d = zJs v w l r := rfl
theorem WT.one (t : WT) (I : Im) (w : World) (v : Value) (h : Rel I w noB t.d v) : v.oneCell' = true := by
 cases t with
 | nil => simp only [WT.d, Rel] at h; subst h; rfl
 | node a b l r => simp only [WT.d, Rel] at h; obtain ⟨b, o, rfl, _⟩ := h; rfl
abbrev WT.x (t : WT) : D := .fx t.d
theorem zV6 (t : WT) : Pure Tryz.prog 116 [t.d] [] (iD (t.ht : Nat)) := by
 refine zP zAo mixed Tryz.func116 rfl ?_
 cases t with
 | nil => (focus (refine zB (zA rfl ?_); refine zG [] [(2, iD (0 : Int))] ?_; refine zB (zB (zA rfl ?_)); refine zG [3] [(4, bD true)] ?_; refine zAa ?_; refine zB (zA rfl ?_); refine zG [4] [] ?_; refine zW (zR ?_); refine zZ (True) (iD (0 : Int)) (D.val (Value.int IntKind.i64 (0 : Int))) (.inr rfl) (by kernel_rfl) trivial rfl ?_; rotate_left)); rfl
 | node v w l r => (focus (refine zB (zA rfl ?_); refine zG [] [(2, iD (0 : Int))] ?_; refine zB (zB (zA rfl ?_)); refine zG [3] [(4, bD false)] ?_; refine zS ?_; refine zJ (zC (zD (zB (zA rfl ?_)))); refine zQ [] [] [0, 4, 5, 6, 7, 8] (True ∧ (0 : Nat) < (3 : Nat)) [(2, iD (↑(max (WT.ht l) (WT.ht r) + (1 : Nat)) : Int))] (by kernel_rfl) ⟨trivial, (by omega)⟩ ?_; refine zW ?_; refine zZ (True) (iD (↑(max (WT.ht l) (WT.ht r) + (1 : Nat)) : Int)) (D.val (Value.int IntKind.i64 (↑(max (WT.ht l) (WT.ht r) + (1 : Nat)) : Int))) (.inr rfl) (by kernel_rfl) trivial rfl ?_; rotate_left)); rfl
theorem zFk (t : WT) : Pure Tryz.prog 116 [t.x] [] (iD (t.ht : Nat)) := (zV6 t).le (.cons (LeD.fx _) .nil)
theorem wszd_c (t : WT) : Pure Tryz.prog 68 [t.d] [] (iD (t.sz : Nat)) := by
 refine zP zAo mixed Tryz.func68 rfl ?_
 cases t with
 | nil => (focus (refine zB (zA rfl ?_); refine zG [] [(2, iD (0 : Int))] ?_; refine zB (zB (zA rfl ?_)); refine zG [3] [(4, bD true)] ?_; refine zAa ?_; refine zB (zA rfl ?_); refine zG [4] [] ?_; refine zW (zR ?_); refine zZ (True) (iD (0 : Int)) (D.val (Value.int IntKind.i64 (0 : Int))) (.inr rfl) (by kernel_rfl) trivial rfl ?_; rotate_left)); rfl
 | node v w l r => (focus (refine zB (zA rfl ?_); refine zG [] [(2, iD (0 : Int))] ?_; refine zB (zB (zA rfl ?_)); refine zG [3] [(4, bD false)] ?_; refine zS ?_; refine zJ (zC (zD (zB (zA rfl ?_)))); refine zQ [] [] [0, 4, 5, 6, 7, 8] (True ∧ (0 : Nat) < (2 : Nat)) [(2, iD (↑(WT.sz l + (1 : Nat) + WT.sz r) : Int))] (by kernel_rfl) ⟨trivial, (by omega)⟩ ?_; refine zW ?_; refine zZ (True) (iD (↑(WT.sz l + (1 : Nat) + WT.sz r) : Int)) (D.val (Value.int IntKind.i64 (↑(WT.sz l + (1 : Nat) + WT.sz r) : Int))) (.inr rfl) (by kernel_rfl) trivial rfl ?_; rotate_left)); rfl
theorem zT6 (t : WT) : Pure Tryz.prog 68 [t.x] [] (iD (t.sz : Nat)) := (wszd_c t).le (.cons (LeD.fx _) .nil)
theorem wtotd_c (t : WT) : Pure Tryz.prog 121 [t.d] [] (natD t.tot) := by
 refine zP zAo mixed Tryz.func121 rfl ?_
 cases t with
 | nil =>
  focus
   refine zB (zA rfl ?_)
   refine zG [] [(2, nl)] ?_
   refine zB (zB (zA rfl ?_))
   refine zG [3] [(4, bD true)] ?_
   refine zAa ?_
   refine zB (zA rfl ?_)
   refine zG [4] [] ?_
   refine zW (zR ?_)
   refine zZ (True) (D.row [] 0) (D.row [] 0) (.inr rfl) (by kernel_rfl) trivial rfl ?_
   rotate_left
  simp [WT.tot, dg]
 | node v w l r => (focus (refine zB (zA rfl ?_); refine zG [] [(2, D.val (Value.slice none (0 : Nat) (0 : Nat)))] ?_; refine zB (zB (zA rfl ?_)); refine zG [3] [(4, bD false)] ?_; refine zS ?_; refine zJ (zC (zD (zB (zA rfl ?_)))); refine zQ [] [] [0, 4, 5, 6, 7, 8] (True ∧ (0 : Nat) < (1 : Nat)) [(2, D.row (List.map dig (dg (WT.tot l + w + WT.tot r))) (List.length (dg (WT.tot l + w + WT.tot r))))] (by kernel_rfl) ⟨trivial, (by omega)⟩ ?_; refine zW ?_; refine zZ (True) (D.row (List.map dig (dg (WT.tot l + w + WT.tot r))) (List.length (dg (WT.tot l + w + WT.tot r)))) (D.row (List.map dig (dg (WT.tot l + w + WT.tot r))) (List.length (dg (WT.tot l + w + WT.tot r)))) (.inr rfl) (by kernel_rfl) trivial rfl ?_; rotate_left)); rfl
theorem zRc (t : WT) : Pure Tryz.prog 121 [t.x] [] (natD t.tot) := (wtotd_c t).le (.cons (LeD.fx _) .nil)
theorem zLk (v : Va) (w : Nat) (l r : WT) : Pure Tryz.prog 116 [zJs v w l r] [] (iD ((WT.node v w l r).ht : Nat)) := zV6 (.node v w l r)
abbrev entD (v : Va) (w : Nat) : D := .agg (vaC v ++ [natD w])
abbrev q7_ := D.val (Value.pointer none)
abbrev q8_ (x0 : Va) (x1 : Nat) := Bk.mk [iD (Va.kind x0), iD (Va.int x0), (q2_ x0), natD x1] 133 0 false false Kd.plain
abbrev q9_ (x0 : Va) (x1 : Nat) := D.agg [iD (Va.kind x0), iD (Va.int x0), (q2_ x0), natD x1]
theorem zB7 (l r : WT) (v : Va) (w : Nat) (h : (WT.node v w l r).Ok) : Pure Tryz.prog 115 [l.x, entD v w, r.x] [] (WT.node v w l r).x := by
 refine Pure.fx ?_ (WT.one _)
 refine zP zAo mixed Tryz.func115 rfl ?_
 have h1 := l.ht_le_sz
 have h2 := r.ht_le_sz
 have h3 := h.1
 have h4 := h.2
 simp only [WT.sz, WT.tot] at h3 h4
 have h5 : Sm [l.tot, w, r.tot].sum := by simp only [List.sum_cons, List.sum_nil]; exact h4.le (by omega)
 focus
  refine zB (zA rfl ?_)
  refine zN [] [] [1] (True) [(4, D.own 0 0), (6, q7_)] [] [(q8_ v w)] (by kernel_rfl) trivial ?_
  refine zB ?_
  refine zT [1, 2, 3, 5, 9, 12, 15, 17, 19, 0, 4, 6, 7, 8, 10, 11, 13, 14, 16, 18, 20, 21, 22, 23, 24, 25] (by kernel_rfl) rfl ?_
  refine zF 10 [] [] (True ∧ 4 ≤ 4) [(7, (q9_ v w)), (8, D.fx (WT.d l)), (9, D.fx (WT.d r)), (10, D.fx (WT.d l)), (12, D.fx (WT.d r)), (16, D.fx (WT.d l)), (19, D.fx (WT.d r)), (22, D.fx (WT.d l)), (24, D.own 0 3), (26, D.fx (WT.d r))] (by kernel_rfl) (by decide) ?_
  refine zX [D.fx (WT.d l)] (by exact zFk _) ?_
  refine zX [D.fx (WT.d r)] (by exact zFk _) ?_
  refine zF 2 [] [] (-9223372036854775808 ≤ (if (↑(WT.ht r) : Int) > (↑(WT.ht l) : Int) then (↑(WT.ht r) : Int) else (↑(WT.ht l) : Int)) + (1 : Int) ∧ (if (↑(WT.ht r) : Int) > (↑(WT.ht l) : Int) then (↑(WT.ht r) : Int) else (↑(WT.ht l) : Int)) + (1 : Int) ≤ 9223372036854775807) [(14, iD (if (↑(WT.ht r) : Int) > (↑(WT.ht l) : Int) then (↑(WT.ht r) : Int) else (↑(WT.ht l) : Int))), (15, iD ((if (↑(WT.ht r) : Int) > (↑(WT.ht l) : Int) then (↑(WT.ht r) : Int) else (↑(WT.ht l) : Int)) + (1 : Int)))] (by kernel_rfl) (by omega) ?_
  refine zX [D.fx (WT.d l)] (by exact zT6 _) ?_
  refine zF 1 [] [] (-9223372036854775808 ≤ (↑(WT.sz l) : Int) + (1 : Int) ∧ (↑(WT.sz l) : Int) + (1 : Int) ≤ 9223372036854775807) [(18, iD ((↑(WT.sz l) : Int) + (1 : Int)))] (by kernel_rfl) (by omega) ?_
  refine zX [D.fx (WT.d r)] (by exact zT6 _) ?_
  refine zF 1 [] [] (-9223372036854775808 ≤ (↑(WT.sz l) : Int) + (1 : Int) + (↑(WT.sz r) : Int) ∧ (↑(WT.sz l) : Int) + (1 : Int) + (↑(WT.sz r) : Int) ≤ 9223372036854775807) [(21, iD ((↑(WT.sz l) : Int) + (1 : Int) + (↑(WT.sz r) : Int)))] (by kernel_rfl) (by omega) ?_
  refine zX [D.fx (WT.d l)] (by exact zRc _) ?_
  refine zF 1 [] [] (0 < 1) [(25, natD w)] (by kernel_rfl) (by omega) ?_
  refine zX [D.fx (WT.d r)] (by exact zRc _) ?_
  refine zAg 1 [] [] ((1 = 1 ∧ 1 ≤ 3 ∧ 1 = 1 ∧ 2 ≤ 3 ∧ 1 = 1 ∧ 3 ≤ 3 ∧ True) ∧ 0 < 1 ∧ 1 = 1 ∧ 3 ≤ 16777216 ∧ 3 ≤ 9223372036854775807) [(28, D.osl 1 0 3 3 true)] [] [Bk.mk [natD (WT.tot l), natD w, natD (WT.tot r)] 44 1 true false Kd.plain] (by kernel_rfl) (by decide) ?_
  refine zAq [D.row [natD (WT.tot l), natD w, natD (WT.tot r)] 3] [1] [D.row [natD (WT.tot l), natD w, natD (WT.tot r)] 3] (by kernel_rfl) (LeL.refl _) (by exact nsum_c [l.tot, w, r.tot] 3 rfl (by omega) h5) ?_
  refine zN [] [] [0, 2, 4, 7, 8, 9, 10, 11, 12, 13, 14, 15, 16, 17, 18, 19, 20, 21, 22, 23, 24, 25, 26, 27, 28, 29, 30, 31] ((4 = 4 ∧ 4 ≤ 9 ∧ 1 = 1 ∧ 5 ≤ 9 ∧ 1 = 1 ∧ 6 ≤ 9 ∧ 1 = 1 ∧ 7 ≤ 9 ∧ 1 = 1 ∧ 8 ≤ 9 ∧ 1 = 1 ∧ 9 ≤ 9 ∧ True) ∧ true = true) [(6, D.own 2 0)] [] [Bk.mk [iD (Va.kind v), iD (Va.int v), (q2_ v), natD w, D.fx (WT.d l), D.fx (WT.d r), iD ((if (↑(WT.ht r) : Int) > (↑(WT.ht l) : Int) then (↑(WT.ht r) : Int) else (↑(WT.ht l) : Int)) + (1 : Int)), iD ((↑(WT.sz l) : Int) + (1 : Int) + (↑(WT.sz r) : Int)), natD (List.sum [WT.tot l, w, WT.tot r])] 135 0 false false Kd.plain] (by kernel_rfl) (by decide) ?_
  refine zW ?_
  refine zZ (True) (D.ptr [iD (Va.kind v), iD (Va.int v), (q2_ v), natD w, D.fx (WT.d l), D.fx (WT.d r), iD ((if (↑(WT.ht r) : Int) > (↑(WT.ht l) : Int) then (↑(WT.ht r) : Int) else (↑(WT.ht l) : Int)) + (1 : Int)), iD ((↑(WT.sz l) : Int) + (1 : Int) + (↑(WT.sz r) : Int)), natD (List.sum [WT.tot l, w, WT.tot r])]) (D.ptr [D.val (Value.int IntKind.i64 (Va.kind v)), D.val (Value.int IntKind.i64 (Va.int v)), (q2_ v), natD w, D.fx (WT.d l), D.fx (WT.d r), D.val (Value.int IntKind.i64 ((if (↑(WT.ht r) : Int) > (↑(WT.ht l) : Int) then (↑(WT.ht r) : Int) else (↑(WT.ht l) : Int)) + (1 : Int))), D.val (Value.int IntKind.i64 ((↑(WT.sz l) : Int) + (1 : Int) + (↑(WT.sz r) : Int))), natD (List.sum [WT.tot l, w, WT.tot r])]) (.inr rfl) (by kernel_rfl) trivial rfl ?_
  rotate_left
 have e1 : ((if (r.ht : Int) > (l.ht : Int) then (r.ht : Int) else (l.ht : Int)) + 1) = ((max l.ht r.ht + 1 : Nat) : Int) := by
  rw [Nat.max_def]
  split <;> split <;> omega
 have e2 : (l.sz : Int) + 1 + (r.sz : Int) = ((l.sz + 1 + r.sz : Nat) : Int) := by omega
 have e3 : [l.tot, w, r.tot].sum = l.tot + w + r.tot := by simp only [List.sum_cons, List.sum_nil]; omega
 rw [e1, e2, e3]; rfl
theorem wnil_x (v : Va) (w : Nat) : LeL [.val (.pointer none), entD v w, .val (.pointer none)] [WT.nil.x, entD v w, WT.nil.x] := by
 have h : LeD (.val (.pointer none)) WT.nil.x := fun I w β v h => by
  simp only [Rel] at h
  subst h
  simp only [Rel, WT.d]
  exact ⟨rfl, trivial⟩
 exact .cons h (.cons (LeD.refl _) (.cons h .nil))
theorem zP2 (desc : Bool) (t : WT) (a b : Va) : Pure Tryz.prog 62 [.agg [bD desc, t.x], vaD a, vaD b] [] (iD (WT.cmp desc a b)) := by
 refine zP zAo mixed Tryz.func62 rfl ?_
 cases desc with
 | true => (focus (refine zB (zA rfl ?_); refine zN [] [] [0, 1, 2] (True) [(3, D.own (0 : Nat) (0 : Nat)), (4, D.own (1 : Nat) (0 : Nat)), (5, D.own (2 : Nat) (0 : Nat)), (6, iD (0 : Int))] [] [Bk.mk [bD true, D.fx (WT.d t)] (57 : Nat) (0 : Nat) false false Kd.plain, Bk.mk [iD (Va.kind a), iD (Va.int a), D.val (Value.string (bs (Va.str a)))] (64 : Nat) (0 : Nat) false false Kd.plain, Bk.mk [iD (Va.kind b), iD (Va.int b), D.val (Value.string (bs (Va.str b)))] (64 : Nat) (0 : Nat) false false Kd.plain] (by kernel_rfl) trivial ?_; refine zB (zB (zA rfl ?_)); refine zQ [] [] [3, 7] (True ∧ (0 : Nat) < (2 : Nat)) [(8, bD true)] (by kernel_rfl) ⟨trivial, (by omega)⟩ ?_; refine zAa ?_; refine zB (zA rfl ?_); refine zF 2 [] [] ((3 : Nat) ≤ (3 : Nat) ∧ (3 : Nat) ≤ (3 : Nat)) [(9, D.agg [iD (Va.kind b), iD (Va.int b), D.val (Value.string (bs (Va.str b)))]), (10, D.agg [iD (Va.kind a), iD (Va.int a), D.val (Value.string (bs (Va.str a)))])] (by kernel_rfl) (by omega) ?_; refine zAz [D.agg [iD (Va.kind b), iD (Va.int b), D.val (Value.string (bs (Va.str b)))], D.agg [iD (Va.kind a), iD (Va.int a), D.val (Value.string (bs (Va.str a)))]] [D.agg [iD (Va.kind b), iD (Va.int b), D.val (Value.string (bs (Va.str b)))], D.agg [iD (Va.kind a), iD (Va.int a), D.val (Value.string (bs (Va.str a)))]] (by kernel_rfl) (LeL.refl _) (by exact zF3 _ _) ?_; refine zG [8, 9, 10, 11] [(6, iD (vcmp b a))] ?_; refine zW (zR ?_); refine zZ (True) (iD (vcmp b a)) (D.val (Value.int IntKind.i64 (vcmp b a))) (.inr rfl) (by kernel_rfl) trivial rfl ?_; rotate_left)); rfl
 | false => (focus (refine zB (zA rfl ?_); refine zN [] [] [0, 1, 2] (True) [(3, D.own (0 : Nat) (0 : Nat)), (4, D.own (1 : Nat) (0 : Nat)), (5, D.own (2 : Nat) (0 : Nat)), (6, iD (0 : Int))] [] [Bk.mk [bD false, D.fx (WT.d t)] (57 : Nat) (0 : Nat) false false Kd.plain, Bk.mk [iD (Va.kind a), iD (Va.int a), D.val (Value.string (bs (Va.str a)))] (64 : Nat) (0 : Nat) false false Kd.plain, Bk.mk [iD (Va.kind b), iD (Va.int b), D.val (Value.string (bs (Va.str b)))] (64 : Nat) (0 : Nat) false false Kd.plain] (by kernel_rfl) trivial ?_; refine zB (zB (zA rfl ?_)); refine zQ [] [] [3, 7] (True ∧ (0 : Nat) < (2 : Nat)) [(8, bD false)] (by kernel_rfl) ⟨trivial, (by omega)⟩ ?_; refine zS ?_; refine zJ (zC (zD (zB (zA rfl ?_)))); refine zF 2 [] [] ((3 : Nat) ≤ (3 : Nat) ∧ (3 : Nat) ≤ (3 : Nat)) [(12, D.agg [iD (Va.kind a), iD (Va.int a), D.val (Value.string (bs (Va.str a)))]), (13, D.agg [iD (Va.kind b), iD (Va.int b), D.val (Value.string (bs (Va.str b)))])] (by kernel_rfl) (by omega) ?_; refine zAz [D.agg [iD (Va.kind a), iD (Va.int a), D.val (Value.string (bs (Va.str a)))], D.agg [iD (Va.kind b), iD (Va.int b), D.val (Value.string (bs (Va.str b)))]] [D.agg [iD (Va.kind a), iD (Va.int a), D.val (Value.string (bs (Va.str a)))], D.agg [iD (Va.kind b), iD (Va.int b), D.val (Value.string (bs (Va.str b)))]] (by kernel_rfl) (LeL.refl _) (by exact zF3 _ _) ?_; refine zG [4, 5, 8, 12, 13, 14] [(6, iD (vcmp a b))] ?_; refine zW ?_; refine zZ (True) (iD (vcmp a b)) (D.val (Value.int IntKind.i64 (vcmp a b))) (.inr rfl) (by kernel_rfl) trivial rfl ?_; rotate_left)); rfl
abbrev q10_ (x0 : Va) (x1 : Nat) (x2 : WT) (x3 : WT) := D.ptr [iD (Va.kind x0), iD (Va.int x0), (q2_ x0), natD x1, D.fx (WT.d x2), D.fx (WT.d x3), iD (↑(max (WT.ht x2) (WT.ht x3) + 1) : Int), iD (↑(WT.sz x2 + 1 + WT.sz x3) : Int), natD (WT.tot x2 + x1 + WT.tot x3)]
abbrev q11_ (x0 : Va) (x1 : Nat) (x2 : WT) (x3 : Va) (x4 : Nat) (x5 : WT) (x6 : WT) := D.ptr [iD (Va.kind x0), iD (Va.int x0), (q2_ x0), natD x1, D.fx (WT.d x2), (q10_ x3 x4 x5 x6), iD (↑(max (WT.ht x2) (WT.ht (WT.node x3 x4 x5 x6)) + 1) : Int), iD (↑(WT.sz x2 + 1 + WT.sz (WT.node x3 x4 x5 x6)) : Int), natD (WT.tot x2 + x1 + WT.tot (WT.node x3 x4 x5 x6))]
abbrev q12_ (x0 : Va) (x1 : Nat) (x2 : Va) (x3 : Nat) (x4 : WT) (x5 : WT) (x6 : WT) := D.ptr [iD (Va.kind x0), iD (Va.int x0), (q2_ x0), natD x1, (q10_ x2 x3 x4 x5), D.fx (WT.d x6), iD (↑(max (WT.ht (WT.node x2 x3 x4 x5)) (WT.ht x6) + 1) : Int), iD (↑(WT.sz (WT.node x2 x3 x4 x5) + 1 + WT.sz x6) : Int), natD (WT.tot (WT.node x2 x3 x4 x5) + x1 + WT.tot x6)]
set_option maxHeartbeats 2000000 in
theorem zV7 (l r : WT) (v : Va) (w : Nat) (h : (WT.node v w l r).Ok) : Pure Tryz.prog 118 [l.x, entD v w, r.x] [] (WT.bal l v w r).x := by
 have k1 := l.ht_le_sz
 have k2 := r.ht_le_sz
 have k3 := h.1
 have k4 := h.2
 simp only [WT.sz, WT.tot] at k3 k4
 by_cases c1 : r.ht + 1 < l.ht
 ·obtain ⟨lv, lw, ll, lr, rfl⟩ := WT.ht_pos (t := l) (by omega)
  simp only [WT.sz, WT.tot] at k3 k4
  have e1 : (WT.node lv lw ll lr).ht = max ll.ht lr.ht + 1 := rfl
  have g1 := ll.ht_le_sz
  have g2 := lr.ht_le_sz
  rw [WT.bal.eq_def, if_pos c1]
  simp only
  refine Pure.le (args' := [zJs lv lw ll lr, entD v w, r.x]) ?_ (.cons (LeD.fx _) (.refl _))
  by_cases c2 : lr.ht ≤ ll.ht
  ·rw [if_pos c2]
   have j1 := zB7 lr r v w ⟨by simp only [WT.sz]; omega, k4.le (by simp only [WT.tot]; omega)⟩
   have j2 := zB7 ll (.node v w lr r) lv lw ⟨by simp only [WT.sz]; omega, k4.le (by simp only [WT.tot]; omega)⟩
   refine zP zAo mixed Tryz.func118 rfl ?_
   focus
    refine zB (zA rfl ?_)
    refine zN [] [] [1] (True) [(4, D.own 0 0), (6, q7_)] [] [(q8_ v w)] (by kernel_rfl) trivial ?_
    refine zB (zB (zA rfl ?_))
    refine zAi 1 [(11, (q10_ lv lw ll lr))] ?_
    refine zX [(q10_ lv lw ll lr)] (by exact zLk lv lw ll lr) ?_
    refine zAi 1 [(13, D.fx (WT.d r))] ?_
    refine zX [D.fx (WT.d r)] (by exact zFk _) ?_
    refine zG [11, 12, 13, 14] [(7, iD (↑(WT.ht (WT.node lv lw ll lr)) : Int)), (8, iD (↑(WT.ht r) : Int))] ?_
    refine zE (zB ?_)
    refine zT [0, 1, 2, 3, 4, 5, 6, 7, 10, 11, 12, 8, 9, 13, 14, 15, 16, 17] (by kernel_rfl) rfl ?_
    refine zF 12 [] [(4, true)] ((-9223372036854775808 ≤ (↑(WT.ht r) : Int) + (1 : Int) ∧ (↑(WT.ht r) : Int) + (1 : Int) ≤ 9223372036854775807) ∧ decide ((↑(WT.ht (WT.node lv lw ll lr)) : Int) > (↑(WT.ht r) : Int) + (1 : Int)) = true ∧ True ∧ True ∧ 0 < 5) [(16, iD (↑(WT.ht (WT.node lv lw ll lr)) : Int)), (17, iD (↑(WT.ht r) : Int)), (18, iD ((↑(WT.ht r) : Int) + (1 : Int))), (19, bD (decide ((↑(WT.ht (WT.node lv lw ll lr)) : Int) > (↑(WT.ht r) : Int) + (1 : Int)))), (20, bD true), (21, (q10_ lv lw ll lr)), (22, (q10_ lv lw ll lr)), (23, D.ptr [D.fx (WT.d ll), D.fx (WT.d lr), iD (↑(max (WT.ht ll) (WT.ht lr) + 1) : Int), iD (↑(WT.sz ll + 1 + WT.sz lr) : Int), natD (WT.tot ll + lw + WT.tot lr)]), (24, D.fx (WT.d ll)), (26, (q10_ lv lw ll lr)), (27, (q10_ lv lw ll lr)), (28, D.ptr [D.fx (WT.d lr), iD (↑(max (WT.ht ll) (WT.ht lr) + 1) : Int), iD (↑(WT.sz ll + 1 + WT.sz lr) : Int), natD (WT.tot ll + lw + WT.tot lr)])] (by kernel_rfl) ⟨(by omega), (by exact decide_eq_true (by omega)), trivial, trivial, (by omega)⟩ ?_
    refine zX [D.fx (WT.d ll)] (by exact zFk _) ?_
    refine zF 1 [] [] (0 < 4) [(29, D.fx (WT.d lr))] (by kernel_rfl) (by omega) ?_
    refine zX [D.fx (WT.d lr)] (by exact zFk _) ?_
    refine zG [16, 17, 18, 19, 20, 21, 22, 23, 24, 25, 26, 27, 28, 29, 30, 31, 32] [(15, bD (decide ((↑(WT.ht ll) : Int) ≥ (↑(WT.ht lr) : Int))))] ?_
    refine zCk (t := decide ((↑(WT.ht ll) : Int) ≥ (↑(WT.ht lr) : Int))) (by kernel_rfl) (by exact decide_eq_true (by omega)) ?_
    refine zB ?_
    refine zT [0, 1, 2, 4, 5, 6, 8, 9, 10, 13, 3, 7, 11, 12, 14, 15, 16] (by kernel_rfl) rfl ?_
    refine zF 14 [] [] (True ∧ True ∧ True ∧ 0 < 5 ∧ 4 ≤ 9 ∧ 0 < 4 ∧ 4 ≤ 4) [(33, (q10_ lv lw ll lr)), (34, (q10_ lv lw ll lr)), (35, D.ptr [D.fx (WT.d ll), D.fx (WT.d lr), iD (↑(max (WT.ht ll) (WT.ht lr) + 1) : Int), iD (↑(WT.sz ll + 1 + WT.sz lr) : Int), natD (WT.tot ll + lw + WT.tot lr)]), (36, D.fx (WT.d ll)), (37, (q10_ lv lw ll lr)), (38, (q10_ lv lw ll lr)), (39, (q10_ lv lw ll lr)), (40, (q9_ lv lw)), (41, (q10_ lv lw ll lr)), (42, (q10_ lv lw ll lr)), (43, D.ptr [D.fx (WT.d lr), iD (↑(max (WT.ht ll) (WT.ht lr) + 1) : Int), iD (↑(WT.sz ll + 1 + WT.sz lr) : Int), natD (WT.tot ll + lw + WT.tot lr)]), (44, D.fx (WT.d lr)), (45, (q9_ v w)), (46, D.fx (WT.d r))] (by kernel_rfl) (by decide) ?_
    refine zX [D.fx (WT.d lr), (q9_ v w), D.fx (WT.d r)] (by exact j1) ?_
    refine zX [D.fx (WT.d ll), (q9_ lv lw), D.fx (WT.d (WT.node v w lr r))] (by exact j2) ?_
    refine zG [7, 8, 15, 33, 34, 35, 36, 37, 38, 39, 40, 41, 42, 43, 44, 45, 46, 47, 48] [(6, D.fx (WT.d (WT.node lv lw ll (WT.node v w lr r))))] ?_
    refine zW (zAd (zR ?_))
    refine zZ (True) (D.fx (WT.d (WT.node lv lw ll (WT.node v w lr r)))) (D.fx (WT.d (WT.node lv lw ll (WT.node v w lr r)))) (.inr rfl) (by kernel_rfl) trivial rfl rfl
  ·rw [if_neg c2]
   obtain ⟨mv, mw, ml, mr, rfl⟩ := WT.ht_pos (t := lr) (by omega)
   simp only [WT.sz, WT.tot] at k3 k4
   have e2 : (WT.node mv mw ml mr).ht = max ml.ht mr.ht + 1 := rfl
   have j1 := zB7 ll ml lv lw ⟨by simp only [WT.sz]; omega, k4.le (by simp only [WT.tot]; omega)⟩
   have j2 := zB7 mr r v w ⟨by simp only [WT.sz]; omega, k4.le (by simp only [WT.tot]; omega)⟩
   have j3 := zB7 (.node lv lw ll ml) (.node v w mr r) mv mw ⟨by simp only [WT.sz]; omega, k4.le (by simp only [WT.tot]; omega)⟩
   simp only [WT.sz] at k1
   have o1 := zLk lv lw ll (.node mv mw ml mr)
   refine Pure.le (args' := [.ptr (vaC lv ++ [natD lw, .fx ll.d, zJs mv mw ml mr, iD (max ll.ht (WT.node mv mw ml mr).ht + 1 : Nat), iD (ll.sz + 1 + (WT.node mv mw ml mr).sz : Nat), natD (ll.tot + lw + (WT.node mv mw ml mr).tot)]), entD v w, r.x]) ?_ (.cons (LeD.ptr (.cons (.refl _) (.cons (.refl _) (.cons (.refl _) (.cons (.refl _) (.cons (.refl _) (.cons (LeD.fx _) (.refl _)))))))) (.refl _))
   have o2 : Pure Tryz.prog 116 [.ptr (vaC lv ++ [natD lw, .fx ll.d, zJs mv mw ml mr, iD (max ll.ht (WT.node mv mw ml mr).ht + 1 : Nat), iD (ll.sz + 1 + (WT.node mv mw ml mr).sz : Nat), natD (ll.tot + lw + (WT.node mv mw ml mr).tot)])] [] (iD ((WT.node lv lw ll (.node mv mw ml mr)).ht : Nat)) := by
    refine zP zAo mixed Tryz.func116 rfl ?_
    focus
     refine zB (zA rfl ?_)
     refine zG [] [(2, iD 0)] ?_
     refine zB (zB (zA rfl ?_))
     refine zG [3] [(4, bD false)] ?_
     refine zS ?_
     refine zJ (zC (zD (zB (zA rfl ?_))))
     refine zQ [] [] [0, 4, 5, 6, 7, 8] (True ∧ 0 < 3) [(2, iD (↑(max (WT.ht ll) (WT.ht (WT.node mv mw ml mr)) + 1) : Int))] (by kernel_rfl) (by decide) ?_
     refine zW ?_
     refine zZ (True) (iD (↑(max (WT.ht ll) (WT.ht (WT.node mv mw ml mr)) + 1) : Int)) (D.val (Value.int IntKind.i64 (↑(max (WT.ht ll) (WT.ht (WT.node mv mw ml mr)) + 1) : Int))) (.inr rfl) (by kernel_rfl) trivial rfl ?_
     rotate_left
    rfl
   refine zP zAo mixed Tryz.func118 rfl ?_
   focus
    refine zB (zA rfl ?_)
    refine zN [] [] [1] (True) [(4, D.own 0 0), (6, q7_)] [] [(q8_ v w)] (by kernel_rfl) trivial ?_
    refine zB (zB (zA rfl ?_))
    refine zAi 1 [(11, (q11_ lv lw ll mv mw ml mr))] ?_
    refine zX [(q11_ lv lw ll mv mw ml mr)] (by exact o2) ?_
    refine zAi 1 [(13, D.fx (WT.d r))] ?_
    refine zX [D.fx (WT.d r)] (by exact zFk _) ?_
    refine zG [11, 12, 13, 14] [(7, iD (↑(WT.ht (WT.node lv lw ll (WT.node mv mw ml mr))) : Int)), (8, iD (↑(WT.ht r) : Int))] ?_
    refine zE (zB ?_)
    refine zT [0, 1, 2, 3, 4, 5, 6, 7, 10, 11, 12, 8, 9, 13, 14, 15, 16, 17] (by kernel_rfl) rfl ?_
    refine zF 12 [] [(4, true)] ((-9223372036854775808 ≤ (↑(WT.ht r) : Int) + (1 : Int) ∧ (↑(WT.ht r) : Int) + (1 : Int) ≤ 9223372036854775807) ∧ decide ((↑(WT.ht (WT.node lv lw ll (WT.node mv mw ml mr))) : Int) > (↑(WT.ht r) : Int) + (1 : Int)) = true ∧ True ∧ True ∧ 0 < 5) [(16, iD (↑(WT.ht (WT.node lv lw ll (WT.node mv mw ml mr))) : Int)), (17, iD (↑(WT.ht r) : Int)), (18, iD ((↑(WT.ht r) : Int) + (1 : Int))), (19, bD (decide ((↑(WT.ht (WT.node lv lw ll (WT.node mv mw ml mr))) : Int) > (↑(WT.ht r) : Int) + (1 : Int)))), (20, bD true), (21, (q11_ lv lw ll mv mw ml mr)), (22, (q11_ lv lw ll mv mw ml mr)), (23, D.ptr [D.fx (WT.d ll), (q10_ mv mw ml mr), iD (↑(max (WT.ht ll) (WT.ht (WT.node mv mw ml mr)) + 1) : Int), iD (↑(WT.sz ll + 1 + WT.sz (WT.node mv mw ml mr)) : Int), natD (WT.tot ll + lw + WT.tot (WT.node mv mw ml mr))]), (24, D.fx (WT.d ll)), (26, (q11_ lv lw ll mv mw ml mr)), (27, (q11_ lv lw ll mv mw ml mr)), (28, D.ptr [(q10_ mv mw ml mr), iD (↑(max (WT.ht ll) (WT.ht (WT.node mv mw ml mr)) + 1) : Int), iD (↑(WT.sz ll + 1 + WT.sz (WT.node mv mw ml mr)) : Int), natD (WT.tot ll + lw + WT.tot (WT.node mv mw ml mr))])] (by kernel_rfl) ⟨(by omega), (by exact decide_eq_true (by omega)), trivial, trivial, (by omega)⟩ ?_
    refine zX [D.fx (WT.d ll)] (by exact zFk _) ?_
    refine zF 1 [] [] (0 < 4) [(29, (q10_ mv mw ml mr))] (by kernel_rfl) (by omega) ?_
    refine zX [(q10_ mv mw ml mr)] (by exact zLk mv mw ml mr) ?_
    refine zG [16, 17, 18, 19, 20, 21, 22, 23, 24, 25, 26, 27, 28, 29, 30, 31, 32] [(15, bD (decide ((↑(WT.ht ll) : Int) ≥ (↑(WT.ht (WT.node mv mw ml mr)) : Int))))] ?_
    refine zBc (t := decide ((↑(WT.ht ll) : Int) ≥ (↑(WT.ht (WT.node mv mw ml mr)) : Int))) (by kernel_rfl) (by exact decide_eq_false (by omega)) ?_
    refine zB (zA rfl ?_)
    refine zQ [] [] [15, 50, 51, 52, 53] (-9223372036854775808 ≤ (↑(WT.ht r) : Int) + (1 : Int) ∧ (↑(WT.ht r) : Int) + (1 : Int) ≤ 9223372036854775807) [(49, bD (decide ((↑(WT.ht (WT.node lv lw ll (WT.node mv mw ml mr))) : Int) > (↑(WT.ht r) : Int) + (1 : Int))))] (by kernel_rfl) (by omega) ?_
    refine zCk (t := decide ((↑(WT.ht (WT.node lv lw ll (WT.node mv mw ml mr))) : Int) > (↑(WT.ht r) : Int) + (1 : Int))) (by kernel_rfl) (by exact decide_eq_true (by omega)) ?_
    refine zB (zA rfl ?_)
    refine zQ [] [] [7, 8, 49, 54, 55, 56, 57] (True ∧ 0 < 4) [(9, (q10_ mv mw ml mr))] (by kernel_rfl) (by decide) ?_
    refine zB ?_
    refine zT [0, 1, 2, 4, 5, 6, 8, 9, 10, 13, 14, 15, 17, 18, 19, 22, 3, 7, 11, 12, 16, 20, 21, 23, 24, 25] (by kernel_rfl) rfl ?_
    refine zF 19 [] [] (True ∧ True ∧ True ∧ True ∧ True ∧ 0 < 5 ∧ 4 ≤ 9 ∧ 0 < 5) [(58, (q11_ lv lw ll mv mw ml mr)), (59, (q11_ lv lw ll mv mw ml mr)), (60, D.ptr [D.fx (WT.d ll), (q10_ mv mw ml mr), iD (↑(max (WT.ht ll) (WT.ht (WT.node mv mw ml mr)) + 1) : Int), iD (↑(WT.sz ll + 1 + WT.sz (WT.node mv mw ml mr)) : Int), natD (WT.tot ll + lw + WT.tot (WT.node mv mw ml mr))]), (61, D.fx (WT.d ll)), (62, (q11_ lv lw ll mv mw ml mr)), (63, (q11_ lv lw ll mv mw ml mr)), (64, (q11_ lv lw ll mv mw ml mr)), (65, (q9_ lv lw)), (66, (q10_ mv mw ml mr)), (67, (q10_ mv mw ml mr)), (68, D.ptr [D.fx (WT.d ml), D.fx (WT.d mr), iD (↑(max (WT.ht ml) (WT.ht mr) + 1) : Int), iD (↑(WT.sz ml + 1 + WT.sz mr) : Int), natD (WT.tot ml + mw + WT.tot mr)]), (69, D.fx (WT.d ml)), (71, (q10_ mv mw ml mr)), (72, (q10_ mv mw ml mr)), (73, (q10_ mv mw ml mr)), (75, (q10_ mv mw ml mr)), (76, (q10_ mv mw ml mr)), (77, D.ptr [D.fx (WT.d mr), iD (↑(max (WT.ht ml) (WT.ht mr) + 1) : Int), iD (↑(WT.sz ml + 1 + WT.sz mr) : Int), natD (WT.tot ml + mw + WT.tot mr)]), (80, D.fx (WT.d r))] (by kernel_rfl) (by decide) ?_
    refine zX [D.fx (WT.d ll), (q9_ lv lw), D.fx (WT.d ml)] (by exact j1) ?_
    refine zF 3 [] [] (4 ≤ 9 ∧ 0 < 4 ∧ 4 ≤ 4) [(74, (q9_ mv mw)), (78, D.fx (WT.d mr)), (79, (q9_ v w))] (by kernel_rfl) (by omega) ?_
    refine zX [D.fx (WT.d mr), (q9_ v w), D.fx (WT.d r)] (by exact j2) ?_
    refine zX [D.fx (WT.d (WT.node lv lw ll ml)), (q9_ mv mw), D.fx (WT.d (WT.node v w mr r))] (by exact j3) ?_
    refine zG [9, 58, 59, 60, 61, 62, 63, 64, 65, 66, 67, 68, 69, 70, 71, 72, 73, 74, 75, 76, 77, 78, 79, 80, 81, 82] [(6, D.fx (WT.d (WT.node mv mw (WT.node lv lw ll ml) (WT.node v w mr r))))] ?_
    refine zW (zAd (zR ?_))
    refine zZ (True) (D.fx (WT.d (WT.node mv mw (WT.node lv lw ll ml) (WT.node v w mr r)))) (D.fx (WT.d (WT.node mv mw (WT.node lv lw ll ml) (WT.node v w mr r)))) (.inr rfl) (by kernel_rfl) trivial rfl rfl
 ·by_cases c3 : l.ht + 1 < r.ht
  ·obtain ⟨rv, rw', rl, rr, rfl⟩ := WT.ht_pos (t := r) (by omega)
   simp only [WT.sz, WT.tot] at k3 k4
   have e1 : (WT.node rv rw' rl rr).ht = max rl.ht rr.ht + 1 := rfl
   have g1 := rl.ht_le_sz
   have g2 := rr.ht_le_sz
   rw [WT.bal.eq_def, if_neg c1, if_pos c3]
   simp only
   refine Pure.le (args' := [l.x, entD v w, zJs rv rw' rl rr]) ?_ (.cons (LeD.refl _) (.cons (LeD.refl _) (.cons (LeD.fx _) .nil)))
   by_cases c2 : rl.ht ≤ rr.ht
   ·rw [if_pos c2]
    have j1 := zB7 l rl v w ⟨by simp only [WT.sz]; omega, k4.le (by simp only [WT.tot]; omega)⟩
    have j2 := zB7 (.node v w l rl) rr rv rw' ⟨by simp only [WT.sz]; omega, k4.le (by simp only [WT.tot]; omega)⟩
    refine zP zAo mixed Tryz.func118 rfl ?_
    focus
     refine zB (zA rfl ?_)
     refine zN [] [] [1] (True) [(4, D.own 0 0), (6, q7_)] [] [(q8_ v w)] (by kernel_rfl) trivial ?_
     refine zB (zB (zA rfl ?_))
     refine zAi 1 [(11, D.fx (WT.d l))] ?_
     refine zX [D.fx (WT.d l)] (by exact zFk _) ?_
     refine zAi 1 [(13, (q10_ rv rw' rl rr))] ?_
     refine zX [(q10_ rv rw' rl rr)] (by exact zLk rv rw' rl rr) ?_
     refine zG [11, 12, 13, 14] [(7, iD (↑(WT.ht l) : Int)), (8, iD (↑(WT.ht (WT.node rv rw' rl rr)) : Int))] ?_
     refine zE (zB ?_)
     refine zT [0, 1, 2, 3, 4, 5, 6, 7, 10, 11, 12, 8, 9, 13, 14, 15, 16, 17] (by kernel_rfl) rfl ?_
     refine zQ [] [(4, false)] [16, 17, 18, 19, 20, 21, 22, 23, 24, 25, 26, 27, 28, 29, 30, 31, 32] ((-9223372036854775808 ≤ (↑(WT.ht (WT.node rv rw' rl rr)) : Int) + (1 : Int) ∧ (↑(WT.ht (WT.node rv rw' rl rr)) : Int) + (1 : Int) ≤ 9223372036854775807) ∧ decide ((↑(WT.ht l) : Int) > (↑(WT.ht (WT.node rv rw' rl rr)) : Int) + (1 : Int)) = false) [(15, bD false)] (by kernel_rfl) ⟨(by omega), (by exact decide_eq_false (by omega))⟩ ?_
     refine zS ?_
     refine zB (zA rfl ?_)
     refine zQ [] [] [15, 50, 51, 52, 53] (-9223372036854775808 ≤ (↑(WT.ht (WT.node rv rw' rl rr)) : Int) + (1 : Int) ∧ (↑(WT.ht (WT.node rv rw' rl rr)) : Int) + (1 : Int) ≤ 9223372036854775807) [(49, bD (decide ((↑(WT.ht l) : Int) > (↑(WT.ht (WT.node rv rw' rl rr)) : Int) + (1 : Int))))] (by kernel_rfl) (by omega) ?_
     refine zBc (t := decide ((↑(WT.ht l) : Int) > (↑(WT.ht (WT.node rv rw' rl rr)) : Int) + (1 : Int))) (by kernel_rfl) (by exact decide_eq_false (by omega)) ?_
     refine zB ?_
     refine zT [0, 1, 2, 3, 4, 5, 6, 7, 10, 11, 12, 8, 9, 13, 14, 15, 16, 17] (by kernel_rfl) rfl ?_
     refine zF 12 [] [(4, true)] ((-9223372036854775808 ≤ (↑(WT.ht l) : Int) + (1 : Int) ∧ (↑(WT.ht l) : Int) + (1 : Int) ≤ 9223372036854775807) ∧ decide ((↑(WT.ht (WT.node rv rw' rl rr)) : Int) > (↑(WT.ht l) : Int) + (1 : Int)) = true ∧ True ∧ True ∧ 0 < 4) [(84, iD (↑(WT.ht (WT.node rv rw' rl rr)) : Int)), (85, iD (↑(WT.ht l) : Int)), (86, iD ((↑(WT.ht l) : Int) + (1 : Int))), (87, bD (decide ((↑(WT.ht (WT.node rv rw' rl rr)) : Int) > (↑(WT.ht l) : Int) + (1 : Int)))), (88, bD true), (89, (q10_ rv rw' rl rr)), (90, (q10_ rv rw' rl rr)), (91, D.ptr [D.fx (WT.d rr), iD (↑(max (WT.ht rl) (WT.ht rr) + 1) : Int), iD (↑(WT.sz rl + 1 + WT.sz rr) : Int), natD (WT.tot rl + rw' + WT.tot rr)]), (92, D.fx (WT.d rr)), (94, (q10_ rv rw' rl rr)), (95, (q10_ rv rw' rl rr)), (96, D.ptr [D.fx (WT.d rl), D.fx (WT.d rr), iD (↑(max (WT.ht rl) (WT.ht rr) + 1) : Int), iD (↑(WT.sz rl + 1 + WT.sz rr) : Int), natD (WT.tot rl + rw' + WT.tot rr)])] (by kernel_rfl) ⟨(by omega), (by exact decide_eq_true (by omega)), trivial, trivial, (by omega)⟩ ?_
     refine zX [D.fx (WT.d rr)] (by exact zFk _) ?_
     refine zF 1 [] [] (0 < 5) [(97, D.fx (WT.d rl))] (by kernel_rfl) (by omega) ?_
     refine zX [D.fx (WT.d rl)] (by exact zFk _) ?_
     refine zG [49, 84, 85, 86, 87, 88, 89, 90, 91, 92, 93, 94, 95, 96, 97, 98, 99, 100] [(83, bD (decide ((↑(WT.ht rr) : Int) ≥ (↑(WT.ht rl) : Int))))] ?_
     refine zCk (t := decide ((↑(WT.ht rr) : Int) ≥ (↑(WT.ht rl) : Int))) (by kernel_rfl) (by exact decide_eq_true (by omega)) ?_
     refine zB ?_
     refine zT [0, 2, 3, 4, 7, 8, 9, 11, 12, 13, 1, 5, 6, 10, 14, 15, 16] (by kernel_rfl) rfl ?_
     refine zF 12 [] [] (True ∧ True ∧ True ∧ 4 ≤ 4 ∧ 0 < 5) [(101, D.fx (WT.d l)), (102, (q9_ v w)), (103, (q10_ rv rw' rl rr)), (104, (q10_ rv rw' rl rr)), (105, D.ptr [D.fx (WT.d rl), D.fx (WT.d rr), iD (↑(max (WT.ht rl) (WT.ht rr) + 1) : Int), iD (↑(WT.sz rl + 1 + WT.sz rr) : Int), natD (WT.tot rl + rw' + WT.tot rr)]), (106, D.fx (WT.d rl)), (108, (q10_ rv rw' rl rr)), (109, (q10_ rv rw' rl rr)), (110, (q10_ rv rw' rl rr)), (112, (q10_ rv rw' rl rr)), (113, (q10_ rv rw' rl rr)), (114, D.ptr [D.fx (WT.d rr), iD (↑(max (WT.ht rl) (WT.ht rr) + 1) : Int), iD (↑(WT.sz rl + 1 + WT.sz rr) : Int), natD (WT.tot rl + rw' + WT.tot rr)])] (by kernel_rfl) (by decide) ?_
     refine zX [D.fx (WT.d l), (q9_ v w), D.fx (WT.d rl)] (by exact j1) ?_
     refine zF 2 [] [] (4 ≤ 9 ∧ 0 < 4) [(111, (q9_ rv rw')), (115, D.fx (WT.d rr))] (by kernel_rfl) (by omega) ?_
     refine zX [D.fx (WT.d (WT.node v w l rl)), (q9_ rv rw'), D.fx (WT.d rr)] (by exact j2) ?_
     refine zG [7, 8, 83, 101, 102, 103, 104, 105, 106, 107, 108, 109, 110, 111, 112, 113, 114, 115, 116] [(6, D.fx (WT.d (WT.node rv rw' (WT.node v w l rl) rr)))] ?_
     refine zW (zAd (zR ?_))
     refine zZ (True) (D.fx (WT.d (WT.node rv rw' (WT.node v w l rl) rr))) (D.fx (WT.d (WT.node rv rw' (WT.node v w l rl) rr))) (.inr rfl) (by kernel_rfl) trivial rfl rfl
   ·rw [if_neg c2]
    obtain ⟨mv, mw, ml, mr, rfl⟩ := WT.ht_pos (t := rl) (by omega)
    simp only [WT.sz, WT.tot] at k3 k4
    have e2 : (WT.node mv mw ml mr).ht = max ml.ht mr.ht + 1 := rfl
    have j1 := zB7 l ml v w ⟨by simp only [WT.sz]; omega, k4.le (by simp only [WT.tot]; omega)⟩
    have j2 := zB7 mr rr rv rw' ⟨by simp only [WT.sz]; omega, k4.le (by simp only [WT.tot]; omega)⟩
    have j3 := zB7 (.node v w l ml) (.node rv rw' mr rr) mv mw ⟨by simp only [WT.sz]; omega, k4.le (by simp only [WT.tot]; omega)⟩
    simp only [WT.sz] at k2
    refine Pure.le (args' := [l.x, entD v w, .ptr (vaC rv ++ [natD rw', zJs mv mw ml mr, .fx rr.d, iD (max (WT.node mv mw ml mr).ht rr.ht + 1 : Nat), iD ((WT.node mv mw ml mr).sz + 1 + rr.sz : Nat), natD ((WT.node mv mw ml mr).tot + rw' + rr.tot)])]) ?_ (.cons (.refl _) (.cons (.refl _) (.cons (LeD.ptr (.cons (.refl _) (.cons (.refl _) (.cons (.refl _) (.cons (.refl _) (.cons (LeD.fx _) (.refl _))))))) .nil)))
    have o2 : Pure Tryz.prog 116 [.ptr (vaC rv ++ [natD rw', zJs mv mw ml mr, .fx rr.d, iD (max (WT.node mv mw ml mr).ht rr.ht + 1 : Nat), iD ((WT.node mv mw ml mr).sz + 1 + rr.sz : Nat), natD ((WT.node mv mw ml mr).tot + rw' + rr.tot)])] [] (iD ((WT.node rv rw' (.node mv mw ml mr) rr).ht : Nat)) := by
     refine zP zAo mixed Tryz.func116 rfl ?_
     focus
      refine zB (zA rfl ?_)
      refine zG [] [(2, iD 0)] ?_
      refine zB (zB (zA rfl ?_))
      refine zG [3] [(4, bD false)] ?_
      refine zS ?_
      refine zJ (zC (zD (zB (zA rfl ?_))))
      refine zQ [] [] [0, 4, 5, 6, 7, 8] (True ∧ 0 < 3) [(2, iD (↑(max (WT.ht (WT.node mv mw ml mr)) (WT.ht rr) + 1) : Int))] (by kernel_rfl) (by decide) ?_
      refine zW ?_
      refine zZ (True) (iD (↑(max (WT.ht (WT.node mv mw ml mr)) (WT.ht rr) + 1) : Int)) (D.val (Value.int IntKind.i64 (↑(max (WT.ht (WT.node mv mw ml mr)) (WT.ht rr) + 1) : Int))) (.inr rfl) (by kernel_rfl) trivial rfl ?_
      rotate_left
     rfl
    refine zP zAo mixed Tryz.func118 rfl ?_
    focus
     refine zB (zA rfl ?_)
     refine zN [] [] [1] (True) [(4, D.own 0 0), (6, q7_)] [] [(q8_ v w)] (by kernel_rfl) trivial ?_
     refine zB (zB (zA rfl ?_))
     refine zAi 1 [(11, D.fx (WT.d l))] ?_
     refine zX [D.fx (WT.d l)] (by exact zFk _) ?_
     refine zAi 1 [(13, (q12_ rv rw' mv mw ml mr rr))] ?_
     refine zX [(q12_ rv rw' mv mw ml mr rr)] (by exact o2) ?_
     refine zG [11, 12, 13, 14] [(7, iD (↑(WT.ht l) : Int)), (8, iD (↑(WT.ht (WT.node rv rw' (WT.node mv mw ml mr) rr)) : Int))] ?_
     refine zE (zB ?_)
     refine zT [0, 1, 2, 3, 4, 5, 6, 7, 10, 11, 12, 8, 9, 13, 14, 15, 16, 17] (by kernel_rfl) rfl ?_
     refine zQ [] [(4, false)] [16, 17, 18, 19, 20, 21, 22, 23, 24, 25, 26, 27, 28, 29, 30, 31, 32] ((-9223372036854775808 ≤ (↑(WT.ht (WT.node rv rw' (WT.node mv mw ml mr) rr)) : Int) + (1 : Int) ∧ (↑(WT.ht (WT.node rv rw' (WT.node mv mw ml mr) rr)) : Int) + (1 : Int) ≤ 9223372036854775807) ∧ decide ((↑(WT.ht l) : Int) > (↑(WT.ht (WT.node rv rw' (WT.node mv mw ml mr) rr)) : Int) + (1 : Int)) = false) [(15, bD false)] (by kernel_rfl) ⟨(by omega), (by exact decide_eq_false (by omega))⟩ ?_
     refine zS ?_
     refine zB (zA rfl ?_)
     refine zQ [] [] [15, 50, 51, 52, 53] (-9223372036854775808 ≤ (↑(WT.ht (WT.node rv rw' (WT.node mv mw ml mr) rr)) : Int) + (1 : Int) ∧ (↑(WT.ht (WT.node rv rw' (WT.node mv mw ml mr) rr)) : Int) + (1 : Int) ≤ 9223372036854775807) [(49, bD (decide ((↑(WT.ht l) : Int) > (↑(WT.ht (WT.node rv rw' (WT.node mv mw ml mr) rr)) : Int) + (1 : Int))))] (by kernel_rfl) (by omega) ?_
     refine zBc (t := decide ((↑(WT.ht l) : Int) > (↑(WT.ht (WT.node rv rw' (WT.node mv mw ml mr) rr)) : Int) + (1 : Int))) (by kernel_rfl) (by exact decide_eq_false (by omega)) ?_
     refine zB ?_
     refine zT [0, 1, 2, 3, 4, 5, 6, 7, 10, 11, 12, 8, 9, 13, 14, 15, 16, 17] (by kernel_rfl) rfl ?_
     refine zF 12 [] [(4, true)] ((-9223372036854775808 ≤ (↑(WT.ht l) : Int) + (1 : Int) ∧ (↑(WT.ht l) : Int) + (1 : Int) ≤ 9223372036854775807) ∧ decide ((↑(WT.ht (WT.node rv rw' (WT.node mv mw ml mr) rr)) : Int) > (↑(WT.ht l) : Int) + (1 : Int)) = true ∧ True ∧ True ∧ 0 < 4) [(84, iD (↑(WT.ht (WT.node rv rw' (WT.node mv mw ml mr) rr)) : Int)), (85, iD (↑(WT.ht l) : Int)), (86, iD ((↑(WT.ht l) : Int) + (1 : Int))), (87, bD (decide ((↑(WT.ht (WT.node rv rw' (WT.node mv mw ml mr) rr)) : Int) > (↑(WT.ht l) : Int) + (1 : Int)))), (88, bD true), (89, (q12_ rv rw' mv mw ml mr rr)), (90, (q12_ rv rw' mv mw ml mr rr)), (91, D.ptr [D.fx (WT.d rr), iD (↑(max (WT.ht (WT.node mv mw ml mr)) (WT.ht rr) + 1) : Int), iD (↑(WT.sz (WT.node mv mw ml mr) + 1 + WT.sz rr) : Int), natD (WT.tot (WT.node mv mw ml mr) + rw' + WT.tot rr)]), (92, D.fx (WT.d rr)), (94, (q12_ rv rw' mv mw ml mr rr)), (95, (q12_ rv rw' mv mw ml mr rr)), (96, D.ptr [(q10_ mv mw ml mr), D.fx (WT.d rr), iD (↑(max (WT.ht (WT.node mv mw ml mr)) (WT.ht rr) + 1) : Int), iD (↑(WT.sz (WT.node mv mw ml mr) + 1 + WT.sz rr) : Int), natD (WT.tot (WT.node mv mw ml mr) + rw' + WT.tot rr)])] (by kernel_rfl) ⟨(by omega), (by exact decide_eq_true (by omega)), trivial, trivial, (by omega)⟩ ?_
     refine zX [D.fx (WT.d rr)] (by exact zFk _) ?_
     refine zF 1 [] [] (0 < 5) [(97, (q10_ mv mw ml mr))] (by kernel_rfl) (by omega) ?_
     refine zX [(q10_ mv mw ml mr)] (by exact zLk mv mw ml mr) ?_
     refine zG [49, 84, 85, 86, 87, 88, 89, 90, 91, 92, 93, 94, 95, 96, 97, 98, 99, 100] [(83, bD (decide ((↑(WT.ht rr) : Int) ≥ (↑(WT.ht (WT.node mv mw ml mr)) : Int))))] ?_
     refine zBc (t := decide ((↑(WT.ht rr) : Int) ≥ (↑(WT.ht (WT.node mv mw ml mr)) : Int))) (by kernel_rfl) (by exact decide_eq_false (by omega)) ?_
     refine zB (zA rfl ?_)
     refine zQ [] [] [7, 8, 83, 118, 119, 120, 121] (-9223372036854775808 ≤ (↑(WT.ht l) : Int) + (1 : Int) ∧ (↑(WT.ht l) : Int) + (1 : Int) ≤ 9223372036854775807) [(117, bD (decide ((↑(WT.ht (WT.node rv rw' (WT.node mv mw ml mr) rr)) : Int) > (↑(WT.ht l) : Int) + (1 : Int))))] (by kernel_rfl) (by omega) ?_
     refine zCk (t := decide ((↑(WT.ht (WT.node rv rw' (WT.node mv mw ml mr) rr)) : Int) > (↑(WT.ht l) : Int) + (1 : Int))) (by kernel_rfl) (by exact decide_eq_true (by omega)) ?_
     refine zB (zA rfl ?_)
     refine zQ [] [] [117, 122, 123, 124, 125] (True ∧ 0 < 5) [(10, (q10_ mv mw ml mr))] (by kernel_rfl) (by decide) ?_
     refine zB ?_
     refine zT [0, 2, 3, 4, 7, 8, 9, 11, 12, 13, 15, 16, 17, 19, 20, 21, 1, 5, 6, 10, 14, 18, 22, 23, 24, 25] (by kernel_rfl) rfl ?_
     refine zF 18 [] [] (True ∧ True ∧ True ∧ True ∧ True ∧ 4 ≤ 4 ∧ 0 < 5) [(126, D.fx (WT.d l)), (127, (q9_ v w)), (128, (q10_ mv mw ml mr)), (129, (q10_ mv mw ml mr)), (130, D.ptr [D.fx (WT.d ml), D.fx (WT.d mr), iD (↑(max (WT.ht ml) (WT.ht mr) + 1) : Int), iD (↑(WT.sz ml + 1 + WT.sz mr) : Int), natD (WT.tot ml + mw + WT.tot mr)]), (131, D.fx (WT.d ml)), (133, (q10_ mv mw ml mr)), (134, (q10_ mv mw ml mr)), (135, (q10_ mv mw ml mr)), (137, (q10_ mv mw ml mr)), (138, (q10_ mv mw ml mr)), (139, D.ptr [D.fx (WT.d mr), iD (↑(max (WT.ht ml) (WT.ht mr) + 1) : Int), iD (↑(WT.sz ml + 1 + WT.sz mr) : Int), natD (WT.tot ml + mw + WT.tot mr)]), (141, (q12_ rv rw' mv mw ml mr rr)), (142, (q12_ rv rw' mv mw ml mr rr)), (143, (q12_ rv rw' mv mw ml mr rr)), (145, (q12_ rv rw' mv mw ml mr rr)), (146, (q12_ rv rw' mv mw ml mr rr)), (147, D.ptr [D.fx (WT.d rr), iD (↑(max (WT.ht (WT.node mv mw ml mr)) (WT.ht rr) + 1) : Int), iD (↑(WT.sz (WT.node mv mw ml mr) + 1 + WT.sz rr) : Int), natD (WT.tot (WT.node mv mw ml mr) + rw' + WT.tot rr)])] (by kernel_rfl) (by decide) ?_
     refine zX [D.fx (WT.d l), (q9_ v w), D.fx (WT.d ml)] (by exact j1) ?_
     refine zF 4 [] [] (4 ≤ 9 ∧ 0 < 4 ∧ 4 ≤ 9 ∧ 0 < 4) [(136, (q9_ mv mw)), (140, D.fx (WT.d mr)), (144, (q9_ rv rw')), (148, D.fx (WT.d rr))] (by kernel_rfl) (by omega) ?_
     refine zX [D.fx (WT.d mr), (q9_ rv rw'), D.fx (WT.d rr)] (by exact j2) ?_
     refine zX [D.fx (WT.d (WT.node v w l ml)), (q9_ mv mw), D.fx (WT.d (WT.node rv rw' mr rr))] (by exact j3) ?_
     refine zG [10, 126, 127, 128, 129, 130, 131, 132, 133, 134, 135, 136, 137, 138, 139, 140, 141, 142, 143, 144, 145, 146, 147, 148, 149, 150] [(6, D.fx (WT.d (WT.node mv mw (WT.node v w l ml) (WT.node rv rw' mr rr))))] ?_
     refine zW (zAd (zR ?_))
     refine zZ (True) (D.fx (WT.d (WT.node mv mw (WT.node v w l ml) (WT.node rv rw' mr rr)))) (D.fx (WT.d (WT.node mv mw (WT.node v w l ml) (WT.node rv rw' mr rr)))) (.inr rfl) (by kernel_rfl) trivial rfl rfl
  ·rw [WT.bal.eq_def, if_neg c1, if_neg c3]
   have j1 := zB7 l r v w h
   refine zP zAo mixed Tryz.func118 rfl ?_
   focus
    refine zB (zA rfl ?_)
    refine zN [] [] [1] (True) [(4, D.own 0 0), (6, q7_)] [] [(q8_ v w)] (by kernel_rfl) trivial ?_
    refine zB (zB (zA rfl ?_))
    refine zAi 1 [(11, D.fx (WT.d l))] ?_
    refine zX [D.fx (WT.d l)] (by exact zFk _) ?_
    refine zAi 1 [(13, D.fx (WT.d r))] ?_
    refine zX [D.fx (WT.d r)] (by exact zFk _) ?_
    refine zG [11, 12, 13, 14] [(7, iD (↑(WT.ht l) : Int)), (8, iD (↑(WT.ht r) : Int))] ?_
    refine zE (zB ?_)
    refine zT [0, 1, 2, 3, 4, 5, 6, 7, 10, 11, 12, 8, 9, 13, 14, 15, 16, 17] (by kernel_rfl) rfl ?_
    refine zQ [] [(4, false)] [16, 17, 18, 19, 20, 21, 22, 23, 24, 25, 26, 27, 28, 29, 30, 31, 32] ((-9223372036854775808 ≤ (↑(WT.ht r) : Int) + (1 : Int) ∧ (↑(WT.ht r) : Int) + (1 : Int) ≤ 9223372036854775807) ∧ decide ((↑(WT.ht l) : Int) > (↑(WT.ht r) : Int) + (1 : Int)) = false) [(15, bD false)] (by kernel_rfl) ⟨(by omega), (by exact decide_eq_false (by omega))⟩ ?_
    refine zS ?_
    refine zB (zA rfl ?_)
    refine zQ [] [] [15, 50, 51, 52, 53] (-9223372036854775808 ≤ (↑(WT.ht r) : Int) + (1 : Int) ∧ (↑(WT.ht r) : Int) + (1 : Int) ≤ 9223372036854775807) [(49, bD (decide ((↑(WT.ht l) : Int) > (↑(WT.ht r) : Int) + (1 : Int))))] (by kernel_rfl) (by omega) ?_
    refine zBc (t := decide ((↑(WT.ht l) : Int) > (↑(WT.ht r) : Int) + (1 : Int))) (by kernel_rfl) (by exact decide_eq_false (by omega)) ?_
    refine zB ?_
    refine zT [0, 1, 2, 3, 4, 5, 6, 7, 10, 11, 12, 8, 9, 13, 14, 15, 16, 17] (by kernel_rfl) rfl ?_
    refine zQ [] [(4, false)] [49, 84, 85, 86, 87, 88, 89, 90, 91, 92, 93, 94, 95, 96, 97, 98, 99, 100] ((-9223372036854775808 ≤ (↑(WT.ht l) : Int) + (1 : Int) ∧ (↑(WT.ht l) : Int) + (1 : Int) ≤ 9223372036854775807) ∧ decide ((↑(WT.ht r) : Int) > (↑(WT.ht l) : Int) + (1 : Int)) = false) [(83, bD false)] (by kernel_rfl) ⟨(by omega), (by exact decide_eq_false (by omega))⟩ ?_
    refine zS ?_
    refine zB (zA rfl ?_)
    refine zQ [] [] [7, 8, 83, 118, 119, 120, 121] (-9223372036854775808 ≤ (↑(WT.ht l) : Int) + (1 : Int) ∧ (↑(WT.ht l) : Int) + (1 : Int) ≤ 9223372036854775807) [(117, bD (decide ((↑(WT.ht r) : Int) > (↑(WT.ht l) : Int) + (1 : Int))))] (by kernel_rfl) (by omega) ?_
    refine zBc (t := decide ((↑(WT.ht r) : Int) > (↑(WT.ht l) : Int) + (1 : Int))) (by kernel_rfl) (by exact decide_eq_false (by omega)) ?_
    refine zJ (zL (zC (zD (zB (zA rfl ?_)))))
    refine zF 3 [] [] (4 ≤ 4) [(151, D.fx (WT.d l)), (152, (q9_ v w)), (153, D.fx (WT.d r))] (by kernel_rfl) (by omega) ?_
    refine zX [D.fx (WT.d l), (q9_ v w), D.fx (WT.d r)] (by exact j1) ?_
    refine zG [0, 2, 4, 117, 151, 152, 153, 154] [(6, D.fx (WT.d (WT.node v w l r)))] ?_
    refine zW ?_
    refine zZ (True) (D.fx (WT.d (WT.node v w l r))) (D.fx (WT.d (WT.node v w l r))) (.inr rfl) (by kernel_rfl) trivial rfl rfl
abbrev q13_ (x0 : Bool) (x1 : WT) := Bk.mk [bD x0, D.fx (WT.d x1)] 57 0 false false Kd.plain
abbrev q14_ (x0 : Bool) (x1 : WT) := D.agg [bD x0, D.fx (WT.d x1)]
abbrev q15_ (x0 : Va) := D.agg [iD (Va.kind x0), iD (Va.int x0), (q2_ x0)]
theorem zRd (desc : Bool) (root : WT) (v : Va) (w : Nat) : ∀ (t : WT), t.sz + 1 ≤ 1000000000 → Sm (t.tot + w) → Pure Tryz.prog 84 [.agg [bD desc, root.x], t.x, entD v w] [] (t.put desc v w).x
 | .nil, h1, h2 => by
  have j1 := (zB7 .nil .nil v w ⟨by simp [WT.sz], h2.le (by simp [WT.tot])⟩).le (wnil_x v w)
  refine Pure.le (args' := [.agg [bD desc, root.x], .val (.pointer none), entD v w]) ?_ (.cons (LeD.refl _) (.cons (LeD.fx _) (.refl _)))
  rw [WT.put]
  refine zP zAo mixed Tryz.func84 rfl ?_
  focus
   refine zB (zA rfl ?_)
   refine zN [] [] [0, 2] (True) [(3, D.own 0 0), (5, D.own 1 0), (6, q7_)] [] [(q13_ desc root), (q8_ v w)] (by kernel_rfl) trivial ?_
   refine zB (zB (zA rfl ?_))
   refine zG [8] [(9, bD true)] ?_
   refine zAa ?_
   refine zB (zA rfl ?_)
   refine zF 1 [] [] (4 ≤ 4) [(10, (q9_ v w))] (by kernel_rfl) (by omega) ?_
   refine zX [q7_, (q9_ v w), q7_] (by exact j1) ?_
   refine zG [9, 10, 11] [(6, D.fx (WT.d (WT.node v w WT.nil WT.nil)))] ?_
   refine zW (zR ?_)
   refine zZ (True) (D.fx (WT.d (WT.node v w WT.nil WT.nil))) (D.fx (WT.d (WT.node v w WT.nil WT.nil))) (.inr rfl) (by kernel_rfl) trivial rfl rfl
  all_goals skip
 | .node u x l r, h1, h2 => by
  simp only [WT.sz, WT.tot] at h1 h2
  have i1 := zRd desc root v w l (by omega) (h2.le (by omega))
  have i2 := zRd desc root v w r (by omega) (h2.le (by omega))
  have c := zP2 desc root v u
  have p1 := WT.put_le desc v w l
  have p2 := WT.put_le desc v w r
  have b1 := zV7 (l.put desc v w) r u x ⟨by simp only [WT.sz]; omega, h2.le (by simp only [WT.tot]; omega)⟩
  have b2 := zV7 l (r.put desc v w) u x ⟨by simp only [WT.sz]; omega, h2.le (by simp only [WT.tot]; omega)⟩
  have b3 := zB7 l r v w ⟨by simp only [WT.sz]; omega, h2.le (by simp only [WT.tot]; omega)⟩
  refine Pure.le (args' := [.agg [bD desc, root.x], zJs u x l r, entD v w]) ?_ (.cons (LeD.refl _) (.cons (LeD.fx _) (.refl _)))
  rw [WT.put]
  by_cases c1 : WT.cmp desc v u < 0
  ·rw [if_pos c1]
   refine zP zAo mixed Tryz.func84 rfl ?_
   focus
    refine zB (zA rfl ?_)
    refine zN [] [] [0, 2] (True) [(3, D.own 0 0), (5, D.own 1 0), (6, q7_)] [] [(q13_ desc root), (q8_ v w)] (by kernel_rfl) trivial ?_
    refine zB (zB (zA rfl ?_))
    refine zG [8] [(9, bD false)] ?_
    refine zS ?_
    refine zJ (zC (zD (zB (zB ?_))))
    refine zT [1, 3, 4, 5, 6, 0, 2, 7, 8, 9] (by kernel_rfl) rfl ?_
    refine zF 8 [] [] (True ∧ True ∧ True ∧ 2 ≤ 2 ∧ 3 ≤ 4 ∧ 3 ≤ 9) [(12, (q14_ desc root)), (13, D.own 1 0), (14, (q15_ v)), (15, (q10_ u x l r)), (16, (q10_ u x l r)), (17, (q10_ u x l r)), (18, (q10_ u x l r)), (19, (q15_ u))] (by kernel_rfl) (by decide) ?_
    refine zX [(q14_ desc root), (q15_ v), (q15_ u)] (by exact c) ?_
    refine zG [9, 12, 13, 14, 15, 16, 17, 18, 19, 20] [(7, iD (WT.cmp desc v u))] ?_
    refine zE (zB (zA rfl ?_))
    refine zG [22, 23] [(21, bD (decide (WT.cmp desc v u < 0)))] ?_
    refine zCk (t := decide (WT.cmp desc v u < 0)) (by kernel_rfl) (by exact decide_eq_true (by omega)) ?_
    refine zB ?_
    refine zT [1, 2, 3, 7, 8, 9, 11, 12, 13, 0, 4, 5, 6, 10, 14, 15, 16] (by kernel_rfl) rfl ?_
    refine zF 12 [] [] (True ∧ True ∧ True ∧ 2 ≤ 2 ∧ 0 < 5 ∧ 4 ≤ 4) [(24, (q14_ desc root)), (25, (q10_ u x l r)), (26, (q10_ u x l r)), (27, D.ptr [D.fx (WT.d l), D.fx (WT.d r), iD (↑(max (WT.ht l) (WT.ht r) + 1) : Int), iD (↑(WT.sz l + 1 + WT.sz r) : Int), natD (WT.tot l + x + WT.tot r)]), (28, D.fx (WT.d l)), (29, (q9_ v w)), (31, (q10_ u x l r)), (32, (q10_ u x l r)), (33, (q10_ u x l r)), (35, (q10_ u x l r)), (36, (q10_ u x l r)), (37, D.ptr [D.fx (WT.d r), iD (↑(max (WT.ht l) (WT.ht r) + 1) : Int), iD (↑(WT.sz l + 1 + WT.sz r) : Int), natD (WT.tot l + x + WT.tot r)])] (by kernel_rfl) (by decide) ?_
    refine zX [(q14_ desc root), D.fx (WT.d l), (q9_ v w)] (by exact i1) ?_
    refine zF 2 [] [] (4 ≤ 9 ∧ 0 < 4) [(34, (q9_ u x)), (38, D.fx (WT.d r))] (by kernel_rfl) (by omega) ?_
    refine zX [D.fx (WT.d (WT.put desc v w l)), (q9_ u x), D.fx (WT.d r)] (by exact b1) ?_
    refine zG [3, 7, 21, 24, 25, 26, 27, 28, 29, 30, 31, 32, 33, 34, 35, 36, 37, 38, 39] [(6, D.fx (WT.d (WT.bal (WT.put desc v w l) u x r)))] ?_
    refine zW (zAd (zR ?_))
    refine zZ (True) (D.fx (WT.d (WT.bal (WT.put desc v w l) u x r))) (D.fx (WT.d (WT.bal (WT.put desc v w l) u x r))) (.inr rfl) (by kernel_rfl) trivial rfl rfl
  ·rw [if_neg c1]
   by_cases c2 : WT.cmp desc v u > 0
   ·rw [if_pos c2]
    refine zP zAo mixed Tryz.func84 rfl ?_
    focus
     refine zB (zA rfl ?_)
     refine zN [] [] [0, 2] (True) [(3, D.own 0 0), (5, D.own 1 0), (6, q7_)] [] [(q13_ desc root), (q8_ v w)] (by kernel_rfl) trivial ?_
     refine zB (zB (zA rfl ?_))
     refine zG [8] [(9, bD false)] ?_
     refine zS ?_
     refine zJ (zC (zD (zB (zB ?_))))
     refine zT [1, 3, 4, 5, 6, 0, 2, 7, 8, 9] (by kernel_rfl) rfl ?_
     refine zF 8 [] [] (True ∧ True ∧ True ∧ 2 ≤ 2 ∧ 3 ≤ 4 ∧ 3 ≤ 9) [(12, (q14_ desc root)), (13, D.own 1 0), (14, (q15_ v)), (15, (q10_ u x l r)), (16, (q10_ u x l r)), (17, (q10_ u x l r)), (18, (q10_ u x l r)), (19, (q15_ u))] (by kernel_rfl) (by decide) ?_
     refine zX [(q14_ desc root), (q15_ v), (q15_ u)] (by exact c) ?_
     refine zG [9, 12, 13, 14, 15, 16, 17, 18, 19, 20] [(7, iD (WT.cmp desc v u))] ?_
     refine zE (zB (zA rfl ?_))
     refine zG [22, 23] [(21, bD (decide (WT.cmp desc v u < 0)))] ?_
     refine zBc (t := decide (WT.cmp desc v u < 0)) (by kernel_rfl) (by exact decide_eq_false (by omega)) ?_
     refine zB (zA rfl ?_)
     refine zG [7, 21, 41, 42] [(40, bD (decide (WT.cmp desc v u > (0 : Int))))] ?_
     refine zCk (t := decide (WT.cmp desc v u > (0 : Int))) (by kernel_rfl) (by exact decide_eq_true (by omega)) ?_
     refine zB ?_
     refine zT [0, 1, 2, 4, 5, 6, 9, 10, 11, 3, 7, 8, 12, 13, 14, 15, 16] (by kernel_rfl) rfl ?_
     refine zF 14 [] [] (True ∧ True ∧ True ∧ 0 < 5 ∧ 4 ≤ 9 ∧ 2 ≤ 2 ∧ 0 < 4 ∧ 4 ≤ 4) [(43, (q10_ u x l r)), (44, (q10_ u x l r)), (45, D.ptr [D.fx (WT.d l), D.fx (WT.d r), iD (↑(max (WT.ht l) (WT.ht r) + 1) : Int), iD (↑(WT.sz l + 1 + WT.sz r) : Int), natD (WT.tot l + x + WT.tot r)]), (46, D.fx (WT.d l)), (47, (q10_ u x l r)), (48, (q10_ u x l r)), (49, (q10_ u x l r)), (50, (q9_ u x)), (51, (q14_ desc root)), (52, (q10_ u x l r)), (53, (q10_ u x l r)), (54, D.ptr [D.fx (WT.d r), iD (↑(max (WT.ht l) (WT.ht r) + 1) : Int), iD (↑(WT.sz l + 1 + WT.sz r) : Int), natD (WT.tot l + x + WT.tot r)]), (55, D.fx (WT.d r)), (56, (q9_ v w))] (by kernel_rfl) (by decide) ?_
     refine zX [(q14_ desc root), D.fx (WT.d r), (q9_ v w)] (by exact i2) ?_
     refine zX [D.fx (WT.d l), (q9_ u x), D.fx (WT.d (WT.put desc v w r))] (by exact b2) ?_
     refine zG [3, 40, 43, 44, 45, 46, 47, 48, 49, 50, 51, 52, 53, 54, 55, 56, 57, 58] [(6, D.fx (WT.d (WT.bal l u x (WT.put desc v w r))))] ?_
     refine zW (zAd (zR ?_))
     refine zZ (True) (D.fx (WT.d (WT.bal l u x (WT.put desc v w r)))) (D.fx (WT.d (WT.bal l u x (WT.put desc v w r)))) (.inr rfl) (by kernel_rfl) trivial rfl rfl
   ·rw [if_neg c2]
    refine zP zAo mixed Tryz.func84 rfl ?_
    focus
     refine zB (zA rfl ?_)
     refine zN [] [] [0, 2] (True) [(3, D.own 0 0), (5, D.own 1 0), (6, q7_)] [] [(q13_ desc root), (q8_ v w)] (by kernel_rfl) trivial ?_
     refine zB (zB (zA rfl ?_))
     refine zG [8] [(9, bD false)] ?_
     refine zS ?_
     refine zJ (zC (zD (zB (zB ?_))))
     refine zT [1, 3, 4, 5, 6, 0, 2, 7, 8, 9] (by kernel_rfl) rfl ?_
     refine zF 8 [] [] (True ∧ True ∧ True ∧ 2 ≤ 2 ∧ 3 ≤ 4 ∧ 3 ≤ 9) [(12, (q14_ desc root)), (13, D.own 1 0), (14, (q15_ v)), (15, (q10_ u x l r)), (16, (q10_ u x l r)), (17, (q10_ u x l r)), (18, (q10_ u x l r)), (19, (q15_ u))] (by kernel_rfl) (by decide) ?_
     refine zX [(q14_ desc root), (q15_ v), (q15_ u)] (by exact c) ?_
     refine zG [9, 12, 13, 14, 15, 16, 17, 18, 19, 20] [(7, iD (WT.cmp desc v u))] ?_
     refine zE (zB (zA rfl ?_))
     refine zG [22, 23] [(21, bD (decide (WT.cmp desc v u < 0)))] ?_
     refine zBc (t := decide (WT.cmp desc v u < 0)) (by kernel_rfl) (by exact decide_eq_false (by omega)) ?_
     refine zB (zA rfl ?_)
     refine zG [7, 21, 41, 42] [(40, bD (decide (WT.cmp desc v u > (0 : Int))))] ?_
     refine zBc (t := decide (WT.cmp desc v u > (0 : Int))) (by kernel_rfl) (by exact decide_eq_false (by omega)) ?_
     refine zJ (zL (zC (zD (zB ?_))))
     refine zT [0, 1, 2, 5, 6, 7, 3, 4, 8, 9, 10] (by kernel_rfl) rfl ?_
     refine zF 9 [] [] (True ∧ True ∧ 0 < 5 ∧ 4 ≤ 4 ∧ 0 < 4) [(59, (q10_ u x l r)), (60, (q10_ u x l r)), (61, D.ptr [D.fx (WT.d l), D.fx (WT.d r), iD (↑(max (WT.ht l) (WT.ht r) + 1) : Int), iD (↑(WT.sz l + 1 + WT.sz r) : Int), natD (WT.tot l + x + WT.tot r)]), (62, D.fx (WT.d l)), (63, (q9_ v w)), (64, (q10_ u x l r)), (65, (q10_ u x l r)), (66, D.ptr [D.fx (WT.d r), iD (↑(max (WT.ht l) (WT.ht r) + 1) : Int), iD (↑(WT.sz l + 1 + WT.sz r) : Int), natD (WT.tot l + x + WT.tot r)]), (67, D.fx (WT.d r))] (by kernel_rfl) (by decide) ?_
     refine zX [D.fx (WT.d l), (q9_ v w), D.fx (WT.d r)] (by exact b3) ?_
     refine zG [1, 3, 5, 40, 59, 60, 61, 62, 63, 64, 65, 66, 67, 68] [(6, D.fx (WT.d (WT.node v w l r)))] ?_
     refine zW ?_
     refine zZ (True) (D.fx (WT.d (WT.node v w l r))) (D.fx (WT.d (WT.node v w l r))) (.inr rfl) (by kernel_rfl) trivial rfl rfl
end
end Go.Proofs.YtjcofbkhoeockaaGreatDoor

/- Texts of this claim, joined: Did Dwa FlP Dix -/
import Derived.Test.YtjcofbkhoeockaaGreatDoorM05
import Derived.Lib.ItoaLen
set_option linter.unusedVariables false
set_option linter.unusedSimpArgs false
namespace Go.Proofs.YtjcofbkhoeockaaGreatDoor
section
open Go.RowKit
attribute [local irreducible] seqW awp zA3 zCo zBd Weak updS zB0 retL Pure Acts
set_option maxRecDepth 4096
def idV (v : Va) : List UInt8 := Lib.itoa v.kind ++ [44] ++ Lib.itoa v.int ++ [44] ++ Lib.itoa (v.str.length : Nat) ++ [44] ++ v.str
def idR (r : List Va) : List UInt8 := r.flatMap idV
def Vs (v : Va) : Prop := (-9223372036854775808 ≤ v.kind ∧ v.kind ≤ 9223372036854775807) ∧ (-9223372036854775808 ≤ v.int ∧ v.int ≤ 9223372036854775807) ∧ v.str.length ≤ 10000
theorem idV_len (v : Va) (h : Vs v) : (idV v).length ≤ 10100 := by
 have h1 := Lib.itoa_length_le v.kind h.1.1 h.1.2
 have h2 := Lib.itoa_length_le v.int h.2.1.1 h.2.1.2
 have h3 := Lib.itoa_length_le (v.str.length : Nat) (by omega) (by have := h.2.2; omega)
 have h4 := h.2.2
 simp only [idV, List.length_append, List.length_cons, List.length_nil]; omega
theorem zPv (r : List Va) (i : Nat) (h : i < r.length) : idR (r.take (i + 1)) = idR (r.take i) ++ idV (r.getD i default) := by
 rw [List.take_succ_eq_append_getElem h, idR, List.flatMap_append, List.getD_eq_getElem?_getD, List.getElem?_eq_getElem h]
 simp [idR]
theorem idR_len (r : List Va) (h : ∀ v ∈ r, Vs v) (i : Nat) (hi : i ≤ r.length) : (idR (r.take i)).length ≤ 10100 * i := by
 induction i with
 | zero => simp [idR]
 | succ i ih =>
  rw [zPv r i (by omega), List.length_append]
  have := ih (by omega)
  have := idV_len (r.getD i default) (by rw [List.getD_eq_getElem?_getD, List.getElem?_eq_getElem (by omega)]; exact h _ (List.getElem_mem _))
  omega
def isConv : Op → Bool
 | .convert s d _ => s == 180 && d == 9
 | _ => false
def Ti : Par := ⟨fun f => f == 102, fun _ _ => none, fun _ => false, isConv, fun _ => false⟩
theorem Ti_ok : zBi Tryz.prog Ti := by intro t n f h; cases h
theorem zMq (l : List UInt8) : zCx (zAe l) = some l := by
 induction l with
 | nil => rfl
 | cons b l ih =>
  show (zCx (zAe l)).map (UInt8.ofNat ((b.toNat : Int)).toNat :: ·) = _
  rw [ih]; simp
theorem zLb (l : List UInt8) : zGs (zAe l) = l := by
 induction l with
 | nil => rfl
 | cons b l ih =>
  show byteG (.val (.int .u8 b.toNat)) :: zGs (zAe l) = _
  rw [ih]; simp [byteG]
theorem zE9 (l : List UInt8) (n : Nat) (h : l.length = n) : (zAe l).take n = zAe l := List.take_of_length_le (by rw [zAy]; omega)
def zJ6 (k : Nat) (st : List Bk) : Bool := st.zipIdx.all fun p => p.2 == k || p.1.nob || !zDd k p.1.cells
theorem zD1 {k : Nat} {st : List Bk} (h : zJ6 k st = true) : ∀ j e0, j ≠ k → st[j]? = some e0 → e0.nob = true ∨ zDd k e0.cells = false := fun j e0 hj he => by
 unfold zJ6 at h
 rw [List.all_eq_true] at h
 have := h (e0, j) (List.mem_zipIdx_iff_getElem?.2 he)
 simp only [Bool.or_eq_true, beq_iff_eq, Bool.not_eq_true'] at this
 rcases this with (h1 | h1) | h1
 ·exact absurd h1 hj
 ·exact .inl h1
 ·exact .inr h1
abbrev q16_ := D.val (Value.string (ByteArray.mk #[]))
abbrev q17_ := Bk.mk [D.val (Value.int IntKind.u8 44)] 5 1 true false Kd.plain
set_option maxHeartbeats 4000000 in
theorem zEx (r : List Va) (n : Nat) (hn : r.length = n) (hl : n ≤ 10000) (hv : ∀ v ∈ r, Vs v) : Pure Tryz.prog 59 [.row (zM r) n] [] (strD (idR r)) := by
 subst hn
 refine zP Ti_ok mixed Tryz.func59 rfl ?_
 focus
  refine zB (zA rfl ?_)
  refine zG [] [(2, q16_)] ?_
  refine zB (zA rfl ?_)
  refine zG [] [(3, nl)] ?_
  refine zB (zB (zA rfl ?_))
  refine zG [0] [(6, (q3_ r)), (7, iD (↑(List.length r) : Int)), (8, iD 0)] ?_
  refine zE ?_
  rotate_left
 refine zC0 (fun (i : Nat) => [U, U, q16_, D.osl 0 0 (List.length (idR (List.take i r))) (List.length (idR (List.take i r))) true, U, U, (q3_ r), iD (↑(List.length r) : Int), iD ↑i, U, U, U, U, U, U, U, U, U, U, U, U, U, U, U, U, U, U, U, U, U, U, U, U, U, U, U, U, U]) (fun i => [byB (idR (r.take i))]) (fun i => r.length - i) (fun i => i ≤ r.length) 0 ?_ ?_ ?_
 ·omega
 ·rw [show idR (r.take 0) = [] from rfl]
  refine zAp [(2, 1), (3, 2), (6, 1), (7, 1), (8, 1)] (D.val (Value.string (ByteArray.mk #[])) = D.val (Value.string (ByteArray.mk #[])) ∧ D.row (zM r) (List.length r) = D.row (zM r) (List.length r) ∧ iD (↑(List.length r) : Int) = iD (↑(List.length r) : Int) ∧ iD 0 = iD (↑(0 : Nat) : Int)) 0 [byB []] (by kernel_rfl) ⟨rfl, rfl, rfl, (by kernel_rfl)⟩ (by kernel_rfl) (fun _ _ => rfl) (by kernel_rfl)
 rintro i h1
 have hb := idR_len r hv i (by omega)
 generalize ex : idR (r.take i) = x at *
 rcases Nat.lt_or_ge i r.length with hi | hi
 ·have hvi : Vs (r.getD i default) := by rw [List.getD_eq_getElem?_getD, List.getElem?_eq_getElem hi]; exact hv _ (List.getElem_mem _)
  have e2 := zPv r i hi
  rw [ex] at e2
  obtain ⟨v, ev⟩ : ∃ v, v = r.getD i default := ⟨_, rfl⟩
  rw [← ev] at e2 hvi
  have l1 := Lib.itoa_length_le v.kind hvi.1.1 hvi.1.2
  have l2 := Lib.itoa_length_le v.int hvi.2.1.1 hvi.2.1.2
  have l3 := hvi.2.2
  have l4 := Lib.itoa_length_le (v.str.length : Nat) (by omega) (by omega)
  have e3 : x ++ idV v = x ++ Lib.itoa v.kind ++ [44] ++ Lib.itoa v.int ++ [44] ++ Lib.itoa (v.str.length : Nat) ++ [44] ++ v.str := by simp [idV]
  focus
   refine zB (zA rfl ?_)
   refine zG [] [(9, bD (decide ((↑i : Int) < (↑(List.length r) : Int))))] ?_
   refine zB ?_
   refine zCk (t := decide ((↑i : Int) < (↑(List.length r) : Int))) (by kernel_rfl) (by exact decide_eq_true (by omega)) ?_
   refine zJ (zC (zD (zB (zE (zB (zA rfl ?_))))))
   refine zF 2 [] [] (((0 : Int) ≤ (↑i : Int) ∧ (↑i : Int) < (↑(List.length r) : Int) ∧ zM r ≠ []) ∧ 3 ≤ List.length (List.drop (i * 3) (zM r))) [(10, D.ptr (List.drop (i * 3) (zM r))), (11, D.agg (List.take 3 (List.drop (i * 3) (zM r))))] (by kernel_rfl) ⟨⟨(by omega), ⟨(by omega), (by exact zT7 _ (by omega))⟩⟩, (by exact zPa _ _ (by omega))⟩ ?_
   refine zY 11 (D.agg (List.take 3 (List.drop (i * 3) (zM r)))) (D.agg (vaC v)) (by kernel_rfl) (by simp (disch := omega) only [zKm, ← ev]) (by kernel_rfl) ?_
   refine zN [] [] [9, 10, 11] (false = false ∧ true = true ∧ 3 = 3 ∧ 3 ≤ 3) [(5, D.own 1 0)] [] [(q1_ v)] (by kernel_rfl) (by decide) ?_
   refine zB (zA rfl ?_)
   refine zF 3 [] [] (True ∧ 0 < 3) [(12, D.osl 0 0 (List.length x) (List.length x) true), (13, D.own 1 0), (14, iD (Va.kind v))] (by kernel_rfl) (by decide) ?_
   refine zF4 [] [] [D.osl 0 0 (List.length x) (List.length x) true, iD (Va.kind v), iD 10] [D.osl 0 0 (List.length x) (List.length x) true, iD (Va.kind v), iD 10] (by kernel_rfl) trivial (LeL.refl _) (by exact zJh 0 _ v.kind _ (by simp) (by omega) hvi.1.1 hvi.1.2 rfl (zD1 rfl)) (by kernel_rfl) ?_
   refine zAg 1 [] [] ((1 = 1 ∧ 1 ≤ 1 ∧ True) ∧ 0 < 1 ∧ 1 = 1 ∧ 1 ≤ 16777216 ∧ 1 ≤ 9223372036854775807) [(16, D.osl 2 0 1 1 true)] [] [q17_] (by kernel_rfl) (by decide) ?_
   refine zBn 2 (Bk.mk [D.val (Value.int IntKind.u8 44)] 5 1 true false Kd.plain) (Bk.mk (zAe [(44 : UInt8)]) 5 1 true false Kd.plain) (by kernel_rfl) (by simp (disch := omega) only [show ([D.val (Value.int IntKind.u8 44)] : List D) = zAe [44] from rfl]) ?_
   refine zAg 1 [] [] (Bk.arr (Bk.mk (zAe (x ++ Lib.itoa (Va.kind v))) 5 1 true false Kd.plain) = true ∧ List.length (zAe (x ++ Lib.itoa (Va.kind v))) = (List.length x + List.length (Lib.itoa (Va.kind v))) * 1 ∧ List.length x + List.length (Lib.itoa (Va.kind v)) = (List.length x + List.length (Lib.itoa (Va.kind v))) * 1 ∧ Bk.ty (Bk.mk (zAe (x ++ Lib.itoa (Va.kind v))) 5 1 true false Kd.plain) = 5 ∧ Bk.sz (Bk.mk (zAe (x ++ Lib.itoa (Va.kind v))) 5 1 true false Kd.plain) = 1 ∧ 1 = 1 ∧ 0 < 1 ∧ 0 < 1 ∧ 5 = 5 ∧ (List.length x + List.length (Lib.itoa (Va.kind v)) + 1) * 1 ≤ 140737488355328 ∧ 1 = 1 ∧ Kd.isMap (Bk.kd (Bk.mk (zAe (x ++ Lib.itoa (Va.kind v))) 5 1 true false Kd.plain)) = false ∧ (false = false ∨ Kd.isSh (Bk.kd (Bk.mk (zAe (x ++ Lib.itoa (Va.kind v))) 5 1 true false Kd.plain)) = true)) [(15, U), (17, D.osl 0 0 (List.length x + List.length (Lib.itoa (Va.kind v)) + 1) ((List.length x + List.length (Lib.itoa (Va.kind v)) + 1) * 1) true)] [(0, Bk.mk (zAe (x ++ Lib.itoa (Va.kind v)) ++ [D.val (Value.int IntKind.u8 44)]) (Bk.ty (Bk.mk (zAe (x ++ Lib.itoa (Va.kind v))) 5 1 true false Kd.plain)) (Bk.sz (Bk.mk (zAe (x ++ Lib.itoa (Va.kind v))) 5 1 true false Kd.plain)) (Bk.arr (Bk.mk (zAe (x ++ Lib.itoa (Va.kind v))) 5 1 true false Kd.plain)) (Bk.fz (Bk.mk (zAe (x ++ Lib.itoa (Va.kind v))) 5 1 true false Kd.plain)) (Bk.kd (Bk.mk (zAe (x ++ Lib.itoa (Va.kind v))) 5 1 true false Kd.plain)))] [] (by kernel_rfl) ⟨(by kernel_rfl), ⟨(by simp [zAy]), ⟨(by omega), ⟨(by kernel_rfl), ⟨(by kernel_rfl), ⟨(by kernel_rfl), ⟨(by omega), ⟨(by omega), ⟨(by kernel_rfl), ⟨(by omega), ⟨(by kernel_rfl), ⟨(by kernel_rfl), (by simp)⟩⟩⟩⟩⟩⟩⟩⟩⟩⟩⟩⟩ ?_
   refine zBn 0 (Bk.mk (zAe (x ++ Lib.itoa (Va.kind v)) ++ [D.val (Value.int IntKind.u8 44)]) (Bk.ty (Bk.mk (zAe (x ++ Lib.itoa (Va.kind v))) 5 1 true false Kd.plain)) (Bk.sz (Bk.mk (zAe (x ++ Lib.itoa (Va.kind v))) 5 1 true false Kd.plain)) (Bk.arr (Bk.mk (zAe (x ++ Lib.itoa (Va.kind v))) 5 1 true false Kd.plain)) (Bk.fz (Bk.mk (zAe (x ++ Lib.itoa (Va.kind v))) 5 1 true false Kd.plain)) (Bk.kd (Bk.mk (zAe (x ++ Lib.itoa (Va.kind v))) 5 1 true false Kd.plain))) (Bk.mk (zAe (x ++ Lib.itoa (Va.kind v) ++ [(44 : UInt8)])) 5 1 true false Kd.plain) (by kernel_rfl) (by simp (disch := omega) only [zCa, show ([D.val (Value.int IntKind.u8 44)] : List D) = zAe [44] from rfl]) ?_
   refine zAi 1 [(3, D.osl 0 0 (List.length x + List.length (Lib.itoa (Va.kind v)) + 1) ((List.length x + List.length (Lib.itoa (Va.kind v)) + 1) * 1) true)] ?_
   refine zY 3 (D.osl 0 0 (List.length x + List.length (Lib.itoa (Va.kind v)) + 1) ((List.length x + List.length (Lib.itoa (Va.kind v)) + 1) * 1) true) (D.osl 0 0 (List.length x + List.length (Lib.itoa (Va.kind v)) + 1) (List.length x + List.length (Lib.itoa (Va.kind v)) + 1) true) (by kernel_rfl) (by simp (disch := omega) only [Nat.mul_one]) (by kernel_rfl) ?_
   refine zG [13, 14, 16, 17] [] ?_
   refine zB (zA rfl ?_)
   refine zF 3 [] [] (True ∧ 0 < 2) [(18, D.osl 0 0 (List.length x + List.length (Lib.itoa (Va.kind v)) + 1) (List.length x + List.length (Lib.itoa (Va.kind v)) + 1) true), (19, D.own 1 1), (20, iD (Va.int v))] (by kernel_rfl) (by decide) ?_
   refine zF4 [] [] [D.osl 0 0 (List.length x + List.length (Lib.itoa (Va.kind v)) + 1) (List.length x + List.length (Lib.itoa (Va.kind v)) + 1) true, iD (Va.int v), iD 10] [D.osl 0 0 (List.length x + List.length (Lib.itoa (Va.kind v)) + 1) (List.length x + List.length (Lib.itoa (Va.kind v)) + 1) true, iD (Va.int v), iD 10] (by kernel_rfl) trivial (LeL.refl _) (by exact zJh 0 _ v.int _ (by simp; omega) (by omega) hvi.2.1.1 hvi.2.1.2 rfl (zD1 rfl)) (by kernel_rfl) ?_
   refine zAg 1 [] [] ((1 = 1 ∧ 1 ≤ 1 ∧ True) ∧ 0 < 1 ∧ 1 = 1 ∧ 1 ≤ 16777216 ∧ 1 ≤ 9223372036854775807) [(22, D.osl 3 0 1 1 true)] [] [q17_] (by kernel_rfl) (by decide) ?_
   refine zBn 3 (Bk.mk [D.val (Value.int IntKind.u8 44)] 5 1 true false Kd.plain) (Bk.mk (zAe [(44 : UInt8)]) 5 1 true false Kd.plain) (by kernel_rfl) (by simp (disch := omega) only [show ([D.val (Value.int IntKind.u8 44)] : List D) = zAe [44] from rfl]) ?_
   refine zAg 1 [] [] (Bk.arr (Bk.mk (zAe (x ++ Lib.itoa (Va.kind v) ++ [(44 : UInt8)] ++ Lib.itoa (Va.int v))) 5 1 true false Kd.plain) = true ∧ List.length (zAe (x ++ Lib.itoa (Va.kind v) ++ [(44 : UInt8)] ++ Lib.itoa (Va.int v))) = (List.length x + List.length (Lib.itoa (Va.kind v)) + 1 + List.length (Lib.itoa (Va.int v))) * 1 ∧ List.length x + List.length (Lib.itoa (Va.kind v)) + 1 + List.length (Lib.itoa (Va.int v)) = (List.length x + List.length (Lib.itoa (Va.kind v)) + 1 + List.length (Lib.itoa (Va.int v))) * 1 ∧ Bk.ty (Bk.mk (zAe (x ++ Lib.itoa (Va.kind v) ++ [(44 : UInt8)] ++ Lib.itoa (Va.int v))) 5 1 true false Kd.plain) = 5 ∧ Bk.sz (Bk.mk (zAe (x ++ Lib.itoa (Va.kind v) ++ [(44 : UInt8)] ++ Lib.itoa (Va.int v))) 5 1 true false Kd.plain) = 1 ∧ 1 = 1 ∧ 0 < 1 ∧ 0 < 1 ∧ 5 = 5 ∧ (List.length x + List.length (Lib.itoa (Va.kind v)) + 1 + List.length (Lib.itoa (Va.int v)) + 1) * 1 ≤ 140737488355328 ∧ 1 = 1 ∧ Kd.isMap (Bk.kd (Bk.mk (zAe (x ++ Lib.itoa (Va.kind v) ++ [(44 : UInt8)] ++ Lib.itoa (Va.int v))) 5 1 true false Kd.plain)) = false ∧ (false = false ∨ Kd.isSh (Bk.kd (Bk.mk (zAe (x ++ Lib.itoa (Va.kind v) ++ [(44 : UInt8)] ++ Lib.itoa (Va.int v))) 5 1 true false Kd.plain)) = true)) [(21, U), (23, D.osl 0 0 (List.length x + List.length (Lib.itoa (Va.kind v)) + 1 + List.length (Lib.itoa (Va.int v)) + 1) ((List.length x + List.length (Lib.itoa (Va.kind v)) + 1 + List.length (Lib.itoa (Va.int v)) + 1) * 1) true)] [(0, Bk.mk (zAe (x ++ Lib.itoa (Va.kind v) ++ [(44 : UInt8)] ++ Lib.itoa (Va.int v)) ++ [D.val (Value.int IntKind.u8 44)]) (Bk.ty (Bk.mk (zAe (x ++ Lib.itoa (Va.kind v) ++ [(44 : UInt8)] ++ Lib.itoa (Va.int v))) 5 1 true false Kd.plain)) (Bk.sz (Bk.mk (zAe (x ++ Lib.itoa (Va.kind v) ++ [(44 : UInt8)] ++ Lib.itoa (Va.int v))) 5 1 true false Kd.plain)) (Bk.arr (Bk.mk (zAe (x ++ Lib.itoa (Va.kind v) ++ [(44 : UInt8)] ++ Lib.itoa (Va.int v))) 5 1 true false Kd.plain)) (Bk.fz (Bk.mk (zAe (x ++ Lib.itoa (Va.kind v) ++ [(44 : UInt8)] ++ Lib.itoa (Va.int v))) 5 1 true false Kd.plain)) (Bk.kd (Bk.mk (zAe (x ++ Lib.itoa (Va.kind v) ++ [(44 : UInt8)] ++ Lib.itoa (Va.int v))) 5 1 true false Kd.plain)))] [] (by kernel_rfl) ⟨(by kernel_rfl), ⟨(by (simp [zAy]; omega)), ⟨(by omega), ⟨(by kernel_rfl), ⟨(by kernel_rfl), ⟨(by kernel_rfl), ⟨(by omega), ⟨(by omega), ⟨(by kernel_rfl), ⟨(by omega), ⟨(by kernel_rfl), ⟨(by kernel_rfl), (by simp)⟩⟩⟩⟩⟩⟩⟩⟩⟩⟩⟩⟩ ?_
   refine zBn 0 (Bk.mk (zAe (x ++ Lib.itoa (Va.kind v) ++ [(44 : UInt8)] ++ Lib.itoa (Va.int v)) ++ [D.val (Value.int IntKind.u8 44)]) (Bk.ty (Bk.mk (zAe (x ++ Lib.itoa (Va.kind v) ++ [(44 : UInt8)] ++ Lib.itoa (Va.int v))) 5 1 true false Kd.plain)) (Bk.sz (Bk.mk (zAe (x ++ Lib.itoa (Va.kind v) ++ [(44 : UInt8)] ++ Lib.itoa (Va.int v))) 5 1 true false Kd.plain)) (Bk.arr (Bk.mk (zAe (x ++ Lib.itoa (Va.kind v) ++ [(44 : UInt8)] ++ Lib.itoa (Va.int v))) 5 1 true false Kd.plain)) (Bk.fz (Bk.mk (zAe (x ++ Lib.itoa (Va.kind v) ++ [(44 : UInt8)] ++ Lib.itoa (Va.int v))) 5 1 true false Kd.plain)) (Bk.kd (Bk.mk (zAe (x ++ Lib.itoa (Va.kind v) ++ [(44 : UInt8)] ++ Lib.itoa (Va.int v))) 5 1 true false Kd.plain))) (Bk.mk (zAe (x ++ Lib.itoa (Va.kind v) ++ [(44 : UInt8)] ++ Lib.itoa (Va.int v) ++ [(44 : UInt8)])) 5 1 true false Kd.plain) (by kernel_rfl) (by simp (disch := omega) only [zCa, show ([D.val (Value.int IntKind.u8 44)] : List D) = zAe [44] from rfl]) ?_
   refine zAi 1 [(3, D.osl 0 0 (List.length x + List.length (Lib.itoa (Va.kind v)) + 1 + List.length (Lib.itoa (Va.int v)) + 1) ((List.length x + List.length (Lib.itoa (Va.kind v)) + 1 + List.length (Lib.itoa (Va.int v)) + 1) * 1) true)] ?_
   refine zY 3 (D.osl 0 0 (List.length x + List.length (Lib.itoa (Va.kind v)) + 1 + List.length (Lib.itoa (Va.int v)) + 1) ((List.length x + List.length (Lib.itoa (Va.kind v)) + 1 + List.length (Lib.itoa (Va.int v)) + 1) * 1) true) (D.osl 0 0 (List.length x + List.length (Lib.itoa (Va.kind v)) + 1 + List.length (Lib.itoa (Va.int v)) + 1) (List.length x + List.length (Lib.itoa (Va.kind v)) + 1 + List.length (Lib.itoa (Va.int v)) + 1) true) (by kernel_rfl) (by simp (disch := omega) only [Nat.mul_one]) (by kernel_rfl) ?_
   refine zG [19, 20, 22, 23] [] ?_
   refine zB (zA rfl ?_)
   refine zF 4 [] [] (True ∧ 0 < 1) [(24, D.osl 0 0 (List.length x + List.length (Lib.itoa (Va.kind v)) + 1 + List.length (Lib.itoa (Va.int v)) + 1) (List.length x + List.length (Lib.itoa (Va.kind v)) + 1 + List.length (Lib.itoa (Va.int v)) + 1) true), (25, D.own 1 2), (26, (q2_ v)), (27, iD (↑(List.length (Va.str v)) : Int))] (by kernel_rfl) (by decide) ?_
   refine zF4 [] [] [D.osl 0 0 (List.length x + List.length (Lib.itoa (Va.kind v)) + 1 + List.length (Lib.itoa (Va.int v)) + 1) (List.length x + List.length (Lib.itoa (Va.kind v)) + 1 + List.length (Lib.itoa (Va.int v)) + 1) true, iD (↑(List.length (Va.str v)) : Int), iD 10] [D.osl 0 0 (List.length x + List.length (Lib.itoa (Va.kind v)) + 1 + List.length (Lib.itoa (Va.int v)) + 1) (List.length x + List.length (Lib.itoa (Va.kind v)) + 1 + List.length (Lib.itoa (Va.int v)) + 1) true, iD (↑(List.length (Va.str v)) : Int), iD 10] (by kernel_rfl) trivial (LeL.refl _) (by exact zJh 0 _ (v.str.length : Nat) _ (by simp; omega) (by omega) (by omega) (by omega) rfl (zD1 rfl)) (by kernel_rfl) ?_
   refine zAg 1 [] [] ((1 = 1 ∧ 1 ≤ 1 ∧ True) ∧ 0 < 1 ∧ 1 = 1 ∧ 1 ≤ 16777216 ∧ 1 ≤ 9223372036854775807) [(29, D.osl 4 0 1 1 true)] [] [q17_] (by kernel_rfl) (by decide) ?_
   refine zBn 4 (Bk.mk [D.val (Value.int IntKind.u8 44)] 5 1 true false Kd.plain) (Bk.mk (zAe [(44 : UInt8)]) 5 1 true false Kd.plain) (by kernel_rfl) (by simp (disch := omega) only [show ([D.val (Value.int IntKind.u8 44)] : List D) = zAe [44] from rfl]) ?_
   refine zAg 1 [] [] (Bk.arr (Bk.mk (zAe (x ++ Lib.itoa (Va.kind v) ++ [(44 : UInt8)] ++ Lib.itoa (Va.int v) ++ [(44 : UInt8)] ++ Lib.itoa (↑(List.length (Va.str v)) : Int))) 5 1 true false Kd.plain) = true ∧ List.length (zAe (x ++ Lib.itoa (Va.kind v) ++ [(44 : UInt8)] ++ Lib.itoa (Va.int v) ++ [(44 : UInt8)] ++ Lib.itoa (↑(List.length (Va.str v)) : Int))) = (List.length x + List.length (Lib.itoa (Va.kind v)) + 1 + List.length (Lib.itoa (Va.int v)) + 1 + List.length (Lib.itoa (↑(List.length (Va.str v)) : Int))) * 1 ∧ List.length x + List.length (Lib.itoa (Va.kind v)) + 1 + List.length (Lib.itoa (Va.int v)) + 1 + List.length (Lib.itoa (↑(List.length (Va.str v)) : Int)) = (List.length x + List.length (Lib.itoa (Va.kind v)) + 1 + List.length (Lib.itoa (Va.int v)) + 1 + List.length (Lib.itoa (↑(List.length (Va.str v)) : Int))) * 1 ∧ Bk.ty (Bk.mk (zAe (x ++ Lib.itoa (Va.kind v) ++ [(44 : UInt8)] ++ Lib.itoa (Va.int v) ++ [(44 : UInt8)] ++ Lib.itoa (↑(List.length (Va.str v)) : Int))) 5 1 true false Kd.plain) = 5 ∧ Bk.sz (Bk.mk (zAe (x ++ Lib.itoa (Va.kind v) ++ [(44 : UInt8)] ++ Lib.itoa (Va.int v) ++ [(44 : UInt8)] ++ Lib.itoa (↑(List.length (Va.str v)) : Int))) 5 1 true false Kd.plain) = 1 ∧ 1 = 1 ∧ 0 < 1 ∧ 0 < 1 ∧ 5 = 5 ∧ (List.length x + List.length (Lib.itoa (Va.kind v)) + 1 + List.length (Lib.itoa (Va.int v)) + 1 + List.length (Lib.itoa (↑(List.length (Va.str v)) : Int)) + 1) * 1 ≤ 140737488355328 ∧ 1 = 1 ∧ Kd.isMap (Bk.kd (Bk.mk (zAe (x ++ Lib.itoa (Va.kind v) ++ [(44 : UInt8)] ++ Lib.itoa (Va.int v) ++ [(44 : UInt8)] ++ Lib.itoa (↑(List.length (Va.str v)) : Int))) 5 1 true false Kd.plain)) = false ∧ (false = false ∨ Kd.isSh (Bk.kd (Bk.mk (zAe (x ++ Lib.itoa (Va.kind v) ++ [(44 : UInt8)] ++ Lib.itoa (Va.int v) ++ [(44 : UInt8)] ++ Lib.itoa (↑(List.length (Va.str v)) : Int))) 5 1 true false Kd.plain)) = true)) [(28, U), (30, D.osl 0 0 (List.length x + List.length (Lib.itoa (Va.kind v)) + 1 + List.length (Lib.itoa (Va.int v)) + 1 + List.length (Lib.itoa (↑(List.length (Va.str v)) : Int)) + 1) ((List.length x + List.length (Lib.itoa (Va.kind v)) + 1 + List.length (Lib.itoa (Va.int v)) + 1 + List.length (Lib.itoa (↑(List.length (Va.str v)) : Int)) + 1) * 1) true)] [(0, Bk.mk (zAe (x ++ Lib.itoa (Va.kind v) ++ [(44 : UInt8)] ++ Lib.itoa (Va.int v) ++ [(44 : UInt8)] ++ Lib.itoa (↑(List.length (Va.str v)) : Int)) ++ [D.val (Value.int IntKind.u8 44)]) (Bk.ty (Bk.mk (zAe (x ++ Lib.itoa (Va.kind v) ++ [(44 : UInt8)] ++ Lib.itoa (Va.int v) ++ [(44 : UInt8)] ++ Lib.itoa (↑(List.length (Va.str v)) : Int))) 5 1 true false Kd.plain)) (Bk.sz (Bk.mk (zAe (x ++ Lib.itoa (Va.kind v) ++ [(44 : UInt8)] ++ Lib.itoa (Va.int v) ++ [(44 : UInt8)] ++ Lib.itoa (↑(List.length (Va.str v)) : Int))) 5 1 true false Kd.plain)) (Bk.arr (Bk.mk (zAe (x ++ Lib.itoa (Va.kind v) ++ [(44 : UInt8)] ++ Lib.itoa (Va.int v) ++ [(44 : UInt8)] ++ Lib.itoa (↑(List.length (Va.str v)) : Int))) 5 1 true false Kd.plain)) (Bk.fz (Bk.mk (zAe (x ++ Lib.itoa (Va.kind v) ++ [(44 : UInt8)] ++ Lib.itoa (Va.int v) ++ [(44 : UInt8)] ++ Lib.itoa (↑(List.length (Va.str v)) : Int))) 5 1 true false Kd.plain)) (Bk.kd (Bk.mk (zAe (x ++ Lib.itoa (Va.kind v) ++ [(44 : UInt8)] ++ Lib.itoa (Va.int v) ++ [(44 : UInt8)] ++ Lib.itoa (↑(List.length (Va.str v)) : Int))) 5 1 true false Kd.plain)))] [] (by kernel_rfl) ⟨(by kernel_rfl), ⟨(by (simp [zAy]; omega)), ⟨(by omega), ⟨(by kernel_rfl), ⟨(by kernel_rfl), ⟨(by kernel_rfl), ⟨(by omega), ⟨(by omega), ⟨(by kernel_rfl), ⟨(by omega), ⟨(by kernel_rfl), ⟨(by kernel_rfl), (by simp)⟩⟩⟩⟩⟩⟩⟩⟩⟩⟩⟩⟩ ?_
   refine zBn 0 (Bk.mk (zAe (x ++ Lib.itoa (Va.kind v) ++ [(44 : UInt8)] ++ Lib.itoa (Va.int v) ++ [(44 : UInt8)] ++ Lib.itoa (↑(List.length (Va.str v)) : Int)) ++ [D.val (Value.int IntKind.u8 44)]) (Bk.ty (Bk.mk (zAe (x ++ Lib.itoa (Va.kind v) ++ [(44 : UInt8)] ++ Lib.itoa (Va.int v) ++ [(44 : UInt8)] ++ Lib.itoa (↑(List.length (Va.str v)) : Int))) 5 1 true false Kd.plain)) (Bk.sz (Bk.mk (zAe (x ++ Lib.itoa (Va.kind v) ++ [(44 : UInt8)] ++ Lib.itoa (Va.int v) ++ [(44 : UInt8)] ++ Lib.itoa (↑(List.length (Va.str v)) : Int))) 5 1 true false Kd.plain)) (Bk.arr (Bk.mk (zAe (x ++ Lib.itoa (Va.kind v) ++ [(44 : UInt8)] ++ Lib.itoa (Va.int v) ++ [(44 : UInt8)] ++ Lib.itoa (↑(List.length (Va.str v)) : Int))) 5 1 true false Kd.plain)) (Bk.fz (Bk.mk (zAe (x ++ Lib.itoa (Va.kind v) ++ [(44 : UInt8)] ++ Lib.itoa (Va.int v) ++ [(44 : UInt8)] ++ Lib.itoa (↑(List.length (Va.str v)) : Int))) 5 1 true false Kd.plain)) (Bk.kd (Bk.mk (zAe (x ++ Lib.itoa (Va.kind v) ++ [(44 : UInt8)] ++ Lib.itoa (Va.int v) ++ [(44 : UInt8)] ++ Lib.itoa (↑(List.length (Va.str v)) : Int))) 5 1 true false Kd.plain))) (Bk.mk (zAe (x ++ Lib.itoa (Va.kind v) ++ [(44 : UInt8)] ++ Lib.itoa (Va.int v) ++ [(44 : UInt8)] ++ Lib.itoa (↑(List.length (Va.str v)) : Int) ++ [(44 : UInt8)])) 5 1 true false Kd.plain) (by kernel_rfl) (by simp (disch := omega) only [zCa, show ([D.val (Value.int IntKind.u8 44)] : List D) = zAe [44] from rfl]) ?_
   refine zAi 1 [(3, D.osl 0 0 (List.length x + List.length (Lib.itoa (Va.kind v)) + 1 + List.length (Lib.itoa (Va.int v)) + 1 + List.length (Lib.itoa (↑(List.length (Va.str v)) : Int)) + 1) ((List.length x + List.length (Lib.itoa (Va.kind v)) + 1 + List.length (Lib.itoa (Va.int v)) + 1 + List.length (Lib.itoa (↑(List.length (Va.str v)) : Int)) + 1) * 1) true)] ?_
   refine zY 3 (D.osl 0 0 (List.length x + List.length (Lib.itoa (Va.kind v)) + 1 + List.length (Lib.itoa (Va.int v)) + 1 + List.length (Lib.itoa (↑(List.length (Va.str v)) : Int)) + 1) ((List.length x + List.length (Lib.itoa (Va.kind v)) + 1 + List.length (Lib.itoa (Va.int v)) + 1 + List.length (Lib.itoa (↑(List.length (Va.str v)) : Int)) + 1) * 1) true) (D.osl 0 0 (List.length x + List.length (Lib.itoa (Va.kind v)) + 1 + List.length (Lib.itoa (Va.int v)) + 1 + List.length (Lib.itoa (↑(List.length (Va.str v)) : Int)) + 1) (List.length x + List.length (Lib.itoa (Va.kind v)) + 1 + List.length (Lib.itoa (Va.int v)) + 1 + List.length (Lib.itoa (↑(List.length (Va.str v)) : Int)) + 1) true) (by kernel_rfl) (by simp (disch := omega) only [Nat.mul_one]) (by kernel_rfl) ?_
   refine zG [25, 26, 27, 29, 30] [] ?_
   refine zA rfl ?_
   refine zAg 4 [] [] (True ∧ 0 < 1 ∧ Bk.arr (Bk.mk (zAe (x ++ Lib.itoa (Va.kind v) ++ [(44 : UInt8)] ++ Lib.itoa (Va.int v) ++ [(44 : UInt8)] ++ Lib.itoa (↑(List.length (Va.str v)) : Int) ++ [(44 : UInt8)])) 5 1 true false Kd.plain) = true ∧ List.length (zAe (x ++ Lib.itoa (Va.kind v) ++ [(44 : UInt8)] ++ Lib.itoa (Va.int v) ++ [(44 : UInt8)] ++ Lib.itoa (↑(List.length (Va.str v)) : Int) ++ [(44 : UInt8)])) = (List.length x + List.length (Lib.itoa (Va.kind v)) + 1 + List.length (Lib.itoa (Va.int v)) + 1 + List.length (Lib.itoa (↑(List.length (Va.str v)) : Int)) + 1) * 1 ∧ List.length x + List.length (Lib.itoa (Va.kind v)) + 1 + List.length (Lib.itoa (Va.int v)) + 1 + List.length (Lib.itoa (↑(List.length (Va.str v)) : Int)) + 1 = (List.length x + List.length (Lib.itoa (Va.kind v)) + 1 + List.length (Lib.itoa (Va.int v)) + 1 + List.length (Lib.itoa (↑(List.length (Va.str v)) : Int)) + 1) * 1 ∧ Bk.ty (Bk.mk (zAe (x ++ Lib.itoa (Va.kind v) ++ [(44 : UInt8)] ++ Lib.itoa (Va.int v) ++ [(44 : UInt8)] ++ Lib.itoa (↑(List.length (Va.str v)) : Int) ++ [(44 : UInt8)])) 5 1 true false Kd.plain) = 5 ∧ Bk.sz (Bk.mk (zAe (x ++ Lib.itoa (Va.kind v) ++ [(44 : UInt8)] ++ Lib.itoa (Va.int v) ++ [(44 : UInt8)] ++ Lib.itoa (↑(List.length (Va.str v)) : Int) ++ [(44 : UInt8)])) 5 1 true false Kd.plain) = 1 ∧ List.length (zAe (Array.toList (ByteArray.data (bs (Va.str v))))) = List.length (Array.toList (ByteArray.data (bs (Va.str v)))) * 1 ∧ 0 < 1 ∧ 0 < 1 ∧ 5 = 5 ∧ (List.length x + List.length (Lib.itoa (Va.kind v)) + 1 + List.length (Lib.itoa (Va.int v)) + 1 + List.length (Lib.itoa (↑(List.length (Va.str v)) : Int)) + 1 + List.length (Array.toList (ByteArray.data (bs (Va.str v))))) * 1 ≤ 140737488355328 ∧ 1 = 1 ∧ Kd.isMap (Bk.kd (Bk.mk (zAe (x ++ Lib.itoa (Va.kind v) ++ [(44 : UInt8)] ++ Lib.itoa (Va.int v) ++ [(44 : UInt8)] ++ Lib.itoa (↑(List.length (Va.str v)) : Int) ++ [(44 : UInt8)])) 5 1 true false Kd.plain)) = false ∧ (false = false ∨ Kd.isSh (Bk.kd (Bk.mk (zAe (x ++ Lib.itoa (Va.kind v) ++ [(44 : UInt8)] ++ Lib.itoa (Va.int v) ++ [(44 : UInt8)] ++ Lib.itoa (↑(List.length (Va.str v)) : Int) ++ [(44 : UInt8)])) 5 1 true false Kd.plain)) = true)) [(3, U), (32, D.own 1 2), (33, (q2_ v)), (34, D.osl 0 0 (List.length x + List.length (Lib.itoa (Va.kind v)) + 1 + List.length (Lib.itoa (Va.int v)) + 1 + List.length (Lib.itoa (↑(List.length (Va.str v)) : Int)) + 1 + List.length (Array.toList (ByteArray.data (bs (Va.str v))))) ((List.length x + List.length (Lib.itoa (Va.kind v)) + 1 + List.length (Lib.itoa (Va.int v)) + 1 + List.length (Lib.itoa (↑(List.length (Va.str v)) : Int)) + 1 + List.length (Array.toList (ByteArray.data (bs (Va.str v))))) * 1) true)] [(0, Bk.mk (zAe (x ++ Lib.itoa (Va.kind v) ++ [(44 : UInt8)] ++ Lib.itoa (Va.int v) ++ [(44 : UInt8)] ++ Lib.itoa (↑(List.length (Va.str v)) : Int) ++ [(44 : UInt8)]) ++ zAe (Array.toList (ByteArray.data (bs (Va.str v))))) (Bk.ty (Bk.mk (zAe (x ++ Lib.itoa (Va.kind v) ++ [(44 : UInt8)] ++ Lib.itoa (Va.int v) ++ [(44 : UInt8)] ++ Lib.itoa (↑(List.length (Va.str v)) : Int) ++ [(44 : UInt8)])) 5 1 true false Kd.plain)) (Bk.sz (Bk.mk (zAe (x ++ Lib.itoa (Va.kind v) ++ [(44 : UInt8)] ++ Lib.itoa (Va.int v) ++ [(44 : UInt8)] ++ Lib.itoa (↑(List.length (Va.str v)) : Int) ++ [(44 : UInt8)])) 5 1 true false Kd.plain)) (Bk.arr (Bk.mk (zAe (x ++ Lib.itoa (Va.kind v) ++ [(44 : UInt8)] ++ Lib.itoa (Va.int v) ++ [(44 : UInt8)] ++ Lib.itoa (↑(List.length (Va.str v)) : Int) ++ [(44 : UInt8)])) 5 1 true false Kd.plain)) (Bk.fz (Bk.mk (zAe (x ++ Lib.itoa (Va.kind v) ++ [(44 : UInt8)] ++ Lib.itoa (Va.int v) ++ [(44 : UInt8)] ++ Lib.itoa (↑(List.length (Va.str v)) : Int) ++ [(44 : UInt8)])) 5 1 true false Kd.plain)) (Bk.kd (Bk.mk (zAe (x ++ Lib.itoa (Va.kind v) ++ [(44 : UInt8)] ++ Lib.itoa (Va.int v) ++ [(44 : UInt8)] ++ Lib.itoa (↑(List.length (Va.str v)) : Int) ++ [(44 : UInt8)])) 5 1 true false Kd.plain)))] [] (by kernel_rfl) ⟨trivial, (by omega), ?_⟩ ?_
   rotate_left
   refine zBn 0 (Bk.mk (zAe (x ++ Lib.itoa (Va.kind v) ++ [(44 : UInt8)] ++ Lib.itoa (Va.int v) ++ [(44 : UInt8)] ++ Lib.itoa (↑(List.length (Va.str v)) : Int) ++ [(44 : UInt8)]) ++ zAe (Array.toList (ByteArray.data (bs (Va.str v))))) (Bk.ty (Bk.mk (zAe (x ++ Lib.itoa (Va.kind v) ++ [(44 : UInt8)] ++ Lib.itoa (Va.int v) ++ [(44 : UInt8)] ++ Lib.itoa (↑(List.length (Va.str v)) : Int) ++ [(44 : UInt8)])) 5 1 true false Kd.plain)) (Bk.sz (Bk.mk (zAe (x ++ Lib.itoa (Va.kind v) ++ [(44 : UInt8)] ++ Lib.itoa (Va.int v) ++ [(44 : UInt8)] ++ Lib.itoa (↑(List.length (Va.str v)) : Int) ++ [(44 : UInt8)])) 5 1 true false Kd.plain)) (Bk.arr (Bk.mk (zAe (x ++ Lib.itoa (Va.kind v) ++ [(44 : UInt8)] ++ Lib.itoa (Va.int v) ++ [(44 : UInt8)] ++ Lib.itoa (↑(List.length (Va.str v)) : Int) ++ [(44 : UInt8)])) 5 1 true false Kd.plain)) (Bk.fz (Bk.mk (zAe (x ++ Lib.itoa (Va.kind v) ++ [(44 : UInt8)] ++ Lib.itoa (Va.int v) ++ [(44 : UInt8)] ++ Lib.itoa (↑(List.length (Va.str v)) : Int) ++ [(44 : UInt8)])) 5 1 true false Kd.plain)) (Bk.kd (Bk.mk (zAe (x ++ Lib.itoa (Va.kind v) ++ [(44 : UInt8)] ++ Lib.itoa (Va.int v) ++ [(44 : UInt8)] ++ Lib.itoa (↑(List.length (Va.str v)) : Int) ++ [(44 : UInt8)])) 5 1 true false Kd.plain))) (Bk.mk (zAe (x ++ Lib.itoa (Va.kind v) ++ [(44 : UInt8)] ++ Lib.itoa (Va.int v) ++ [(44 : UInt8)] ++ Lib.itoa (↑(List.length (Va.str v)) : Int) ++ [(44 : UInt8)] ++ Va.str v)) 5 1 true false Kd.plain) (by kernel_rfl) (by simp (disch := omega) only [bs_dl, zCa]) ?_
   refine zAi 1 [(3, D.osl 0 0 (List.length x + List.length (Lib.itoa (Va.kind v)) + 1 + List.length (Lib.itoa (Va.int v)) + 1 + List.length (Lib.itoa (↑(List.length (Va.str v)) : Int)) + 1 + List.length (Array.toList (ByteArray.data (bs (Va.str v))))) ((List.length x + List.length (Lib.itoa (Va.kind v)) + 1 + List.length (Lib.itoa (Va.int v)) + 1 + List.length (Lib.itoa (↑(List.length (Va.str v)) : Int)) + 1 + List.length (Array.toList (ByteArray.data (bs (Va.str v))))) * 1) true)] ?_
   refine zY 3 (D.osl 0 0 (List.length x + List.length (Lib.itoa (Va.kind v)) + 1 + List.length (Lib.itoa (Va.int v)) + 1 + List.length (Lib.itoa (↑(List.length (Va.str v)) : Int)) + 1 + List.length (Array.toList (ByteArray.data (bs (Va.str v))))) ((List.length x + List.length (Lib.itoa (Va.kind v)) + 1 + List.length (Lib.itoa (Va.int v)) + 1 + List.length (Lib.itoa (↑(List.length (Va.str v)) : Int)) + 1 + List.length (Array.toList (ByteArray.data (bs (Va.str v))))) * 1) true) (D.osl 0 0 (List.length x + List.length (Lib.itoa (Va.kind v)) + 1 + List.length (Lib.itoa (Va.int v)) + 1 + List.length (Lib.itoa (↑(List.length (Va.str v)) : Int)) + 1 + List.length (Va.str v)) (List.length x + List.length (Lib.itoa (Va.kind v)) + 1 + List.length (Lib.itoa (Va.int v)) + 1 + List.length (Lib.itoa (↑(List.length (Va.str v)) : Int)) + 1 + List.length (Va.str v)) true) (by kernel_rfl) (by simp (disch := omega) only [bs_dl, Nat.mul_one]) (by kernel_rfl) ?_
   refine zAb ?_ (by kernel_rfl)
   refine zL (zC (zD (zA rfl ?_)))
   refine zF 2 [] [] (-9223372036854775808 ≤ (↑i : Int) + (1 : Int) ∧ (↑i : Int) + (1 : Int) ≤ 9223372036854775807) [(8, iD ((↑i : Int) + (1 : Int))), (35, iD ((↑i : Int) + (1 : Int)))] (by kernel_rfl) (by omega) ?_
   refine zAb ?_ (by kernel_rfl)
   refine zC ?_
   rotate_left
  all_goals first | (refine ⟨rfl, ?_, ?_, rfl, rfl, ?_, by decide, by decide, rfl, ?_, rfl, rfl, .inl rfl⟩ <;> (try simp only [zAy, List.length_append, List.length_cons, List.length_nil, bs_dl]) <;> omega) | skip
  refine ⟨i + 1, by omega, by omega, ?_⟩
  rw [e2, e3]
  refine zAp [(2, 1), (3, 1), (6, 1), (7, 1), (8, 1)] (D.val (Value.string (ByteArray.mk #[])) = D.val (Value.string (ByteArray.mk #[])) ∧ D.osl 0 0 (List.length x + List.length (Lib.itoa (Va.kind v)) + 1 + List.length (Lib.itoa (Va.int v)) + 1 + List.length (Lib.itoa (↑(List.length (Va.str v)) : Int)) + 1 + List.length (Va.str v)) (List.length x + List.length (Lib.itoa (Va.kind v)) + 1 + List.length (Lib.itoa (Va.int v)) + 1 + List.length (Lib.itoa (↑(List.length (Va.str v)) : Int)) + 1 + List.length (Va.str v)) true = D.osl 0 0 (List.length (x ++ Lib.itoa (Va.kind v) ++ [(44 : UInt8)] ++ Lib.itoa (Va.int v) ++ [(44 : UInt8)] ++ Lib.itoa (↑(List.length (Va.str v)) : Int) ++ [(44 : UInt8)] ++ Va.str v)) (List.length (x ++ Lib.itoa (Va.kind v) ++ [(44 : UInt8)] ++ Lib.itoa (Va.int v) ++ [(44 : UInt8)] ++ Lib.itoa (↑(List.length (Va.str v)) : Int) ++ [(44 : UInt8)] ++ Va.str v)) true ∧ D.row (zM r) (List.length r) = D.row (zM r) (List.length r) ∧ iD (↑(List.length r) : Int) = iD (↑(List.length r) : Int) ∧ iD ((↑i : Int) + (1 : Int)) = iD (↑(i + 1) : Int)) 1 [] (by kernel_rfl) ⟨rfl, (by (simp; omega)), rfl, rfl, (by kernel_rfl)⟩ (by kernel_rfl) (fun _ _ => rfl) (by kernel_rfl)
 ·have e : i = r.length := by omega
  subst e
  rw [List.take_length] at ex
  focus
   refine zB (zA rfl ?_)
   refine zG [] [(9, bD (decide ((↑(List.length r) : Int) < (↑(List.length r) : Int))))] ?_
   refine zB ?_
   refine zBc (t := decide ((↑(List.length r) : Int) < (↑(List.length r) : Int))) (by kernel_rfl) (by exact decide_eq_false (by omega)) ?_
   refine zAc (zK (zK (zV rfl (zC (zD (zB (zA rfl ?_)))))))
   refine zF 2 [] [] (zCx (List.take (List.length x) (List.drop 0 (Bk.cells (byB x)))) = some (zGs (List.take (List.length x) (List.drop 0 (Bk.cells (byB x))))) ∧ List.length (List.take (List.length x) (List.drop 0 (Bk.cells (byB x)))) = List.length x ∧ Program.underlying Tryz.prog 5 = some (TypeDesc.int IntKind.u8)) [(36, D.osl 0 0 (List.length x) (List.length x) true), (37, D.val (Value.string (ByteArray.mk (List.toArray (zGs (List.take (List.length x) (List.drop 0 (Bk.cells (byB x)))))))))] (by kernel_rfl) ⟨(by simp [zMq, zLb, zE9, zAy]), ⟨(by simp [zMq, zLb, zE9, zAy]), (by kernel_rfl)⟩⟩ ?_
   refine zY 37 (D.val (Value.string (ByteArray.mk (List.toArray (zGs (List.take (List.length x) (List.drop 0 (Bk.cells (byB x))))))))) (D.val (Value.string (ByteArray.mk (List.toArray x)))) (by kernel_rfl) (by simp (disch := omega) only [List.drop_zero, zE9, zLb]) (by kernel_rfl) ?_
   refine zG [3, 6, 7, 8, 9, 36, 37] [(2, D.val (Value.string (ByteArray.mk (List.toArray x))))] ?_
   refine zW ?_
   refine zZ (True) (D.val (Value.string (ByteArray.mk (List.toArray x)))) (D.val (Value.string (ByteArray.mk (List.toArray x)))) (.inr rfl) (by kernel_rfl) trivial rfl ?_
   rotate_left
  rw [ex]; rfl
end
section
open Go.RowKit
attribute [local irreducible] seqW awp zA3 zCo zBd Weak updS zB0 retL Pure Acts
set_option maxRecDepth 4096
abbrev zG9 (desc : Bool) (t : WT) : D := .agg [bD desc, t.x]
theorem zNe : LeD (.val (.pointer none)) WT.nil.x := fun I w β v h => by
 simp only [Rel] at h
 subst h
 simp only [Rel, WT.d]
 exact ⟨rfl, trivial⟩
theorem zN4 {a b b' : D} (h : LeD b b') : LeD (.agg [a, b]) (.agg [a, b']) := fun I w β v hr => by
 simp only [Rel, RelL] at hr ⊢
 obtain ⟨vs, rfl, v1, us, rfl, h1, h2, v2, us', rfl, h3, h4, h5⟩ := hr
 exact ⟨_, rfl, v1, _, rfl, h1, h2, v2, us', rfl, h3, h _ _ _ _ h4, h5⟩
abbrev q18_ := Bk.mk [bD false, q7_] 57 0 false false Kd.plain
theorem zE4 (desc : Bool) : Pure Tryz.prog 41 [bD desc] [] (zG9 desc .nil) := by
 refine Pure.res (x := .agg [bD desc, .val (.pointer none)]) ?_ (zN4 zNe)
 refine zP zAo mixed Tryz.func41 rfl ?_
 focus
  refine zB (zA rfl ?_)
  refine zN [] [] [] (True) [(2, D.own 0 0)] [] [q18_] (by kernel_rfl) trivial ?_
  refine zB (zA rfl ?_)
  refine zN [] [] [0, 3, 4] (((1 = 1 ∧ 1 ≤ 2 ∧ True) ∧ true = true) ∧ false = false ∧ true = true ∧ 2 = 2 ∧ 2 ≤ 2) [] [(0, Bk.mk [bD desc, q7_] 57 0 false false Kd.plain)] [] (by kernel_rfl) (by decide) ?_
  refine zW ?_
  refine zZ (2 ≤ 2) (D.agg [bD desc, q7_]) (D.agg [D.val (Value.bool desc), q7_]) (.inr rfl) (by kernel_rfl) (by omega) rfl rfl
theorem zDi (desc : Bool) (t : WT) : Pure Tryz.prog 28 [zG9 desc t] [] (iD (t.sz : Nat)) := by
 refine zP zAo mixed Tryz.func28 rfl ?_
 focus
  refine zB (zA rfl ?_)
  refine zN [] [] [0] (True) [(1, D.own 0 0), (2, iD 0)] [] [(q13_ desc t)] (by kernel_rfl) trivial ?_
  refine zB (zA rfl ?_)
  refine zF 2 [] [] (True ∧ 0 < 1) [(3, D.own 0 1), (4, D.fx (WT.d t))] (by kernel_rfl) (by decide) ?_
  refine zX [D.fx (WT.d t)] (by exact zT6 _) ?_
  refine zG [1, 3, 4, 5] [(2, iD (↑(WT.sz t) : Int))] ?_
  refine zW ?_
  refine zZ (True) (iD (↑(WT.sz t) : Int)) (D.val (Value.int IntKind.i64 (↑(WT.sz t) : Int))) (.inr rfl) (by kernel_rfl) trivial rfl rfl
theorem zFj (desc : Bool) (t : WT) (h : Sm t.tot) : Pure Tryz.prog 87 [zG9 desc t] [] (natD t.tot) := by
 refine zP zAo mixed Tryz.func87 rfl ?_
 focus
  refine zB (zA rfl ?_)
  refine zN [] [] [0] (True) [(1, D.own 0 0), (2, nl)] [] [(q13_ desc t)] (by kernel_rfl) trivial ?_
  refine zB (zA rfl ?_)
  refine zF 2 [] [] (True ∧ 0 < 1) [(3, D.own 0 1), (4, D.fx (WT.d t))] (by kernel_rfl) (by decide) ?_
  refine zX [D.fx (WT.d t)] (by exact zRc _) ?_
  refine zX [natD (WT.tot t)] (by exact zK1 _ h) ?_
  refine zG [1, 3, 4, 5, 6] [(2, natD (WT.tot t))] ?_
  refine zW ?_
  refine zZ (True) (natD (WT.tot t)) (natD (WT.tot t)) (.inr rfl) (by kernel_rfl) trivial rfl rfl
theorem dg_pos {w : Nat} (h : 0 < w) : 0 < (dg w).length := by
 rw [dg, dif_neg (by omega)]; simp
theorem wPut_c (desc : Bool) (t : WT) (v : Va) (w : Nat) (hv : vok v = true) (hw : 0 < w) (h1 : t.sz + 1 ≤ 1000000000) (h2 : Sm (t.tot + w)) : Pure Tryz.prog 42 [zG9 desc t, vaD v, natD w] [] (.tup [zG9 desc (t.put desc v w), iD 0]) := by
 have h3 := dg_pos hw
 have h4 := (h2.le (Nat.le_add_left w t.tot)).len
 refine zP zAo mixed Tryz.func42 rfl ?_
 focus
  refine zB (zA rfl ?_)
  refine zN [] [] [0, 1] (True) [(3, D.own 0 0), (4, D.own 1 0), (6, D.own 2 0), (7, iD 0)] [] [(q13_ desc t), (q1_ v), q18_] (by kernel_rfl) trivial ?_
  refine zB (zB (zA rfl ?_))
  refine zF 1 [] [] (3 ≤ 3) [(8, (q15_ v))] (by kernel_rfl) (by omega) ?_
  refine zX [(q15_ v)] (by exact zN9 _) ?_
  refine zAi 1 [(10, bD !vok v)] ?_
  refine zY 10 (bD !vok v) (bD false) (by kernel_rfl) (by simp (disch := omega) only [Bool.not_true, hv]) (by kernel_rfl) ?_
  refine zG [8, 9] [] ?_
  refine zS ?_
  refine zJ (zC (zD (zB (zA rfl ?_))))
  refine zAi 1 [(12, natD w)] ?_
  refine zX [natD w] (by exact zK1 _ (h2.le (by omega))) ?_
  refine zG [10, 12, 13] [(2, natD w)] ?_
  refine zB (zB (zA rfl ?_))
  refine zG [14, 15] [(16, bD ((↑(List.length (dg w)) : Int) == (0 : Int)))] ?_
  refine zBc (t := (↑(List.length (dg w)) : Int) == (0 : Int)) (by kernel_rfl) (by exact decide_eq_false (by omega)) ?_
  refine zJ (zC (zD (zB ?_)))
  refine zT [0, 3, 6, 1, 2, 4, 5, 7, 8, 9, 10, 11] (by kernel_rfl) rfl ?_
  refine zF 8 [] [] (True ∧ True ∧ 0 < 2 ∧ 2 ≤ 2 ∧ 0 < 1 ∧ 3 ≤ 3 ∧ (3 = 3 ∧ 3 ≤ 4 ∧ 1 = 1 ∧ 4 ≤ 4 ∧ True) ∧ true = true) [(18, D.own 0 0), (19, bD desc), (20, (q14_ desc t)), (21, D.own 0 1), (22, D.fx (WT.d t)), (23, (q15_ v)), (24, natD w), (25, (q9_ v w))] (by kernel_rfl) (by decide) ?_
  refine zX [(q14_ desc t), D.fx (WT.d t), (q9_ v w)] (by exact zRd desc t v w t h1 h2) ?_
  refine zN [] [] [2, 3, 4, 16, 18, 19, 20, 21, 22, 23, 24, 25, 26, 27] (((1 = 1 ∧ 1 ≤ 2 ∧ 1 = 1 ∧ 2 ≤ 2 ∧ True) ∧ true = true) ∧ false = false ∧ true = true ∧ 2 = 2 ∧ 2 ≤ 2) [] [(2, Bk.mk [bD desc, D.fx (WT.d (WT.put desc v w t))] 57 0 false false Kd.plain)] [] (by kernel_rfl) (by decide) ?_
  refine zW ?_
  refine zZ (2 ≤ 2) (D.tup [D.agg [bD desc, D.fx (WT.d (WT.put desc v w t))], iD 0]) (D.tup [D.agg [D.val (Value.bool desc), D.fx (WT.d (WT.put desc v w t))], q6_]) (.inr rfl) (by kernel_rfl) (by omega) rfl rfl
def Tw : Par := ⟨fun f => f == 60 || f == 69 || f == 61, fun _ _ => none, fun k => decide (k < 6), fun _ => false, fun _ => false⟩
theorem Tw_ok : zBi Tryz.prog Tw := by intro t n f h; cases h
theorem keep6 {st : List Bk} (h : st.length = 6) : ∀ k, k < st.length → Tw.keep k = true := fun k hk => by
 show decide (k < 6) = true
 rw [decide_eq_true_eq]; omega
theorem zSo : ∀ k, 6 ≤ k → Tw.keep k = false := fun k hk => by
 show decide (k < 6) = false
 rw [decide_eq_false_iff_not]; omega
abbrev vB1 (v : Va) : Bk := ⟨vaC v, 64, 0, false, false, .plain⟩
abbrev nB1 (d : D) : Bk := ⟨[d], 44, 0, false, false, .plain⟩
abbrev iB1 (i : Int) : Bk := ⟨[iD i], 3, 0, false, false, .plain⟩
abbrev tB1 (desc : Bool) (t : WT) (fz : Bool) : Bk := ⟨[bD desc, t.x], 57, 0, false, fz, .plain⟩
theorem wat1_c (desc : Bool) (v : Va) (w : Nat) (l r : WT) (i : Nat) (h : (WT.node v w l r).Ok) (hi : i < (WT.node v w l r).sz) (b0 b2 b5 : Bk) (u : Va) (nd : D) :
  Acts Tryz.prog 69 [zJs v w l r, .own 1 0, .own 3 0, .own 4 0] [b0, iB1 i, b2, vB1 u, nB1 nd, b5] []
   (iD (if i < l.sz then -1 else if i > l.sz then 1 else 0)) [b0, iB1 (if i > l.sz then (i - (l.sz + 1) : Nat) else i), b2, if i = l.sz then vB1 v else vB1 u, if i = l.sz then nB1 (natD w) else nB1 nd, b5] := by
 have h1 := h.1
 have h2 := h.2
 simp only [WT.sz, WT.tot] at h1 h2 hi
 refine zJk Tw_ok mixed Tryz.func69 rfl (keep6 rfl) ?_
 focus
  refine zB (zA rfl ?_)
  refine zG [] [(5, iD 0)] ?_
  refine zB (zA rfl ?_)
  refine zF 4 [] [] (True ∧ 0 < 5) [(7, (q10_ v w l r)), (8, (q10_ v w l r)), (9, D.ptr [D.fx (WT.d l), D.fx (WT.d r), iD (↑(max (WT.ht l) (WT.ht r) + 1) : Int), iD (↑(WT.sz l + 1 + WT.sz r) : Int), natD (WT.tot l + w + WT.tot r)]), (10, D.fx (WT.d l))] (by kernel_rfl) (by decide) ?_
  refine zX [D.fx (WT.d l)] (by exact zT6 _) ?_
  refine zG [7, 8, 9, 10, 11] [(6, iD (↑(WT.sz l) : Int))] ?_
  refine zB (zB (zA rfl ?_))
  refine zQ [] [] [12, 13] (0 < 1) [(14, bD (decide ((↑i : Int) < (↑(WT.sz l) : Int))))] (by kernel_rfl) (by omega) ?_
  refine zAm (t := decide ((↑i : Int) < (↑(WT.sz l) : Int))) (by kernel_rfl) (fun hc => ?_) (fun hc => ?_)
  simp only [decide_eq_true_eq] at hc
  refine zB (zA rfl ?_)
  refine zG [14] [(5, iD (-1))] ?_
  refine zW (zR ?_)
  refine zA7 (True) [q4_] (.inr rfl) (by kernel_rfl) trivial ?_
  rotate_left
  simp only [decide_eq_false_iff_not] at hc
  refine zJ (zC (zD (zB (zB (zA rfl ?_)))))
  refine zQ [] [] [14, 15, 16] (0 < 1) [(17, bD (decide ((↑i : Int) > (↑(WT.sz l) : Int))))] (by kernel_rfl) (by omega) ?_
  refine zAm (t := decide ((↑i : Int) > (↑(WT.sz l) : Int))) (by kernel_rfl) (fun hc => ?_) (fun hc => ?_)
  simp only [decide_eq_true_eq] at hc
  refine zB (zA rfl ?_)
  refine zN [] [] [1, 6, 17, 18, 19, 20, 21] (0 < 1 ∧ (-9223372036854775808 ≤ (↑(WT.sz l) : Int) + (1 : Int) ∧ (↑(WT.sz l) : Int) + (1 : Int) ≤ 9223372036854775807) ∧ (-9223372036854775808 ≤ (↑i : Int) - ((↑(WT.sz l) : Int) + (1 : Int)) ∧ (↑i : Int) - ((↑(WT.sz l) : Int) + (1 : Int)) ≤ 9223372036854775807) ∧ Bk.fz (iB1 (↑i : Int)) = false ∧ true = true ∧ 1 = 1 ∧ 1 ≤ 1) [] [(1, Bk.mk [iD ((↑i : Int) - ((↑(WT.sz l) : Int) + (1 : Int)))] (3 : TypeId) 0 false false Kd.plain)] [] (by kernel_rfl) ⟨(by omega), (by omega), (by omega), ⟨(by kernel_rfl), ⟨(by kernel_rfl), (by omega)⟩⟩⟩ ?_
  refine zB (zA rfl ?_)
  refine zG [] [(5, iD 1)] ?_
  refine zW (zR ?_)
  refine zA7 (True) [q5_] (.inr rfl) (by kernel_rfl) trivial ?_
  rotate_left
  simp only [decide_eq_false_iff_not] at hc
  refine zJ (zC (zD (zB ?_)))
  refine zT [0, 1, 2, 3, 5, 6, 7, 8, 4, 9, 10, 11, 12] (by kernel_rfl) rfl ?_
  refine zF 10 [] [] (True ∧ True ∧ True ∧ True ∧ 3 ≤ 9 ∧ 0 < 6) [(22, (q10_ v w l r)), (23, (q10_ v w l r)), (24, (q10_ v w l r)), (25, (q10_ v w l r)), (26, (q15_ v)), (27, (q10_ v w l r)), (28, (q10_ v w l r)), (29, (q10_ v w l r)), (30, D.ptr [natD w, D.fx (WT.d l), D.fx (WT.d r), iD (↑(max (WT.ht l) (WT.ht r) + 1) : Int), iD (↑(WT.sz l + 1 + WT.sz r) : Int), natD (WT.tot l + w + WT.tot r)]), (31, natD w)] (by kernel_rfl) (by decide) ?_
  refine zX [natD w] (by exact zK1 _ (h2.le (by omega))) ?_
  refine zN [] [] [0, 1, 2, 3, 6, 17, 22, 23, 24, 25, 26, 27, 28, 29, 30, 31, 32] ((Bk.fz (vB1 u) = false ∧ true = true ∧ 3 = 3 ∧ 3 ≤ 3) ∧ Bk.fz (nB1 nd) = false ∧ true = true ∧ 1 = 1 ∧ 1 ≤ 1) [] [(3, Bk.mk [iD (Va.kind v), iD (Va.int v), (q2_ v)] (64 : TypeId) 0 false false Kd.plain), (4, Bk.mk [natD w] (44 : TypeId) 0 false false Kd.plain)] [] (by kernel_rfl) ⟨⟨(by kernel_rfl), ⟨(by kernel_rfl), (by omega)⟩⟩, ⟨(by kernel_rfl), ⟨(by kernel_rfl), (by omega)⟩⟩⟩ ?_
  refine zB (zA rfl ?_)
  refine zG [] [] ?_
  refine zW ?_
  refine zA7 (True) [q6_] (.inr rfl) (by kernel_rfl) trivial ?_
  rotate_left
 ·have hlt : i < l.sz := by omega
  rw [if_pos hlt, if_neg (by omega), if_neg (by omega), if_neg (by omega)]
  exact ⟨rfl, rfl⟩
 ·have hlt : i > l.sz := by omega
  rw [if_neg (by omega), if_pos hlt, if_pos hlt, if_neg (by omega), if_neg (by omega), show ((i : Int) - ((l.sz : Int) + 1)) = ((i - (l.sz + 1) : Nat) : Int) by omega]
  exact ⟨rfl, rfl⟩
 ·have hlt : i = l.sz := by omega
  rw [if_neg (by omega), if_neg (by omega), if_neg (by omega), if_pos hlt, if_pos hlt]
  exact ⟨rfl, rfl⟩
def WT.go : WT → Nat → Nat × Nat × (Va × Nat)
 | .nil, i => (0, i, default)
 | .node v w l r, i => if i < l.sz then ((l.go i).1 + 1, (l.go i).2) else if i > l.sz then ((r.go (i - (l.sz + 1))).1 + 1, (r.go (i - (l.sz + 1))).2) else (1, i, (v, w))
theorem WT.go_le : ∀ (t : WT) (i : Nat), (t.go i).1 ≤ t.ht
 | .nil, i => Nat.le_refl _
 | .node v w l r, i => by
  have h1 := WT.go_le l i
  have h2 := WT.go_le r (i - (l.sz + 1))
  simp only [WT.go, WT.ht]
  split
  ·simp only; omega
  ·split
   ·simp only; omega
   ·simp only; omega
set_option maxHeartbeats 1000000 in
theorem zRb (desc : Bool) (t : WT) (i : Nat) (h : t.Ok) (hi : i < t.sz) (b0 b2 : Bk) (u : Va) (nd : D) :
  Acts Tryz.prog 60 [zG9 desc t, .clo (.func 69) [] [.own 1 0, .own 3 0, .own 4 0]] [b0, iB1 i, b2, vB1 u, nB1 nd] []
   (iD (t.go i).1) [b0, iB1 (t.go i).2.1, b2, vB1 (t.go i).2.2.1, nB1 (natD (t.go i).2.2.2), tB1 desc t false] := by
 have hg := WT.go_le t i
 have hz := WT.ht_le_sz t
 have hs := h.1
 refine zJk Tw_ok mixed Tryz.func60 rfl (by intro k hk; show decide (k < 6) = true; simp at hk ⊢; omega) ?_
 focus
  refine zB (zA rfl ?_)
  refine zN [] [] [0] (True) [(2, D.own 5 0), (4, iD 0)] [] [(q13_ desc t)] (by kernel_rfl) trivial ?_
  refine zB (zA rfl ?_)
  refine zG [] [(5, iD 0)] ?_
  refine zB (zB (zA rfl ?_))
  refine zQ [] [] [2, 8, 9] (True ∧ 0 < 1) [(6, D.fx (WT.d t))] (by kernel_rfl) (by decide) ?_
  refine zE ?_
  rotate_left
 refine zTm (fun (cur : WT) (j n : Nat) (x : Va) (y : D) => [U, D.clo (Fn.func (69 : FuncId)) [] [D.own 1 0, D.own 3 0, D.own 4 0], U, U, U, iD ↑n, WT.d cur, U, U, U, U, U, U, U, U, U, U, U, U, U, U, U, U, U, U, U, U, U, U, U, U, U, U]) (fun cur (j : Nat) (n : Nat) (x : Va) (y : D) => [b0, iB1 j, b2, vB1 x, nB1 y, tB1 desc t false]) (fun cur j n x y => cur.sz) (fun (cur : WT) (j n : Nat) (x : Va) (y : D) => n + (cur.go j).1 = (t.go i).1 ∧ (cur.go j).2 = (t.go i).2 ∧ j < cur.sz ∧ cur.Ok) t i 0 u nd ?_ ?_ ?_
 ·exact ⟨by omega, rfl, hi, h⟩
 ·refine zAp [(1, 1), (5, 1), (6, 4)] (D.clo (Fn.func (69 : FuncId)) [] [D.own 1 0, D.own 3 0, D.own 4 0] = D.clo (Fn.func (69 : FuncId)) [] [D.own 1 0, D.own 3 0, D.own 4 0] ∧ iD 0 = iD (↑(0 : Nat) : Int) ∧ WT.d t = WT.d t) 6 [] (by kernel_rfl) ⟨rfl, (by kernel_rfl), rfl⟩ (by kernel_rfl) ?_ (by kernel_rfl)
  exact zSo
 rintro cur j n x y ⟨k1, k2, k3, k4⟩
 cases cur with
 | nil => simp [WT.sz] at k3
 | node v w l r =>
  obtain ⟨o1, o2, o3⟩ := k4.node
  have st := wat1_c desc v w l r j k4 k3 b0 b2 (tB1 desc t false) x y
  simp only [WT.sz] at k3
  simp only [WT.go] at k1 k2
  rw [WT.d_node]
  by_cases c1 : j < l.sz
  ·rw [if_pos c1, if_neg (by omega), if_neg (by omega), if_neg (by omega)] at st
   rw [if_pos c1] at k1 k2
   focus
    refine zB (zB (zA rfl ?_))
    refine zG [10] [(11, bD true)] ?_
    refine zAa ?_
    refine zJ (zC (zD (zE (zB (zA rfl ?_)))))
    refine zQ [] [] [11, 12, 13] (-9223372036854775808 ≤ (↑n : Int) + (1 : Int) ∧ (↑n : Int) + (1 : Int) ≤ 9223372036854775807) [(5, iD ((↑n : Int) + (1 : Int)))] (by kernel_rfl) (by omega) ?_
    refine zB (zA rfl ?_)
    refine zAi 2 [(14, D.clo (Fn.func 69) [] [D.own 1 0, D.own 3 0, D.own 4 0]), (15, (q10_ v w l r))] ?_
    refine zLq [] [] [(q10_ v w l r), D.own 1 0, D.own 3 0, D.own 4 0] [(q10_ v w l r), D.own 1 0, D.own 3 0, D.own 4 0] (by kernel_rfl) trivial (LeL.refl _) (by exact st) ?_
    refine zG [14, 15, 16] [(7, iD (-1))] ?_
    refine zE (zB (zA rfl ?_))
    refine zG [19, 20] [(18, bD true)] ?_
    refine zAa ?_
    refine zA rfl ?_
    refine zF 5 [] [] (True ∧ 0 < 5) [(6, D.fx (WT.d l)), (21, (q10_ v w l r)), (22, (q10_ v w l r)), (23, D.ptr [D.fx (WT.d l), D.fx (WT.d r), iD (↑(max (WT.ht l) (WT.ht r) + 1) : Int), iD (↑(WT.sz l + 1 + WT.sz r) : Int), natD (WT.tot l + w + WT.tot r)]), (24, D.fx (WT.d l))] (by kernel_rfl) (by decide) ?_
    refine zAb ?_ (by kernel_rfl)
    refine zL (zL (zC ?_))
    rotate_left
   refine ⟨l, j, n + 1, x, y, ⟨by simp only at k1; omega, k2, c1, o1⟩, by simp only [WT.sz]; omega, ?_⟩
   refine zAp [(1, 1), (5, 1), (6, 4)] (D.clo (Fn.func (69 : FuncId)) [] [D.own 1 0, D.own 3 0, D.own 4 0] = D.clo (Fn.func (69 : FuncId)) [] [D.own 1 0, D.own 3 0, D.own 4 0] ∧ iD ((↑n : Int) + (1 : Int)) = iD (↑(n + 1) : Int) ∧ WT.d l = WT.d l) 6 [] (by kernel_rfl) ⟨rfl, (by kernel_rfl), rfl⟩ (by kernel_rfl) ?_ (by kernel_rfl)
   all_goals exact zSo
  ·by_cases c2 : j > l.sz
   ·rw [if_neg c1, if_pos c2, if_pos c2, if_neg (by omega), if_neg (by omega)] at st
    rw [if_neg c1, if_pos c2] at k1 k2
    focus
     refine zB (zB (zA rfl ?_))
     refine zG [10] [(11, bD true)] ?_
     refine zAa ?_
     refine zJ (zC (zD (zE (zB (zA rfl ?_)))))
     refine zQ [] [] [11, 12, 13] (-9223372036854775808 ≤ (↑n : Int) + (1 : Int) ∧ (↑n : Int) + (1 : Int) ≤ 9223372036854775807) [(5, iD ((↑n : Int) + (1 : Int)))] (by kernel_rfl) (by omega) ?_
     refine zB (zA rfl ?_)
     refine zAi 2 [(14, D.clo (Fn.func 69) [] [D.own 1 0, D.own 3 0, D.own 4 0]), (15, (q10_ v w l r))] ?_
     refine zLq [] [] [(q10_ v w l r), D.own 1 0, D.own 3 0, D.own 4 0] [(q10_ v w l r), D.own 1 0, D.own 3 0, D.own 4 0] (by kernel_rfl) trivial (LeL.refl _) (by exact st) ?_
     refine zG [14, 15, 16] [(7, iD 1)] ?_
     refine zE (zB (zA rfl ?_))
     refine zG [19, 20] [(18, bD false)] ?_
     refine zS ?_
     refine zB (zA rfl ?_)
     refine zG [7, 18, 26, 27] [(25, bD true)] ?_
     refine zAa ?_
     refine zA rfl ?_
     refine zF 5 [] [] (True ∧ 0 < 4) [(6, D.fx (WT.d r)), (28, (q10_ v w l r)), (29, (q10_ v w l r)), (30, D.ptr [D.fx (WT.d r), iD (↑(max (WT.ht l) (WT.ht r) + 1) : Int), iD (↑(WT.sz l + 1 + WT.sz r) : Int), natD (WT.tot l + w + WT.tot r)]), (31, D.fx (WT.d r))] (by kernel_rfl) (by decide) ?_
     refine zAb ?_ (by kernel_rfl)
     refine zL (zL (zC ?_))
     rotate_left
    refine ⟨r, j - (l.sz + 1), n + 1, x, y, ⟨by simp only at k1; omega, k2, by omega, o2⟩, by simp only [WT.sz]; omega, ?_⟩
    refine zAp [(1, 1), (5, 1), (6, 4)] (D.clo (Fn.func (69 : FuncId)) [] [D.own 1 0, D.own 3 0, D.own 4 0] = D.clo (Fn.func (69 : FuncId)) [] [D.own 1 0, D.own 3 0, D.own 4 0] ∧ iD ((↑n : Int) + (1 : Int)) = iD (↑(n + 1) : Int) ∧ WT.d r = WT.d r) 6 [] (by kernel_rfl) ⟨rfl, (by kernel_rfl), rfl⟩ (by kernel_rfl) ?_ (by kernel_rfl)
    all_goals exact zSo
   ·rw [if_neg c1, if_neg c2, if_neg c2, if_pos (by omega), if_pos (by omega)] at st
    rw [if_neg c1, if_neg c2] at k1 k2
    simp only at k1
    focus
     refine zB (zB (zA rfl ?_))
     refine zG [10] [(11, bD true)] ?_
     refine zAa ?_
     refine zJ (zC (zD (zE (zB (zA rfl ?_)))))
     refine zQ [] [] [11, 12, 13] (-9223372036854775808 ≤ (↑n : Int) + (1 : Int) ∧ (↑n : Int) + (1 : Int) ≤ 9223372036854775807) [(5, iD ((↑n : Int) + (1 : Int)))] (by kernel_rfl) (by omega) ?_
     refine zB (zA rfl ?_)
     refine zAi 2 [(14, D.clo (Fn.func 69) [] [D.own 1 0, D.own 3 0, D.own 4 0]), (15, (q10_ v w l r))] ?_
     refine zLq [] [] [(q10_ v w l r), D.own 1 0, D.own 3 0, D.own 4 0] [(q10_ v w l r), D.own 1 0, D.own 3 0, D.own 4 0] (by kernel_rfl) trivial (LeL.refl _) (by exact st) ?_
     refine zG [14, 15, 16] [(7, iD 0)] ?_
     refine zE (zB (zA rfl ?_))
     refine zG [19, 20] [(18, bD false)] ?_
     refine zS ?_
     refine zB (zA rfl ?_)
     refine zG [7, 18, 26, 27] [(25, bD false)] ?_
     refine zS ?_
     refine zB (zA rfl ?_)
     refine zG [17, 25] [(4, iD ((↑n : Int) + (1 : Int)))] ?_
     refine zW (zAd (zAd (zR (zAd (zR ?_)))))
     refine zA7 (True) [D.val (Value.int IntKind.i64 ((↑n : Int) + (1 : Int)))] (.inr rfl) (by kernel_rfl) trivial ?_
     rotate_left
    rw [← k1, ← k2]
    exact ⟨rfl, rfl⟩
abbrev q19_ := Bk.mk [iD 0, iD 0, q16_] 64 0 false false Kd.plain
set_option maxHeartbeats 1000000 in
theorem wat_c (desc : Bool) (t : WT) (i : Nat) (h : t.Ok) (hi : i < t.sz) : Pure Tryz.prog 29 [zG9 desc t, iD i] [] (.tup [vaD (t.go i).2.2.1, natD (t.go i).2.2.2, bD true]) := by
 have hs := h.1
 have hw := zRb desc t i h hi (tB1 desc t false) (vB1 ⟨0, 0, []⟩) ⟨0, 0, []⟩ nl
 refine zP Tw_ok mixed Tryz.func29 rfl ?_
 focus
  refine zB (zA rfl ?_)
  refine zN [] [] [0, 1] (True) [(2, D.own 0 0), (3, D.own 1 0), (4, D.own 2 0), (5, nl), (6, bD false)] [] [(q13_ desc t), Bk.mk [iD ↑i] 3 0 false false Kd.plain, q19_] (by kernel_rfl) trivial ?_
  refine zB (zB ?_)
  refine zT [0, 1, 2, 3, 4, 5, 6, 7] (by kernel_rfl) rfl ?_
  refine zF 5 [] [(2, false)] (0 < 1 ∧ decide ((↑i : Int) < 0) = false ∧ 0 < 1 ∧ 2 ≤ 2) [(9, iD ↑i), (10, bD (decide ((↑i : Int) < 0))), (11, bD false), (12, iD ↑i), (13, (q14_ desc t))] (by kernel_rfl) ⟨(by omega), (by kernel_rfl), (by omega), (by omega)⟩ ?_
  refine zX [(q14_ desc t)] (by exact zDi desc t) ?_
  refine zG [9, 10, 11, 12, 13, 14, 15] [(16, bD (decide ((↑i : Int) ≥ (↑(WT.sz t) : Int))))] ?_
  refine zBc (t := decide ((↑i : Int) ≥ (↑(WT.sz t) : Int))) (by kernel_rfl) (by exact decide_eq_false (by omega)) ?_
  refine zJ (zC (zD (zB (zA rfl ?_))))
  refine zN [] [] [16] (True) [(7, D.own 3 0)] [] [q19_] (by kernel_rfl) trivial ?_
  refine zB (zA rfl ?_)
  refine zN [] [] [] (True) [(8, D.own 4 0)] [] [Bk.mk [nl] 44 0 false false Kd.plain] (by kernel_rfl) trivial ?_
  refine zB (zA rfl ?_)
  refine zF 2 [] [] (2 ≤ 2) [(18, (q14_ desc t)), (19, D.clo (Fn.func 69) [] [D.own 1 0, D.own 3 0, D.own 4 0])] (by kernel_rfl) (by omega) ?_
  refine zLq [] [] [(q14_ desc t), D.clo (Fn.func 69) [] [D.own 1 0, D.own 3 0, D.own 4 0]] [(q14_ desc t), D.clo (Fn.func 69) [] [D.own 1 0, D.own 3 0, D.own 4 0]] (by kernel_rfl) trivial (LeL.refl _) (by exact hw) ?_
  refine zG [2, 3, 18, 19, 20] [] ?_
  refine zB ?_
  refine zBj [0, 1] [(2, [(1, 100000)], [3, 4])] (by kernel_rfl) rfl ?_
  refine zF 2 [] [] (3 ≤ 3 ∧ 0 < 1) [(21, D.agg [iD (Va.kind (Prod.fst (Prod.snd (Prod.snd (WT.go t i))))), iD (Va.int (Prod.fst (Prod.snd (Prod.snd (WT.go t i))))), D.val (Value.string (bs (Va.str (Prod.fst (Prod.snd (Prod.snd (WT.go t i)))))))]), (22, natD (Prod.snd (Prod.snd (Prod.snd (WT.go t i)))))] (by kernel_rfl) (by omega) ?_
  refine zAb ?_ (by kernel_rfl)
  refine zDc rfl rfl (by kernel_rfl) ?_
  refine zAg 1 [] [] (false = false ∧ true = true ∧ 3 = 3 ∧ 3 ≤ 3) [] [(2, Bk.mk [iD (Va.kind (Prod.fst (Prod.snd (Prod.snd (WT.go t i))))), iD (Va.int (Prod.fst (Prod.snd (Prod.snd (WT.go t i))))), D.val (Value.string (bs (Va.str (Prod.fst (Prod.snd (Prod.snd (WT.go t i)))))))] 64 0 false false Kd.plain)] [] (by kernel_rfl) (by decide) ?_
  refine zAb ?_ (by kernel_rfl)
  refine zDw (C := 0 < 1 ∧ [U, U, U, U, D.own 2 0, nl, bD false, D.own 3 0, D.own 4 0, U, U, U, U, U, U, U, U, U, U, U, U, D.agg [iD (Va.kind (Prod.fst (Prod.snd (Prod.snd (WT.go t i))))), iD (Va.int (Prod.fst (Prod.snd (Prod.snd (WT.go t i))))), D.val (Value.string (bs (Va.str (Prod.fst (Prod.snd (Prod.snd (WT.go t i)))))))], natD (Prod.snd (Prod.snd (Prod.snd (WT.go t i))))][22]? = some (List.headD [natD (Prod.snd (Prod.snd (Prod.snd (WT.go t i))))] U)) (by kernel_rfl) ⟨(by omega), (by kernel_rfl)⟩ (by kernel_rfl) ?_
  refine zAi 2 [(5, natD (Prod.snd (Prod.snd (Prod.snd (WT.go t i))))), (6, bD true)] ?_
  refine zAb ?_ (by kernel_rfl)
  refine zCn ?_
  refine zC (zD (zW ?_))
  refine zZ (3 ≤ 3) (D.tup [D.agg [iD (Va.kind (Prod.fst (Prod.snd (Prod.snd (WT.go t i))))), iD (Va.int (Prod.fst (Prod.snd (Prod.snd (WT.go t i))))), D.val (Value.string (bs (Va.str (Prod.fst (Prod.snd (Prod.snd (WT.go t i)))))))], natD (Prod.snd (Prod.snd (Prod.snd (WT.go t i)))), bD true]) (D.tup [D.agg [D.val (Value.int IntKind.i64 (Va.kind (Prod.fst (Prod.snd (Prod.snd (WT.go t i)))))), D.val (Value.int IntKind.i64 (Va.int (Prod.fst (Prod.snd (Prod.snd (WT.go t i)))))), D.val (Value.string (bs (Va.str (Prod.fst (Prod.snd (Prod.snd (WT.go t i)))))))], natD (Prod.snd (Prod.snd (Prod.snd (WT.go t i)))), D.val (Value.bool true)]) (.inr rfl) (by kernel_rfl) (by omega) rfl rfl
end
section
open Go.RowKit
section
variable {α : Type} {g : α → List D} {c : Nat}
theorem zSz (hg : ∀ a, (g a).length = c) (l : List α) : (l.flatMap g).length = l.length * c := by
 induction l with
 | nil => simp
 | cons a l ih => simp only [List.flatMap_cons, List.length_append, ih, hg, List.length_cons, Nat.succ_mul]; omega
theorem fl_drop (hg : ∀ a, (g a).length = c) (l : List α) (i : Nat) : (l.flatMap g).drop (i * c) = (l.drop i).flatMap g := by
 induction l generalizing i with
 | nil => simp
 | cons a l ih =>
  cases i with
  | zero => simp
  | succ i =>
   rw [List.flatMap_cons, Nat.succ_mul, Nat.add_comm, ← List.drop_drop, List.drop_succ_cons]
   rw [show (g a ++ l.flatMap g).drop c = l.flatMap g by rw [← hg a, List.drop_left], ih]
theorem fl_at [Inhabited α] (hg : ∀ a, (g a).length = c) (l : List α) (i : Nat) (h : i < l.length) : (l.flatMap g).drop (i * c) = g (l.getD i default) ++ (l.drop (i + 1)).flatMap g := by
 rw [fl_drop hg, List.drop_eq_getElem_cons h, List.flatMap_cons, List.getD_eq_getElem?_getD, List.getElem?_eq_getElem h]; rfl
theorem fl_get [Inhabited α] (hg : ∀ a, (g a).length = c) (l : List α) (i : Nat) (h : i < l.length) : ((l.flatMap g).drop (i * c)).take c = g (l.getD i default) := by
 rw [fl_at hg l i h, List.take_append_of_le_length (by rw [hg]; omega), List.take_of_length_le (by rw [hg]; omega)]
theorem fl_ne (hg : ∀ a, (g a).length = c) (hc : 0 < c) (l : List α) (h : 0 < l.length) : l.flatMap g ≠ [] := fun e => by
 have := zSz hg l
 rw [e] at this
 have h2 : 0 < l.length * c := Nat.mul_pos h hc
 simp only [List.length_nil] at this; omega
theorem fl_le [Inhabited α] (hg : ∀ a, (g a).length = c) (l : List α) (i : Nat) (h : i < l.length) : c ≤ ((l.flatMap g).drop (i * c)).length := by
 rw [fl_at hg l i h, List.length_append, hg]; omega
theorem zWo (l : List α) (a : α) : l.flatMap g ++ g a = (l ++ [a]).flatMap g := by simp
theorem fl_all (hg : ∀ a, (g a).length = c) (l : List α) (n : Nat) (h : l.length = n) : (l.flatMap g).take (n * c) = l.flatMap g := List.take_of_length_le (by rw [zSz hg]; subst h; omega)
theorem zRj [Inhabited α] (l : List α) (i : Nat) (h : i < l.length) : l.take (i + 1) = l.take i ++ [l.getD i default] := by
 rw [List.take_succ_eq_append_getElem h, List.getD_eq_getElem?_getD, List.getElem?_eq_getElem h]; rfl
end
end
section
open Go.RowKit
attribute [local irreducible] seqW awp zA3 zCo zBd Weak updS zB0 retL Pure Acts
set_option maxRecDepth 4096
structure Bu where
 key : List Va
 desc : Bool
 t : WT
instance : Inhabited WT := ⟨.nil⟩
instance : Inhabited Bu := ⟨⟨[], false, .nil⟩⟩
abbrev buC (b : Bu) : List D := [.row (zM b.key) b.key.length, bD b.desc, b.t.x]
theorem zJd (b : Bu) : (buC b).length = 3 := rfl
abbrev buB (l : List Bu) : Bk := ⟨l.flatMap buC, 91, 3, true, false, .plain⟩
set_option maxHeartbeats 2000000 in
theorem zLa (l : List Bu) (n : Nat) (hn : l.length = n) (hl : n ≤ 1000000) (hk : ∀ b ∈ l, b.key.length ≤ 10000) : Pure Tryz.prog 74 [.row (l.flatMap buC) n] [] (.row (l.flatMap buC) n) := by
 subst hn
 refine zP zAo mixed Tryz.func74 rfl ?_
 focus
  refine zB (zA rfl ?_)
  refine zG [] [(2, nl)] ?_
  refine zB (zA rfl ?_)
  refine zG [] [(3, nl)] ?_
  refine zB (zB (zA rfl ?_))
  refine zG [0] [(6, D.row (List.flatMap buC l) (List.length l)), (7, iD (↑(List.length l) : Int)), (8, iD 0)] ?_
  refine zE ?_
  rotate_left
 refine zC0 (fun (i : Nat) => [U, U, nl, D.osl 0 0 i (i * 3) true, U, U, D.row (List.flatMap buC l) (List.length l), iD (↑(List.length l) : Int), iD ↑i, U, U, U, U, U, U, U, U, U, U, U, U, U, U]) (fun i => [buB (l.take i)]) (fun i => l.length - i) (fun i => i ≤ l.length) 0 ?_ ?_ ?_
 ·omega
 ·refine zAp [(2, 1), (3, 2), (6, 1), (7, 1), (8, 1)] (nl = nl ∧ D.row (List.flatMap buC l) (List.length l) = D.row (List.flatMap buC l) (List.length l) ∧ iD (↑(List.length l) : Int) = iD (↑(List.length l) : Int) ∧ iD 0 = iD (↑(0 : Nat) : Int)) 0 [buB (List.take 0 l)] (by kernel_rfl) ⟨rfl, rfl, rfl, (by kernel_rfl)⟩ (by kernel_rfl) (fun _ _ => rfl) (by kernel_rfl)
 rintro i h1
 rcases Nat.lt_or_ge i l.length with hi | hi
 ·have e1 := zRj l i hi
  have hb : (l.getD i default).key.length ≤ 10000 := by rw [List.getD_eq_getElem?_getD, List.getElem?_eq_getElem hi]; exact hk _ (List.getElem_mem _)
  have e0 := fl_get zJd l i hi
  obtain ⟨b, eb⟩ : ∃ b, b = l.getD i default := ⟨_, rfl⟩
  rw [← eb] at e1 hb e0
  have e2 := zWo (g := buC) (l.take i) b
  have e3 := zSz zJd (l.take i)
  have e4 : (l.take i).length = i := by simp; omega
  have e5 := zGf b.key
  rw [e4] at e3
  focus
   refine zB (zA rfl ?_)
   refine zG [] [(9, bD (decide ((↑i : Int) < (↑(List.length l) : Int))))] ?_
   refine zB ?_
   refine zCk (t := decide ((↑i : Int) < (↑(List.length l) : Int))) (by kernel_rfl) (by exact decide_eq_true (by omega)) ?_
   refine zJ (zC (zD (zB (zE (zB (zA rfl ?_))))))
   refine zF 2 [] [] (((0 : Int) ≤ (↑i : Int) ∧ (↑i : Int) < (↑(List.length l) : Int) ∧ List.flatMap buC l ≠ []) ∧ 3 ≤ List.length (List.drop (i * 3) (List.flatMap buC l))) [(10, D.ptr (List.drop (i * 3) (List.flatMap buC l))), (11, D.agg (List.take 3 (List.drop (i * 3) (List.flatMap buC l))))] (by kernel_rfl) ⟨⟨(by omega), ⟨(by omega), (by exact fl_ne zJd (by decide) _ (by omega))⟩⟩, (by exact fl_le zJd _ _ (by omega))⟩ ?_
   refine zY 11 (D.agg (List.take 3 (List.drop (i * 3) (List.flatMap buC l)))) (D.agg (buC b)) (by kernel_rfl) (by simp (disch := omega) only [e0]) (by kernel_rfl) ?_
   refine zN [] [] [9, 10, 11] (false = false ∧ true = true ∧ 3 = 3 ∧ 3 ≤ 3) [(5, D.own 1 0)] [] [Bk.mk [D.row (zM (Bu.key b)) (List.length (Bu.key b)), bD (Bu.desc b), D.fx (WT.d (Bu.t b))] 91 0 false false Kd.plain] (by kernel_rfl) (by decide) ?_
   refine zT [0, 1, 4, 2, 3, 5, 6, 7, 8, 9] (by kernel_rfl) rfl ?_
   refine zF 4 [] [] (True ∧ True ∧ 0 < 3) [(12, D.osl 0 0 i (i * 3) true), (13, D.own 1 0), (14, D.row (zM (Bu.key b)) (List.length (Bu.key b))), (16, D.own 1 1)] (by kernel_rfl) (by decide) ?_
   refine zX [D.row (zM (Bu.key b)) (List.length (Bu.key b))] (by exact zS8 (zM b.key) _ e5 (by omega)) ?_
   refine zAg 4 [] [] (2 ≤ 2 ∧ ((1 = 1 ∧ 1 ≤ 3 ∧ 2 = 2 ∧ 3 ≤ 3 ∧ True) ∧ true = true) ∧ ((3 = 3 ∧ 3 ≤ 3 ∧ True) ∧ 0 < 3 ∧ 3 = 3 ∧ 3 ≤ 16777216 ∧ 1 ≤ 9223372036854775807) ∧ Bk.arr (buB (List.take i l)) = true ∧ List.length (Bk.cells (buB (List.take i l))) = i * 3 ∧ i * 3 = i * 3 ∧ Bk.ty (buB (List.take i l)) = 91 ∧ Bk.sz (buB (List.take i l)) = 3 ∧ 3 = 3 ∧ 0 < 3 ∧ 0 < 40 ∧ 91 = 91 ∧ (i + 1) * 40 ≤ 140737488355328 ∧ 3 = 3 ∧ Kd.isMap (Bk.kd (buB (List.take i l))) = false ∧ (false = false ∨ Kd.isSh (Bk.kd (buB (List.take i l))) = true)) [(3, U), (12, U), (17, D.agg [bD (Bu.desc b), D.fx (WT.d (Bu.t b))]), (18, D.agg [D.row (zM (Bu.key b)) (List.length (Bu.key b)), bD (Bu.desc b), D.fx (WT.d (Bu.t b))]), (19, D.osl 2 0 1 3 true), (20, D.osl 0 0 (i + 1) ((i + 1) * 3) true)] [(0, Bk.mk (Bk.cells (buB (List.take i l)) ++ [D.row (zM (Bu.key b)) (List.length (Bu.key b)), bD (Bu.desc b), D.fx (WT.d (Bu.t b))]) (Bk.ty (buB (List.take i l))) (Bk.sz (buB (List.take i l))) (Bk.arr (buB (List.take i l))) (Bk.fz (buB (List.take i l))) (Bk.kd (buB (List.take i l))))] [Bk.mk [D.row (zM (Bu.key b)) (List.length (Bu.key b)), bD (Bu.desc b), D.fx (WT.d (Bu.t b))] 91 3 true false Kd.plain] (by kernel_rfl) ⟨(by omega), ⟨⟨(by kernel_rfl), ⟨(by omega), ⟨(by kernel_rfl), ⟨(by omega), trivial⟩⟩⟩⟩, (by kernel_rfl)⟩, ⟨⟨(by kernel_rfl), ⟨(by omega), trivial⟩⟩, (by omega)⟩, ⟨(by kernel_rfl), ⟨(by omega), ⟨(by kernel_rfl), ⟨(by kernel_rfl), ⟨(by kernel_rfl), ⟨(by kernel_rfl), ⟨(by omega), ⟨(by omega), ⟨(by kernel_rfl), ⟨(by omega), ⟨(by kernel_rfl), ⟨(by kernel_rfl), (by simp)⟩⟩⟩⟩⟩⟩⟩⟩⟩⟩⟩⟩⟩ ?_
   refine zBn 0 (Bk.mk (Bk.cells (buB (List.take i l)) ++ [D.row (zM (Bu.key b)) (List.length (Bu.key b)), bD (Bu.desc b), D.fx (WT.d (Bu.t b))]) (Bk.ty (buB (List.take i l))) (Bk.sz (buB (List.take i l))) (Bk.arr (buB (List.take i l))) (Bk.fz (buB (List.take i l))) (Bk.kd (buB (List.take i l)))) (Bk.mk (List.flatMap buC (List.take i l ++ [b])) (91 : TypeId) 3 true false Kd.plain) (by kernel_rfl) (by simp (disch := omega) only [zWo]) ?_
   refine zAi 1 [(3, D.osl 0 0 (i + 1) ((i + 1) * 3) true)] ?_
   refine zAb ?_ (by kernel_rfl)
   refine zL (zC (zD (zA rfl ?_)))
   refine zF 1 [] [] (-9223372036854775808 ≤ (↑i : Int) + (1 : Int) ∧ (↑i : Int) + (1 : Int) ≤ 9223372036854775807) [(21, iD ((↑i : Int) + (1 : Int)))] (by kernel_rfl) (by omega) ?_
   refine zY 21 (iD ((↑i : Int) + (1 : Int))) (iD (↑(i + 1) : Int)) (by kernel_rfl) (by simp (disch := omega) only [zBh]) (by kernel_rfl) ?_
   refine zAi 1 [(8, iD (↑(i + 1) : Int))] ?_
   refine zAb ?_ (by kernel_rfl)
   refine zC ?_
   rotate_left
  refine ⟨i + 1, by omega, by omega, ?_⟩
  rw [e1]
  refine zAp [(2, 1), (3, 1), (6, 1), (7, 1), (8, 1)] (nl = nl ∧ D.osl 0 0 (i + 1) ((i + 1) * 3) true = D.osl 0 0 (i + 1) ((i + 1) * 3) true ∧ D.row (List.flatMap buC l) (List.length l) = D.row (List.flatMap buC l) (List.length l) ∧ iD (↑(List.length l) : Int) = iD (↑(List.length l) : Int) ∧ iD (↑(i + 1) : Int) = iD (↑(i + 1) : Int)) 1 [] (by kernel_rfl) ⟨rfl, rfl, rfl, rfl, rfl⟩ (by kernel_rfl) (fun _ _ => rfl) (by kernel_rfl)
 ·have e : i = l.length := by omega
  subst e
  rw [List.take_length]
  focus
   refine zB (zA rfl ?_)
   refine zG [] [(9, bD (decide ((↑(List.length l) : Int) < (↑(List.length l) : Int))))] ?_
   refine zB ?_
   refine zBc (t := decide ((↑(List.length l) : Int) < (↑(List.length l) : Int))) (by kernel_rfl) (by exact decide_eq_false (by omega)) ?_
   refine zAc (zK (zK (zV rfl (zC (zD (zB (zA rfl ?_)))))))
   refine zG [3, 6, 7, 8, 9, 22] [(2, D.osl 0 0 (List.length l) (List.length l * 3) true)] ?_
   refine zW ?_
   refine zZ (True) (D.row (List.take (List.length l * 3) (List.drop 0 (Bk.cells (buB l)))) (List.length l)) (D.row (List.flatMap buC l) (List.length l)) (.inr rfl) (by kernel_rfl) trivial (by simp (disch := omega) only [List.drop_zero, fl_all zJd]) rfl
structure Bg where
 var : Int
 key : Nat
 par : Int
instance : Inhabited Bg := ⟨⟨0, 0, 0⟩⟩
theorem free_c (desc : List Bool) (n : Nat) (hn : desc.length = n) (b c p : List D) (bn cn pn : Nat) (tot : Nat) (v : Int) (hl : n ≤ 1000000) : Pure Tryz.prog 58 [.agg [.row (desc.map bD) n, .row b bn, .row c cn, .row p pn, natD tot], iD v] [] (bD (decide (0 ≤ v) && decide (v < (n : Int)))) := by
 subst hn
 refine zP zAo mixed Tryz.func58 rfl ?_
 by_cases h0 : 0 ≤ v
 ·rw [decide_eq_true h0]
  focus
   refine zB (zA rfl ?_)
   refine zN [] [] [0] (True) [(2, D.own 0 0), (4, bD false)] [] [Bk.mk [D.row (List.map bD desc) (List.length desc), D.row b bn, D.row c cn, D.row p pn, natD tot] 46 0 false false Kd.plain] (by kernel_rfl) trivial ?_
   refine zB (zA rfl ?_)
   refine zQ [] [(2, true)] [1, 2, 5, 6, 7, 8, 9, 10, 11, 12, 13] (decide (v ≥ (0 : Int)) = true ∧ True ∧ 0 < 5) [(4, bD (decide (v < (↑(List.length desc) : Int))))] (by kernel_rfl) ⟨(by exact decide_eq_true (by omega)), trivial, (by omega)⟩ ?_
   refine zW ?_
   refine zZ (True) (bD (decide (v < (↑(List.length desc) : Int)))) (D.val (Value.bool (decide (v < (↑(List.length desc) : Int))))) (.inr rfl) (by kernel_rfl) trivial rfl (by simp)
 ·rw [decide_eq_false h0]
  focus
   refine zB (zA rfl ?_)
   refine zN [] [] [0] (True) [(2, D.own 0 0), (4, bD false)] [] [Bk.mk [D.row (List.map bD desc) (List.length desc), D.row b bn, D.row c cn, D.row p pn, natD tot] 46 0 false false Kd.plain] (by kernel_rfl) trivial ?_
   refine zB (zA rfl ?_)
   refine zQ [] [(2, false)] [1, 2, 5, 6, 7, 8, 9, 10, 11, 12, 13] (decide (v ≥ (0 : Int)) = false) [] (by kernel_rfl) (by exact decide_eq_false (by omega)) ?_
   refine zW ?_
   refine zZ (True) (bD false) (D.val (Value.bool false)) (.inr rfl) (by kernel_rfl) trivial rfl (by simp)
abbrev q20_ := D.val (Value.int IntKind.u32 0)
abbrev q21_ := D.val (Value.int IntKind.u8 (↑(0 : Nat) : Int))
abbrev q22_ := D.val (Value.int IntKind.u32 (IntKind.wrap IntKind.u32 (↑(0 : Nat) : Int)))
theorem zB3 : Pure Tryz.prog 119 [.val (.int .u32 0)] [] (iD 0) := by
 refine zP zAo mixed Tryz.func119 rfl ?_
 focus
  refine zB (zA rfl ?_)
  refine zG [] [(2, iD 0)] ?_
  refine zB ?_
  refine zT [0, 1, 2, 3, 4, 5, 6, 7, 8, 9, 10, 11, 12, 13, 14, 15, 16, 17, 18] (by kernel_rfl) rfl ?_
  refine zF 6 [] [] ((0 : Int) ≤ (24 : Int) ∧ ((0 : Int) ≤ Int.fdiv (0 : Int) ((2 : Int) ^ 24) ∧ Int.fdiv (0 : Int) ((2 : Int) ^ 24) < (↑(256 : Nat) : Int)) ∧ (0 : Int) ≤ (16 : Int) ∧ True) [(3, q20_), (4, D.val (Value.int IntKind.u32 (Int.fdiv (0 : Int) ((2 : Int) ^ 24)))), (5, q21_), (6, q20_), (7, D.val (Value.int IntKind.u32 (Int.fdiv (0 : Int) ((2 : Int) ^ 16)))), (8, q22_)] (by kernel_rfl) ⟨(by omega), ⟨(by decide), (by decide)⟩, (by omega), trivial⟩ ?_
  refine zY 8 (D.val (Value.int IntKind.u32 (IntKind.wrap IntKind.u32 (↑(0 : Nat) : Int)))) (dig (0 : Nat)) (by kernel_rfl) (by simp (disch := omega) only [zBm]) (by kernel_rfl) ?_
  refine zF 5 [] [] (((0 : Int) ≤ (↑(0 : Nat) : Int) ∧ (↑(0 : Nat) : Int) < (↑(256 : Nat) : Int)) ∧ ((0 : Int) ≤ (↑(0 : Nat) : Int) + (↑(0 : Nat) : Int) ∧ (↑(0 : Nat) : Int) + (↑(0 : Nat) : Int) ≤ (255 : Int)) ∧ (0 : Int) ≤ (8 : Int) ∧ True) [(9, q21_), (10, D.val (Value.int IntKind.u8 ((↑(0 : Nat) : Int) + (↑(0 : Nat) : Int)))), (11, q20_), (12, D.val (Value.int IntKind.u32 (Int.fdiv (0 : Int) ((2 : Int) ^ 8)))), (13, q22_)] (by kernel_rfl) ⟨(by omega), (by omega), (by omega), trivial⟩ ?_
  refine zY 13 (D.val (Value.int IntKind.u32 (IntKind.wrap IntKind.u32 (↑(0 : Nat) : Int)))) (dig (0 : Nat)) (by kernel_rfl) (by simp (disch := omega) only [zBm]) (by kernel_rfl) ?_
  refine zF 4 [] [] (((0 : Int) ≤ (↑(0 : Nat) : Int) ∧ (↑(0 : Nat) : Int) < (↑(256 : Nat) : Int)) ∧ ((0 : Int) ≤ (↑(0 : Nat) : Int) + (↑(0 : Nat) : Int) + (↑(0 : Nat) : Int) ∧ (↑(0 : Nat) : Int) + (↑(0 : Nat) : Int) + (↑(0 : Nat) : Int) ≤ (255 : Int)) ∧ True) [(14, q21_), (15, D.val (Value.int IntKind.u8 ((↑(0 : Nat) : Int) + (↑(0 : Nat) : Int) + (↑(0 : Nat) : Int)))), (16, q20_), (17, q22_)] (by kernel_rfl) ⟨(by omega), (by omega), trivial⟩ ?_
  refine zY 17 (D.val (Value.int IntKind.u32 (IntKind.wrap IntKind.u32 (↑(0 : Nat) : Int)))) (dig (0 : Nat)) (by kernel_rfl) (by simp (disch := omega) only [zBm]) (by kernel_rfl) ?_
  refine zQ [] [] [0, 3, 4, 5, 6, 7, 8, 9, 10, 11, 12, 13, 14, 15, 16, 17, 18, 19, 20] (((0 : Int) ≤ (↑(0 : Nat) : Int) ∧ (↑(0 : Nat) : Int) < (↑(256 : Nat) : Int)) ∧ ((0 : Int) ≤ (↑(0 : Nat) : Int) + (↑(0 : Nat) : Int) + (↑(0 : Nat) : Int) + (↑(0 : Nat) : Int) ∧ (↑(0 : Nat) : Int) + (↑(0 : Nat) : Int) + (↑(0 : Nat) : Int) + (↑(0 : Nat) : Int) ≤ (255 : Int)) ∧ -9223372036854775808 ≤ (↑(0 : Nat) : Int) + (↑(0 : Nat) : Int) + (↑(0 : Nat) : Int) + (↑(0 : Nat) : Int) ∧ (↑(0 : Nat) : Int) + (↑(0 : Nat) : Int) + (↑(0 : Nat) : Int) + (↑(0 : Nat) : Int) ≤ 9223372036854775807) [(2, iD ((↑(0 : Nat) : Int) + (↑(0 : Nat) : Int) + (↑(0 : Nat) : Int) + (↑(0 : Nat) : Int)))] (by kernel_rfl) (by omega) ?_
  refine zW ?_
  refine zZ (True) (iD ((↑(0 : Nat) : Int) + (↑(0 : Nat) : Int) + (↑(0 : Nat) : Int) + (↑(0 : Nat) : Int))) (D.val (Value.int IntKind.i64 ((↑(0 : Nat) : Int) + (↑(0 : Nat) : Int) + (↑(0 : Nat) : Int) + (↑(0 : Nat) : Int)))) (.inr rfl) (by kernel_rfl) trivial rfl (by simp)
abbrev q23_ := D.val (Value.int IntKind.u32 1)
abbrev q24_ := D.val (Value.int IntKind.u32 (IntKind.wrap IntKind.u32 (↑(1 : Nat) : Int)))
theorem zHm : Pure Tryz.prog 119 [.val (.int .u32 1)] [] (iD 1) := by
 refine zP zAo mixed Tryz.func119 rfl ?_
 focus
  refine zB (zA rfl ?_)
  refine zG [] [(2, iD 0)] ?_
  refine zB ?_
  refine zT [0, 1, 2, 3, 4, 5, 6, 7, 8, 9, 10, 11, 12, 13, 14, 15, 16, 17, 18] (by kernel_rfl) rfl ?_
  refine zF 6 [] [] ((0 : Int) ≤ (24 : Int) ∧ ((0 : Int) ≤ Int.fdiv (1 : Int) ((2 : Int) ^ 24) ∧ Int.fdiv (1 : Int) ((2 : Int) ^ 24) < (↑(256 : Nat) : Int)) ∧ (0 : Int) ≤ (16 : Int) ∧ True) [(3, q23_), (4, D.val (Value.int IntKind.u32 (Int.fdiv (1 : Int) ((2 : Int) ^ 24)))), (5, q21_), (6, q23_), (7, D.val (Value.int IntKind.u32 (Int.fdiv (1 : Int) ((2 : Int) ^ 16)))), (8, q22_)] (by kernel_rfl) ⟨(by omega), ⟨(by decide), (by decide)⟩, (by omega), trivial⟩ ?_
  refine zY 8 (D.val (Value.int IntKind.u32 (IntKind.wrap IntKind.u32 (↑(0 : Nat) : Int)))) (dig (0 : Nat)) (by kernel_rfl) (by simp (disch := omega) only [zBm]) (by kernel_rfl) ?_
  refine zF 5 [] [] (((0 : Int) ≤ (↑(0 : Nat) : Int) ∧ (↑(0 : Nat) : Int) < (↑(256 : Nat) : Int)) ∧ ((0 : Int) ≤ (↑(0 : Nat) : Int) + (↑(0 : Nat) : Int) ∧ (↑(0 : Nat) : Int) + (↑(0 : Nat) : Int) ≤ (255 : Int)) ∧ (0 : Int) ≤ (8 : Int) ∧ True) [(9, q21_), (10, D.val (Value.int IntKind.u8 ((↑(0 : Nat) : Int) + (↑(0 : Nat) : Int)))), (11, q23_), (12, D.val (Value.int IntKind.u32 (Int.fdiv (1 : Int) ((2 : Int) ^ 8)))), (13, q22_)] (by kernel_rfl) ⟨(by omega), (by omega), (by omega), trivial⟩ ?_
  refine zY 13 (D.val (Value.int IntKind.u32 (IntKind.wrap IntKind.u32 (↑(0 : Nat) : Int)))) (dig (0 : Nat)) (by kernel_rfl) (by simp (disch := omega) only [zBm]) (by kernel_rfl) ?_
  refine zF 4 [] [] (((0 : Int) ≤ (↑(0 : Nat) : Int) ∧ (↑(0 : Nat) : Int) < (↑(256 : Nat) : Int)) ∧ ((0 : Int) ≤ (↑(0 : Nat) : Int) + (↑(0 : Nat) : Int) + (↑(0 : Nat) : Int) ∧ (↑(0 : Nat) : Int) + (↑(0 : Nat) : Int) + (↑(0 : Nat) : Int) ≤ (255 : Int)) ∧ True) [(14, q21_), (15, D.val (Value.int IntKind.u8 ((↑(0 : Nat) : Int) + (↑(0 : Nat) : Int) + (↑(0 : Nat) : Int)))), (16, q23_), (17, q24_)] (by kernel_rfl) ⟨(by omega), (by omega), trivial⟩ ?_
  refine zY 17 (D.val (Value.int IntKind.u32 (IntKind.wrap IntKind.u32 (↑(1 : Nat) : Int)))) (dig (1 : Nat)) (by kernel_rfl) (by simp (disch := omega) only [zBm]) (by kernel_rfl) ?_
  refine zQ [] [] [0, 3, 4, 5, 6, 7, 8, 9, 10, 11, 12, 13, 14, 15, 16, 17, 18, 19, 20] (((0 : Int) ≤ (↑(1 : Nat) : Int) ∧ (↑(1 : Nat) : Int) < (↑(256 : Nat) : Int)) ∧ ((0 : Int) ≤ (↑(0 : Nat) : Int) + (↑(0 : Nat) : Int) + (↑(0 : Nat) : Int) + (↑(1 : Nat) : Int) ∧ (↑(0 : Nat) : Int) + (↑(0 : Nat) : Int) + (↑(0 : Nat) : Int) + (↑(1 : Nat) : Int) ≤ (255 : Int)) ∧ -9223372036854775808 ≤ (↑(0 : Nat) : Int) + (↑(0 : Nat) : Int) + (↑(0 : Nat) : Int) + (↑(1 : Nat) : Int) ∧ (↑(0 : Nat) : Int) + (↑(0 : Nat) : Int) + (↑(0 : Nat) : Int) + (↑(1 : Nat) : Int) ≤ 9223372036854775807) [(2, iD ((↑(0 : Nat) : Int) + (↑(0 : Nat) : Int) + (↑(0 : Nat) : Int) + (↑(1 : Nat) : Int)))] (by kernel_rfl) (by omega) ?_
  refine zW ?_
  refine zZ (True) (iD ((↑(0 : Nat) : Int) + (↑(0 : Nat) : Int) + (↑(0 : Nat) : Int) + (↑(1 : Nat) : Int))) (D.val (Value.int IntKind.i64 ((↑(0 : Nat) : Int) + (↑(0 : Nat) : Int) + (↑(0 : Nat) : Int) + (↑(1 : Nat) : Int)))) (.inr rfl) (by kernel_rfl) trivial rfl (by simp)
theorem zAw (n : Nat) (hn : n < 4294967296) : Pure Tryz.prog 56 [.val (.int .u32 n)] [] (iD (Lib.bitLen n : Nat)) :=
 zD0 (us := [.int .u32 n]) (fun w => (Tryz.bits_Len32 n w (by omega) (by omega)).mono fun e w' h => ⟨by rw [h.1]; simp, h.2.symm⟩)
end
end Go.Proofs.YtjcofbkhoeockaaGreatDoor

/- Texts of this claim, joined: Dky FqP FbP FmP FkP FoP Wf Sg Sh FsP FuP Dfs FlP Dkf Dk Dso Dsu -/
import Derived.Test.YtmfamhoopjeaiaaDoorK04
import Derived.Lib.ItoaLen
import Derived.Test.YtmfamhoopjeaiaaDoorShelf
import Derived.Test.YtmfamhoopjeaiaaDoorShelfS
import Derived.Lib.RowBridge
import Derived.Lib.QuietBelow
import Derived.Sort.AssemblyPlain
set_option linter.unusedVariables false
set_option linter.unusedSimpArgs false
namespace Go.Proofs.YtmfamhoopjeaiaaDoor
section
open Go.RowKit
attribute [local irreducible] seqW awp zAf zAo zAg Weak updS zAw retL Pure Acts rP setP setQ cP nP fr
set_option maxRecDepth 4096
def idV (v : Va) : List UInt8 := Lib.itoa v.kind ++ [32] ++ Lib.itoa v.int ++ [32] ++ Lib.itoa (v.str.length : Nat) ++ [32] ++ v.str
def idR (r : List Va) : List UInt8 := r.flatMap idV
def Vs (v : Va) : Prop := (-9223372036854775808 ≤ v.kind ∧ v.kind ≤ 9223372036854775807) ∧ (-9223372036854775808 ≤ v.int ∧ v.int ≤ 9223372036854775807) ∧ v.str.length ≤ 10000
theorem idV_len (v : Va) (h : Vs v) : (idV v).length ≤ 10100 := by
 have h1 := Lib.itoa_length_le v.kind h.1.1 h.1.2
 have h2 := Lib.itoa_length_le v.int h.2.1.1 h.2.1.2
 have h3 := Lib.itoa_length_le (v.str.length : Nat) (by omega) (by have := h.2.2; omega)
 have h4 := h.2.2
 simp only [idV, List.length_append, List.length_cons, List.length_nil]; omega
theorem zS2 (r : List Va) (i : Nat) (h : i < r.length) : idR (r.take (i + 1)) = idR (r.take i) ++ idV (r.getD i default) := by
 rw [List.take_succ_eq_append_getElem h, idR, List.flatMap_append, List.getD_eq_getElem?_getD, List.getElem?_eq_getElem h]
 simp [idR]
theorem idR_len (r : List Va) (h : ∀ v ∈ r, Vs v) (i : Nat) (hi : i ≤ r.length) : (idR (r.take i)).length ≤ 10100 * i := by
 induction i with
 | zero => simp [idR]
 | succ i ih =>
  rw [zS2 r i (by omega), List.length_append]
  have := ih (by omega)
  have := idV_len (r.getD i default) (by rw [List.getD_eq_getElem?_getD, List.getElem?_eq_getElem (by omega)]; exact h _ (List.getElem_mem _))
  omega
def isConv : Op → Bool
 | .convert s d _ => s == 121 && d == 9
 | _ => false
def Ti : Par := ⟨fun f => f == 68, fun _ _ => none, fun _ => false, isConv, fun _ => false⟩
theorem Ti_ok : zBi Tryd.prog Ti := by intro t n f h; cases h
theorem zQe (l : List UInt8) : zEm (zT l) = some l := by
 induction l with
 | nil => rfl
 | cons b l ih =>
  show (zEm (zT l)).map (UInt8.ofNat ((b.toNat : Int)).toNat :: ·) = _
  rw [ih]; simp
theorem zNf (l : List UInt8) : zMb (zT l) = l := by
 induction l with
 | nil => rfl
 | cons b l ih =>
  show byteG (.val (.int .u8 b.toNat)) :: zMb (zT l) = _
  rw [ih]; simp [byteG]
theorem zFz (l : List UInt8) (n : Nat) (h : l.length = n) : (zT l).take n = zT l := List.take_of_length_le (by rw [zAn]; omega)
def zLv (k : Nat) (st : List Bk) : Bool := st.zipIdx.all fun p => p.2 == k || p.1.nob || !zCv k p.1.cells
theorem zEg {k : Nat} {st : List Bk} (h : zLv k st = true) : ∀ j e0, j ≠ k → st[j]? = some e0 → e0.nob = true ∨ zCv k e0.cells = false := fun j e0 hj he => by
 unfold zLv at h
 rw [List.all_eq_true] at h
 have := h (e0, j) (List.mem_zipIdx_iff_getElem?.2 he)
 simp only [Bool.or_eq_true, beq_iff_eq, Bool.not_eq_true'] at this
 rcases this with (h1 | h1) | h1
 ·exact absurd h1 hj
 ·exact .inl h1
 ·exact .inr h1
set_option maxHeartbeats 4000000 in
theorem rkey_c (r : List Va) (n : Nat) (hn : r.length = n) (hl : n ≤ 10000) (hv : ∀ v ∈ r, Vs v) : Pure Tryd.prog 64 [.row (zK r) n] [] (strD (idR r)) := by
 subst hn
 refine zL Ti_ok mixed Tryd.func64 rfl ?_
 focus
  refine zB (zA rfl (v0s (veT (zB (zA rfl (veT (zB (zB (zA rfl (veT (zF ?_)))))))))))
  rotate_left
 refine zW (fun (i : Nat) => fr 51 [(0, (q3_ r)), (2, D.val (Value.string (ByteArray.mk #[]))), (3, D.osl 0 0 (List.length (idR (List.take i r))) (List.length (idR (List.take i r))) true), (6, iD ↑(List.length r)), (7, iD ↑i)]) (fun i => [byB (idR (r.take i))]) (fun i => r.length - i) (fun i => i ≤ r.length) 0 ?_ ?_ ?_
 ·omega
 ·rw [show idR (r.take 0) = [] from rfl]
  refine vk 0
 rintro i h1
 have hb := idR_len r hv i (by omega)
 generalize ex : idR (r.take i) = x at *
 rcases Nat.lt_or_ge i r.length with hi | hi
 ·have hvi : Vs (r.getD i default) := by rw [List.getD_eq_getElem?_getD, List.getElem?_eq_getElem hi]; exact hv _ (List.getElem_mem _)
  have e2 := zS2 r i hi
  rw [ex] at e2
  obtain ⟨v, ev⟩ : ∃ v, v = r.getD i default := ⟨_, rfl⟩
  rw [← ev] at e2 hvi
  have l1 := Lib.itoa_length_le v.kind hvi.1.1 hvi.1.2
  have l2 := Lib.itoa_length_le v.int hvi.2.1.1 hvi.2.1.2
  have l3 := hvi.2.2
  have l4 := Lib.itoa_length_le (v.str.length : Nat) (by omega) (by omega)
  have e3 : x ++ idV v = x ++ Lib.itoa v.kind ++ [32] ++ Lib.itoa v.int ++ [32] ++ Lib.itoa (v.str.length : Nat) ++ [32] ++ v.str := by simp [idV]
  have e4 := zQc r i hi
  rw [← ev] at e4
  focus
   refine zB (zA rfl (v0s (veT (zB (vT ((↑i : Int) < ↑(List.length r)) (zG (zC (zD (zB (zF (zB (zA rfl (veT ?_)))))))))))))
   refine zB (zA rfl (vr 4 (ix ↑i ↑(List.length r) (zK r ≠ [])) (vs 13 (D.ptr (List.drop (Int.toNat (↑i : Int) * 3) (zK r))) (D.ptr (iD (Va.kind v) :: iD (Va.int v) :: strD (Va.str v) :: zK (List.drop (i + 1) r))) (by simp (disch := omega) only [Int.toNat_natCast, List.cons_append, List.nil_append, e4]) (vr 2 (True ∧ 0 < List.length (iD (Va.kind v) :: iD (Va.int v) :: strD (Va.str v) :: zK (List.drop (i + 1) r))) (vnt [byB x] ?_))) ⟨(by omega), ⟨(by omega), (by exact zDd _ (by omega))⟩⟩))
   refine zG2 [] [] [D.osl 0 0 (List.length x) (List.length x) true, iD (Va.kind v), iD 10] [D.osl 0 0 (List.length x) (List.length x) true, iD (Va.kind v), iD 10] (by kernel_rfl) trivial (LeL.refl _) (by exact zLa 0 _ v.kind _ (by simp) (by omega) hvi.1.1 hvi.1.2 rfl (zEg rfl)) (by kernel_rfl) ?_
   refine v0s (veT (zB (zA rfl (vr 3 (((1 = 1 ∧ 1 ≤ 1 ∧ True) ∧ 0 < 1 ∧ 1 = 1 ∧ 1 ≤ 16777216 ∧ 1 ≤ 9223372036854775807) ∧ Bk.arr (Bk.mk (zT (x ++ Lib.itoa (Va.kind v))) 5 1 true false Kd.plain) = true ∧ List.length (zT (x ++ Lib.itoa (Va.kind v))) = (List.length x + List.length (Lib.itoa (Va.kind v))) * 1 ∧ List.length x + List.length (Lib.itoa (Va.kind v)) = (List.length x + List.length (Lib.itoa (Va.kind v))) * 1 ∧ Bk.ty (Bk.mk (zT (x ++ Lib.itoa (Va.kind v))) 5 1 true false Kd.plain) = 5 ∧ Bk.sz (Bk.mk (zT (x ++ Lib.itoa (Va.kind v))) 5 1 true false Kd.plain) = 1 ∧ 1 = 1 ∧ 0 < 1 ∧ 0 < 1 ∧ 5 = 5 ∧ (List.length x + List.length (Lib.itoa (Va.kind v)) + 1) * 1 ≤ 140737488355328 ∧ 1 = 1 ∧ Kd.isMap (Bk.kd (Bk.mk (zT (x ++ Lib.itoa (Va.kind v))) 5 1 true false Kd.plain)) = false ∧ (false = false ∨ Kd.isSh (Bk.kd (Bk.mk (zT (x ++ Lib.itoa (Va.kind v))) 5 1 true false Kd.plain)) = true)) (vb 0 (Bk.mk (zT (x ++ Lib.itoa (Va.kind v)) ++ [D.val (Value.int IntKind.u8 32)]) (Bk.ty (Bk.mk (zT (x ++ Lib.itoa (Va.kind v))) 5 1 true false Kd.plain)) (Bk.sz (Bk.mk (zT (x ++ Lib.itoa (Va.kind v))) 5 1 true false Kd.plain)) (Bk.arr (Bk.mk (zT (x ++ Lib.itoa (Va.kind v))) 5 1 true false Kd.plain)) (Bk.fz (Bk.mk (zT (x ++ Lib.itoa (Va.kind v))) 5 1 true false Kd.plain)) (Bk.kd (Bk.mk (zT (x ++ Lib.itoa (Va.kind v))) 5 1 true false Kd.plain))) (Bk.mk (zT (x ++ Lib.itoa (Va.kind v) ++ [(32 : UInt8)])) 5 1 true false Kd.plain) (by simp (disch := omega) only [zB9, show ([D.val (Value.int IntKind.u8 32)] : List D) = zT [32] from rfl]) (vrT 1 (vs 3 (D.osl 0 0 (List.length x + List.length (Lib.itoa (Va.kind v)) + 1) ((List.length x + List.length (Lib.itoa (Va.kind v)) + 1) * 1) true) (D.osl 0 0 (List.length x + List.length (Lib.itoa (Va.kind v)) + 1) (List.length x + List.length (Lib.itoa (Va.kind v)) + 1) true) (by simp (disch := omega) only [Nat.mul_one]) ?_))) ⟨⟨⟨(by kernel_rfl), ⟨(by omega), trivial⟩⟩, (by omega)⟩, ⟨(by kernel_rfl), ⟨(by simp [zAn]), ⟨(by omega), ⟨(by kernel_rfl), ⟨(by kernel_rfl), ⟨(by kernel_rfl), ⟨(by omega), ⟨(by omega), ⟨(by kernel_rfl), ⟨(by omega), ⟨(by kernel_rfl), ⟨(by kernel_rfl), (by simp)⟩⟩⟩⟩⟩⟩⟩⟩⟩⟩⟩⟩⟩))))
   refine veT (zB (zA rfl (vr 4 (ix ↑i ↑(List.length r) (zK r ≠ [])) (vs 23 (D.ptr (List.drop (Int.toNat (↑i : Int) * 3) (zK r))) (D.ptr (iD (Va.kind v) :: iD (Va.int v) :: strD (Va.str v) :: zK (List.drop (i + 1) r))) (by simp (disch := omega) only [Int.toNat_natCast, List.cons_append, List.nil_append, e4]) (vr 2 (True ∧ 0 < List.length (iD (Va.int v) :: strD (Va.str v) :: zK (List.drop (i + 1) r))) (vnt [Bk.mk (zT (x ++ Lib.itoa (Va.kind v) ++ [(32 : UInt8)])) 5 1 true false Kd.plain, Bk.mk (zT [(32 : UInt8)]) 5 1 true false Kd.plain] ?_))) ⟨(by omega), ⟨(by omega), (by exact zDd _ (by omega))⟩⟩)))
   refine zG2 [] [] [D.osl 0 0 (List.length x + List.length (Lib.itoa (Va.kind v)) + 1) (List.length x + List.length (Lib.itoa (Va.kind v)) + 1) true, iD (Va.int v), iD 10] [D.osl 0 0 (List.length x + List.length (Lib.itoa (Va.kind v)) + 1) (List.length x + List.length (Lib.itoa (Va.kind v)) + 1) true, iD (Va.int v), iD 10] (by kernel_rfl) trivial (LeL.refl _) (by exact zLa 0 _ v.int _ (by simp; omega) (by omega) hvi.2.1.1 hvi.2.1.2 rfl (zEg rfl)) (by kernel_rfl) ?_
   refine v0s (veT (zB (zA rfl (vr 3 (((1 = 1 ∧ 1 ≤ 1 ∧ True) ∧ 0 < 1 ∧ 1 = 1 ∧ 1 ≤ 16777216 ∧ 1 ≤ 9223372036854775807) ∧ Bk.arr (Bk.mk (zT (x ++ Lib.itoa (Va.kind v) ++ [(32 : UInt8)] ++ Lib.itoa (Va.int v))) 5 1 true false Kd.plain) = true ∧ List.length (zT (x ++ Lib.itoa (Va.kind v) ++ [(32 : UInt8)] ++ Lib.itoa (Va.int v))) = (List.length x + List.length (Lib.itoa (Va.kind v)) + 1 + List.length (Lib.itoa (Va.int v))) * 1 ∧ List.length x + List.length (Lib.itoa (Va.kind v)) + 1 + List.length (Lib.itoa (Va.int v)) = (List.length x + List.length (Lib.itoa (Va.kind v)) + 1 + List.length (Lib.itoa (Va.int v))) * 1 ∧ Bk.ty (Bk.mk (zT (x ++ Lib.itoa (Va.kind v) ++ [(32 : UInt8)] ++ Lib.itoa (Va.int v))) 5 1 true false Kd.plain) = 5 ∧ Bk.sz (Bk.mk (zT (x ++ Lib.itoa (Va.kind v) ++ [(32 : UInt8)] ++ Lib.itoa (Va.int v))) 5 1 true false Kd.plain) = 1 ∧ 1 = 1 ∧ 0 < 1 ∧ 0 < 1 ∧ 5 = 5 ∧ (List.length x + List.length (Lib.itoa (Va.kind v)) + 1 + List.length (Lib.itoa (Va.int v)) + 1) * 1 ≤ 140737488355328 ∧ 1 = 1 ∧ Kd.isMap (Bk.kd (Bk.mk (zT (x ++ Lib.itoa (Va.kind v) ++ [(32 : UInt8)] ++ Lib.itoa (Va.int v))) 5 1 true false Kd.plain)) = false ∧ (false = false ∨ Kd.isSh (Bk.kd (Bk.mk (zT (x ++ Lib.itoa (Va.kind v) ++ [(32 : UInt8)] ++ Lib.itoa (Va.int v))) 5 1 true false Kd.plain)) = true)) (vb 0 (Bk.mk (zT (x ++ Lib.itoa (Va.kind v) ++ [(32 : UInt8)] ++ Lib.itoa (Va.int v)) ++ [D.val (Value.int IntKind.u8 32)]) (Bk.ty (Bk.mk (zT (x ++ Lib.itoa (Va.kind v) ++ [(32 : UInt8)] ++ Lib.itoa (Va.int v))) 5 1 true false Kd.plain)) (Bk.sz (Bk.mk (zT (x ++ Lib.itoa (Va.kind v) ++ [(32 : UInt8)] ++ Lib.itoa (Va.int v))) 5 1 true false Kd.plain)) (Bk.arr (Bk.mk (zT (x ++ Lib.itoa (Va.kind v) ++ [(32 : UInt8)] ++ Lib.itoa (Va.int v))) 5 1 true false Kd.plain)) (Bk.fz (Bk.mk (zT (x ++ Lib.itoa (Va.kind v) ++ [(32 : UInt8)] ++ Lib.itoa (Va.int v))) 5 1 true false Kd.plain)) (Bk.kd (Bk.mk (zT (x ++ Lib.itoa (Va.kind v) ++ [(32 : UInt8)] ++ Lib.itoa (Va.int v))) 5 1 true false Kd.plain))) (Bk.mk (zT (x ++ Lib.itoa (Va.kind v) ++ [(32 : UInt8)] ++ Lib.itoa (Va.int v) ++ [(32 : UInt8)])) 5 1 true false Kd.plain) (by simp (disch := omega) only [zB9, show ([D.val (Value.int IntKind.u8 32)] : List D) = zT [32] from rfl]) ?_) ⟨⟨⟨(by kernel_rfl), ⟨(by omega), trivial⟩⟩, (by omega)⟩, ⟨(by kernel_rfl), ⟨(by (simp [zAn]; omega)), ⟨(by omega), ⟨(by kernel_rfl), ⟨(by kernel_rfl), ⟨(by kernel_rfl), ⟨(by omega), ⟨(by omega), ⟨(by kernel_rfl), ⟨(by omega), ⟨(by kernel_rfl), ⟨(by kernel_rfl), (by simp)⟩⟩⟩⟩⟩⟩⟩⟩⟩⟩⟩⟩⟩))))
   refine vrT 1 (vs 3 (D.osl 0 0 (List.length x + List.length (Lib.itoa (Va.kind v)) + 1 + List.length (Lib.itoa (Va.int v)) + 1) ((List.length x + List.length (Lib.itoa (Va.kind v)) + 1 + List.length (Lib.itoa (Va.int v)) + 1) * 1) true) (D.osl 0 0 (List.length x + List.length (Lib.itoa (Va.kind v)) + 1 + List.length (Lib.itoa (Va.int v)) + 1) (List.length x + List.length (Lib.itoa (Va.kind v)) + 1 + List.length (Lib.itoa (Va.int v)) + 1) true) (by simp (disch := omega) only [Nat.mul_one]) (veT (zB (zA rfl (vr 4 (ix ↑i ↑(List.length r) (zK r ≠ [])) (vs 33 (D.ptr (List.drop (Int.toNat (↑i : Int) * 3) (zK r))) (D.ptr (iD (Va.kind v) :: iD (Va.int v) :: strD (Va.str v) :: zK (List.drop (i + 1) r))) (by simp (disch := omega) only [Int.toNat_natCast, List.cons_append, List.nil_append, e4]) (vr 3 (True ∧ 0 < List.length (strD (Va.str v) :: zK (List.drop (i + 1) r))) (vnt [Bk.mk (zT (x ++ Lib.itoa (Va.kind v) ++ [(32 : UInt8)] ++ Lib.itoa (Va.int v) ++ [(32 : UInt8)])) 5 1 true false Kd.plain, Bk.mk [D.val (Value.int IntKind.u8 (↑(32 : Nat) : Int))] 5 1 true false Kd.plain, Bk.mk (zT [(32 : UInt8)]) 5 1 true false Kd.plain] ?_))) ⟨(by omega), ⟨(by omega), (by exact zDd _ (by omega))⟩⟩)))))
   refine zG2 [] [] [D.osl 0 0 (List.length x + List.length (Lib.itoa (Va.kind v)) + 1 + List.length (Lib.itoa (Va.int v)) + 1) (List.length x + List.length (Lib.itoa (Va.kind v)) + 1 + List.length (Lib.itoa (Va.int v)) + 1) true, iD (↑(List.length (Va.str v)) : Int), iD 10] [D.osl 0 0 (List.length x + List.length (Lib.itoa (Va.kind v)) + 1 + List.length (Lib.itoa (Va.int v)) + 1) (List.length x + List.length (Lib.itoa (Va.kind v)) + 1 + List.length (Lib.itoa (Va.int v)) + 1) true, iD (↑(List.length (Va.str v)) : Int), iD 10] (by kernel_rfl) trivial (LeL.refl _) (by exact zLa 0 _ (v.str.length : Nat) _ (by simp; omega) (by omega) (by omega) (by omega) rfl (zEg rfl)) (by kernel_rfl) ?_
   refine v0s (veT (zB (zA rfl (vr 3 (((1 = 1 ∧ 1 ≤ 1 ∧ True) ∧ 0 < 1 ∧ 1 = 1 ∧ 1 ≤ 16777216 ∧ 1 ≤ 9223372036854775807) ∧ Bk.arr (Bk.mk (zT (x ++ Lib.itoa (Va.kind v) ++ [(32 : UInt8)] ++ Lib.itoa (Va.int v) ++ [(32 : UInt8)] ++ Lib.itoa (↑(List.length (Va.str v)) : Int))) 5 1 true false Kd.plain) = true ∧ List.length (zT (x ++ Lib.itoa (Va.kind v) ++ [(32 : UInt8)] ++ Lib.itoa (Va.int v) ++ [(32 : UInt8)] ++ Lib.itoa (↑(List.length (Va.str v)) : Int))) = (List.length x + List.length (Lib.itoa (Va.kind v)) + 1 + List.length (Lib.itoa (Va.int v)) + 1 + List.length (Lib.itoa (↑(List.length (Va.str v)) : Int))) * 1 ∧ List.length x + List.length (Lib.itoa (Va.kind v)) + 1 + List.length (Lib.itoa (Va.int v)) + 1 + List.length (Lib.itoa (↑(List.length (Va.str v)) : Int)) = (List.length x + List.length (Lib.itoa (Va.kind v)) + 1 + List.length (Lib.itoa (Va.int v)) + 1 + List.length (Lib.itoa (↑(List.length (Va.str v)) : Int))) * 1 ∧ Bk.ty (Bk.mk (zT (x ++ Lib.itoa (Va.kind v) ++ [(32 : UInt8)] ++ Lib.itoa (Va.int v) ++ [(32 : UInt8)] ++ Lib.itoa (↑(List.length (Va.str v)) : Int))) 5 1 true false Kd.plain) = 5 ∧ Bk.sz (Bk.mk (zT (x ++ Lib.itoa (Va.kind v) ++ [(32 : UInt8)] ++ Lib.itoa (Va.int v) ++ [(32 : UInt8)] ++ Lib.itoa (↑(List.length (Va.str v)) : Int))) 5 1 true false Kd.plain) = 1 ∧ 1 = 1 ∧ 0 < 1 ∧ 0 < 1 ∧ 5 = 5 ∧ (List.length x + List.length (Lib.itoa (Va.kind v)) + 1 + List.length (Lib.itoa (Va.int v)) + 1 + List.length (Lib.itoa (↑(List.length (Va.str v)) : Int)) + 1) * 1 ≤ 140737488355328 ∧ 1 = 1 ∧ Kd.isMap (Bk.kd (Bk.mk (zT (x ++ Lib.itoa (Va.kind v) ++ [(32 : UInt8)] ++ Lib.itoa (Va.int v) ++ [(32 : UInt8)] ++ Lib.itoa (↑(List.length (Va.str v)) : Int))) 5 1 true false Kd.plain)) = false ∧ (false = false ∨ Kd.isSh (Bk.kd (Bk.mk (zT (x ++ Lib.itoa (Va.kind v) ++ [(32 : UInt8)] ++ Lib.itoa (Va.int v) ++ [(32 : UInt8)] ++ Lib.itoa (↑(List.length (Va.str v)) : Int))) 5 1 true false Kd.plain)) = true)) ?_ ⟨⟨⟨(by kernel_rfl), ⟨(by omega), trivial⟩⟩, (by omega)⟩, ⟨(by kernel_rfl), ⟨(by (simp [zAn]; omega)), ⟨(by omega), ⟨(by kernel_rfl), ⟨(by kernel_rfl), ⟨(by kernel_rfl), ⟨(by omega), ⟨(by omega), ⟨(by kernel_rfl), ⟨(by omega), ⟨(by kernel_rfl), ⟨(by kernel_rfl), (by simp)⟩⟩⟩⟩⟩⟩⟩⟩⟩⟩⟩⟩⟩))))
   refine vb 0 (Bk.mk (zT (x ++ Lib.itoa (Va.kind v) ++ [(32 : UInt8)] ++ Lib.itoa (Va.int v) ++ [(32 : UInt8)] ++ Lib.itoa (↑(List.length (Va.str v)) : Int)) ++ [D.val (Value.int IntKind.u8 32)]) (Bk.ty (Bk.mk (zT (x ++ Lib.itoa (Va.kind v) ++ [(32 : UInt8)] ++ Lib.itoa (Va.int v) ++ [(32 : UInt8)] ++ Lib.itoa (↑(List.length (Va.str v)) : Int))) 5 1 true false Kd.plain)) (Bk.sz (Bk.mk (zT (x ++ Lib.itoa (Va.kind v) ++ [(32 : UInt8)] ++ Lib.itoa (Va.int v) ++ [(32 : UInt8)] ++ Lib.itoa (↑(List.length (Va.str v)) : Int))) 5 1 true false Kd.plain)) (Bk.arr (Bk.mk (zT (x ++ Lib.itoa (Va.kind v) ++ [(32 : UInt8)] ++ Lib.itoa (Va.int v) ++ [(32 : UInt8)] ++ Lib.itoa (↑(List.length (Va.str v)) : Int))) 5 1 true false Kd.plain)) (Bk.fz (Bk.mk (zT (x ++ Lib.itoa (Va.kind v) ++ [(32 : UInt8)] ++ Lib.itoa (Va.int v) ++ [(32 : UInt8)] ++ Lib.itoa (↑(List.length (Va.str v)) : Int))) 5 1 true false Kd.plain)) (Bk.kd (Bk.mk (zT (x ++ Lib.itoa (Va.kind v) ++ [(32 : UInt8)] ++ Lib.itoa (Va.int v) ++ [(32 : UInt8)] ++ Lib.itoa (↑(List.length (Va.str v)) : Int))) 5 1 true false Kd.plain))) (Bk.mk (zT (x ++ Lib.itoa (Va.kind v) ++ [(32 : UInt8)] ++ Lib.itoa (Va.int v) ++ [(32 : UInt8)] ++ Lib.itoa (↑(List.length (Va.str v)) : Int) ++ [(32 : UInt8)])) 5 1 true false Kd.plain) (by simp (disch := omega) only [zB9, show ([D.val (Value.int IntKind.u8 32)] : List D) = zT [32] from rfl]) (vrT 1 (vs 3 (D.osl 0 0 (List.length x + List.length (Lib.itoa (Va.kind v)) + 1 + List.length (Lib.itoa (Va.int v)) + 1 + List.length (Lib.itoa (↑(List.length (Va.str v)) : Int)) + 1) ((List.length x + List.length (Lib.itoa (Va.kind v)) + 1 + List.length (Lib.itoa (Va.int v)) + 1 + List.length (Lib.itoa (↑(List.length (Va.str v)) : Int)) + 1) * 1) true) (D.osl 0 0 (List.length x + List.length (Lib.itoa (Va.kind v)) + 1 + List.length (Lib.itoa (Va.int v)) + 1 + List.length (Lib.itoa (↑(List.length (Va.str v)) : Int)) + 1) (List.length x + List.length (Lib.itoa (Va.kind v)) + 1 + List.length (Lib.itoa (Va.int v)) + 1 + List.length (Lib.itoa (↑(List.length (Va.str v)) : Int)) + 1) true) (by simp (disch := omega) only [Nat.mul_one]) (veT (zA rfl (vr 4 (ix ↑i ↑(List.length r) (zK r ≠ [])) ?_ ⟨(by omega), ⟨(by omega), (by exact zDd _ (by omega))⟩⟩)))))
   refine vs 44 (D.ptr (List.drop (Int.toNat (↑i : Int) * 3) (zK r))) (D.ptr (iD (Va.kind v) :: iD (Va.int v) :: strD (Va.str v) :: zK (List.drop (i + 1) r))) (by simp (disch := omega) only [Int.toNat_natCast, List.cons_append, List.nil_append, e4]) ?_
   refine vwh 3 [] [] (True ∧ 0 < List.length (strD (Va.str v) :: zK (List.drop (i + 1) r)) ∧ Bk.arr (Bk.mk (zT (x ++ Lib.itoa (Va.kind v) ++ [(32 : UInt8)] ++ Lib.itoa (Va.int v) ++ [(32 : UInt8)] ++ Lib.itoa (↑(List.length (Va.str v)) : Int) ++ [(32 : UInt8)])) 5 1 true false Kd.plain) = true ∧ List.length (zT (x ++ Lib.itoa (Va.kind v) ++ [(32 : UInt8)] ++ Lib.itoa (Va.int v) ++ [(32 : UInt8)] ++ Lib.itoa (↑(List.length (Va.str v)) : Int) ++ [(32 : UInt8)])) = (List.length x + List.length (Lib.itoa (Va.kind v)) + 1 + List.length (Lib.itoa (Va.int v)) + 1 + List.length (Lib.itoa (↑(List.length (Va.str v)) : Int)) + 1) * 1 ∧ List.length x + List.length (Lib.itoa (Va.kind v)) + 1 + List.length (Lib.itoa (Va.int v)) + 1 + List.length (Lib.itoa (↑(List.length (Va.str v)) : Int)) + 1 = (List.length x + List.length (Lib.itoa (Va.kind v)) + 1 + List.length (Lib.itoa (Va.int v)) + 1 + List.length (Lib.itoa (↑(List.length (Va.str v)) : Int)) + 1) * 1 ∧ Bk.ty (Bk.mk (zT (x ++ Lib.itoa (Va.kind v) ++ [(32 : UInt8)] ++ Lib.itoa (Va.int v) ++ [(32 : UInt8)] ++ Lib.itoa (↑(List.length (Va.str v)) : Int) ++ [(32 : UInt8)])) 5 1 true false Kd.plain) = 5 ∧ Bk.sz (Bk.mk (zT (x ++ Lib.itoa (Va.kind v) ++ [(32 : UInt8)] ++ Lib.itoa (Va.int v) ++ [(32 : UInt8)] ++ Lib.itoa (↑(List.length (Va.str v)) : Int) ++ [(32 : UInt8)])) 5 1 true false Kd.plain) = 1 ∧ List.length (zT (Array.toList (ByteArray.data (bs (Va.str v))))) = List.length (Array.toList (ByteArray.data (bs (Va.str v)))) * 1 ∧ 0 < 1 ∧ 0 < 1 ∧ 5 = 5 ∧ (List.length x + List.length (Lib.itoa (Va.kind v)) + 1 + List.length (Lib.itoa (Va.int v)) + 1 + List.length (Lib.itoa (↑(List.length (Va.str v)) : Int)) + 1 + List.length (Array.toList (ByteArray.data (bs (Va.str v))))) * 1 ≤ 140737488355328 ∧ 1 = 1 ∧ Kd.isMap (Bk.kd (Bk.mk (zT (x ++ Lib.itoa (Va.kind v) ++ [(32 : UInt8)] ++ Lib.itoa (Va.int v) ++ [(32 : UInt8)] ++ Lib.itoa (↑(List.length (Va.str v)) : Int) ++ [(32 : UInt8)])) 5 1 true false Kd.plain)) = false ∧ (false = false ∨ Kd.isSh (Bk.kd (Bk.mk (zT (x ++ Lib.itoa (Va.kind v) ++ [(32 : UInt8)] ++ Lib.itoa (Va.int v) ++ [(32 : UInt8)] ++ Lib.itoa (↑(List.length (Va.str v)) : Int) ++ [(32 : UInt8)])) 5 1 true false Kd.plain)) = true)) ⟨trivial, (lb (by kernel_rfl)), ?_⟩ ?_
   rotate_left
   refine vb 0 (Bk.mk (zT (x ++ Lib.itoa (Va.kind v) ++ [(32 : UInt8)] ++ Lib.itoa (Va.int v) ++ [(32 : UInt8)] ++ Lib.itoa (↑(List.length (Va.str v)) : Int) ++ [(32 : UInt8)]) ++ zT (Array.toList (ByteArray.data (bs (Va.str v))))) (Bk.ty (Bk.mk (zT (x ++ Lib.itoa (Va.kind v) ++ [(32 : UInt8)] ++ Lib.itoa (Va.int v) ++ [(32 : UInt8)] ++ Lib.itoa (↑(List.length (Va.str v)) : Int) ++ [(32 : UInt8)])) 5 1 true false Kd.plain)) (Bk.sz (Bk.mk (zT (x ++ Lib.itoa (Va.kind v) ++ [(32 : UInt8)] ++ Lib.itoa (Va.int v) ++ [(32 : UInt8)] ++ Lib.itoa (↑(List.length (Va.str v)) : Int) ++ [(32 : UInt8)])) 5 1 true false Kd.plain)) (Bk.arr (Bk.mk (zT (x ++ Lib.itoa (Va.kind v) ++ [(32 : UInt8)] ++ Lib.itoa (Va.int v) ++ [(32 : UInt8)] ++ Lib.itoa (↑(List.length (Va.str v)) : Int) ++ [(32 : UInt8)])) 5 1 true false Kd.plain)) (Bk.fz (Bk.mk (zT (x ++ Lib.itoa (Va.kind v) ++ [(32 : UInt8)] ++ Lib.itoa (Va.int v) ++ [(32 : UInt8)] ++ Lib.itoa (↑(List.length (Va.str v)) : Int) ++ [(32 : UInt8)])) 5 1 true false Kd.plain)) (Bk.kd (Bk.mk (zT (x ++ Lib.itoa (Va.kind v) ++ [(32 : UInt8)] ++ Lib.itoa (Va.int v) ++ [(32 : UInt8)] ++ Lib.itoa (↑(List.length (Va.str v)) : Int) ++ [(32 : UInt8)])) 5 1 true false Kd.plain))) (Bk.mk (zT (x ++ Lib.itoa (Va.kind v) ++ [(32 : UInt8)] ++ Lib.itoa (Va.int v) ++ [(32 : UInt8)] ++ Lib.itoa (↑(List.length (Va.str v)) : Int) ++ [(32 : UInt8)] ++ Va.str v)) 5 1 true false Kd.plain) (by simp (disch := omega) only [bs_dl, zB9]) (vrT 1 (vs 3 (D.osl 0 0 (List.length x + List.length (Lib.itoa (Va.kind v)) + 1 + List.length (Lib.itoa (Va.int v)) + 1 + List.length (Lib.itoa (↑(List.length (Va.str v)) : Int)) + 1 + List.length (Array.toList (ByteArray.data (bs (Va.str v))))) ((List.length x + List.length (Lib.itoa (Va.kind v)) + 1 + List.length (Lib.itoa (Va.int v)) + 1 + List.length (Lib.itoa (↑(List.length (Va.str v)) : Int)) + 1 + List.length (Array.toList (ByteArray.data (bs (Va.str v))))) * 1) true) (D.osl 0 0 (List.length x + List.length (Lib.itoa (Va.kind v)) + 1 + List.length (Lib.itoa (Va.int v)) + 1 + List.length (Lib.itoa (↑(List.length (Va.str v)) : Int)) + 1 + List.length (Va.str v)) (List.length x + List.length (Lib.itoa (Va.kind v)) + 1 + List.length (Lib.itoa (Va.int v)) + 1 + List.length (Lib.itoa (↑(List.length (Va.str v)) : Int)) + 1 + List.length (Va.str v)) true) (by simp (disch := omega) only [bs_dl, Nat.mul_one]) ?_))
   refine vnil (zE (zC (zD (zA rfl (vr 2 (i6 (↑i + 1)) (vnil (zC ?_)))))))
   rotate_left
  all_goals first | (refine ⟨rfl, ?_, ?_, rfl, rfl, ?_, by decide, by decide, rfl, ?_, rfl, rfl, .inl rfl⟩ <;> (try simp only [zAn, List.length_append, List.length_cons, List.length_nil, bs_dl]) <;> omega) | skip
  refine ⟨i + 1, by omega, by omega, ?_⟩
  rw [e2, e3]
  refine wk 3 (D.osl 0 0 (List.length x + List.length (Lib.itoa (Va.kind v)) + 1 + List.length (Lib.itoa (Va.int v)) + 1 + List.length (Lib.itoa (↑(List.length (Va.str v)) : Int)) + 1 + List.length (Va.str v)) (List.length x + List.length (Lib.itoa (Va.kind v)) + 1 + List.length (Lib.itoa (Va.int v)) + 1 + List.length (Lib.itoa (↑(List.length (Va.str v)) : Int)) + 1 + List.length (Va.str v)) true) (D.osl 0 0 (List.length (x ++ Lib.itoa (Va.kind v) ++ [(32 : UInt8)] ++ Lib.itoa (Va.int v) ++ [(32 : UInt8)] ++ Lib.itoa (↑(List.length (Va.str v)) : Int) ++ [(32 : UInt8)] ++ Va.str v)) (List.length (x ++ Lib.itoa (Va.kind v) ++ [(32 : UInt8)] ++ Lib.itoa (Va.int v) ++ [(32 : UInt8)] ++ Lib.itoa (↑(List.length (Va.str v)) : Int) ++ [(32 : UInt8)] ++ Va.str v)) true) (by (simp; omega)) (vk 1)
 ·have e : i = r.length := by omega
  subst e
  rw [List.take_length] at ex
  focus
   refine zB (zA rfl (v0s (veT (zB (vF ((↑(List.length r) : Int) < ↑(List.length r)) (zQ (zH (zH (zP rfl (zC (zD (zB (zA rfl ?_)))))))))))))
   refine vr 2 (zEm (List.take (List.length x) (List.drop 0 (Bk.cells (byB x)))) = some (zMb (List.take (List.length x) (List.drop 0 (Bk.cells (byB x))))) ∧ List.length (List.take (List.length x) (List.drop 0 (Bk.cells (byB x)))) = List.length x ∧ Program.underlying Tryd.prog 5 = some (TypeDesc.int IntKind.u8)) (vs 50 (D.val (Value.string (ByteArray.mk (List.toArray (zMb (List.take (List.length x) (List.drop 0 (Bk.cells (byB x))))))))) (D.val (Value.string (ByteArray.mk (List.toArray x)))) (by simp (disch := omega) only [List.drop_zero, zFz, zNf]) (veT (zM ?_))) ⟨(by simp [zQe, zNf, zFz, zAn]), ⟨(by simp [zQe, zNf, zFz, zAn]), (by kernel_rfl)⟩⟩
   refine vre (True) (D.val (Value.string (ByteArray.mk (List.toArray x)))) (.inr rfl) ?_
   rotate_left
  rw [ex]; rfl
end
section
abbrev Rw := List Va
structure Cw (c : Rw → Rw → Int) : Prop where
  eq : ∀ a b, c a b = 0 ↔ a = b
  neg : ∀ a b, c b a = - c a b
  tr : ∀ a b d, c a b < 0 → c b d < 0 → c a d < 0
structure Sr (α : Type) where
  add : α → α → α
  mul : α → α → α
  one : α
  om : ∀ a, mul one a = a
  ac : ∀ a b, add a b = add b a
  aa : ∀ a b c, add (add a b) c = add a (add b c)
  mc : ∀ a b, mul a b = mul b a
  ma : ∀ a b c, mul (mul a b) c = mul a (mul b c)
  dl : ∀ a b c, mul a (add b c) = add (mul a b) (mul a c)
section
variable {α : Type} (c : Rw → Rw → Int)
def Srt (l : List (Rw × α)) : Prop := l.Pairwise fun p q => c p.1 q.1 < 0
def Ndk (l : List (Rw × α)) : Prop := (l.map (·.1)).Nodup
def kv : List (Rw × α) → Rw → Option α
  | [], _ => none
  | (s, u) :: l, r => if s = r then some u else kv l r
def oadd (f : α → α → α) : Option α → Option α → Option α
  | none, y => y
  | some x, none => some x
  | some x, some y => some (f x y)
def omul (f : α → α → α) : Option α → Option α → Option α
  | some x, some y => some (f x y)
  | _, _ => none
def putP (f : α → α → α) (r : Rw) (v : α) : List (Rw × α) → List (Rw × α)
  | [] => [(r, v)]
  | (s, u) :: l => if c s r < 0 then (s, u) :: putP f r v l else if s = r then (s, f u v) :: l else (r, v) :: (s, u) :: l
def acc (f : α → α → α) (l L : List (Rw × α)) : List (Rw × α) := L.foldl (fun l p => putP c f p.1 p.2 l) l
def addT (f : α → α → α) (r : Rw) (v : α) : List (Rw × α) → List (Rw × α)
  | [] => [(r, v)]
  | (s, u) :: l => if s = r then (s, f u v) :: l else (s, u) :: addT f r v l
def ev (f : α → α → α) (o : Option α) (L : List (Rw × α)) (r : Rw) : Option α := L.foldl (fun o p => if p.1 = r then oadd f o (some p.2) else o) o
variable {c}
theorem zHf {l : List (Rw × α)} {r : Rw} : kv l r = none ↔ r ∉ l.map (·.1) := by
  induction l with
  | nil => simp [kv]
  | cons p l ih =>
    obtain ⟨s, u⟩ := p
    simp only [kv]
    split
    · rename_i h; simp [h]
    · rename_i h; rw [ih]; simp [Ne.symm h]
theorem zDz {l : List (Rw × α)} (h : Ndk l) {r : Rw} {u : α} : kv l r = some u ↔ (r, u) ∈ l := by
  induction l with
  | nil => simp [kv]
  | cons p l ih =>
    obtain ⟨s, v⟩ := p
    have h' : s ∉ l.map (·.1) ∧ Ndk l := by simpa [Ndk] using h
    simp only [kv]
    split
    · rename_i e; subst e
      constructor
      · intro e; cases e; simp
      · intro e
        rcases List.mem_cons.1 e with e | e
        · cases e; rfl
        · exact absurd (List.mem_map.2 ⟨_, e, rfl⟩) h'.1
    · rename_i e
      rw [ih h'.2]
      constructor
      · exact fun k => List.mem_cons_of_mem _ k
      · intro k
        rcases List.mem_cons.1 k with k | k
        · cases k; exact absurd rfl e
        · exact k
theorem zW6 {l m : List (Rw × α)} (h : Ndk l) (hp : m.Perm l) (r : Rw) : kv m r = kv l r := by
  have hm : Ndk m := (hp.map _).nodup_iff.2 h
  cases e : kv l r with
  | none => rw [zHf] at e ⊢; exact fun k => e ((hp.map _).mem_iff.1 k)
  | some u => rw [zDz h] at e; rw [zDz hm]; exact hp.mem_iff.2 e
theorem Cw.irr (hc : Cw c) (a : Rw) : ¬ c a a < 0 := by have := (hc.eq a a).2 rfl; omega
theorem Cw.tri (hc : Cw c) (a b : Rw) : c a b < 0 ∨ a = b ∨ c b a < 0 := by
  have h1 := hc.eq a b
  have h2 := hc.neg a b
  rcases Int.lt_trichotomy (c a b) 0 with h | h | h
  · exact .inl h
  · exact .inr (.inl (h1.1 h))
  · exact .inr (.inr (by omega))
theorem Srt.ndk (hc : Cw c) {l : List (Rw × α)} (h : Srt c l) : Ndk l := by
  unfold Ndk List.Nodup
  rw [List.pairwise_map]
  refine h.imp fun {a b} h e => ?_
  rw [e] at h
  exact hc.irr _ h
theorem Srt.uniq (hc : Cw c) : ∀ {l m : List (Rw × α)}, Srt c l → Srt c m → (∀ r, kv l r = kv m r) → l = m
  | [], [], _, _, _ => rfl
  | [], (s, u) :: m, _, _, h => by have := h s; simp [kv] at this
  | (s, u) :: l, [], _, _, h => by have := h s; simp [kv] at this
  | (a, u) :: l, (b, v) :: m, hl, hm, h => by
    have nl := Srt.ndk hc hl
    have nm := Srt.ndk hc hm
    simp only [Srt, List.pairwise_cons] at hl hm
    have e : a = b := by
      rcases hc.tri a b with k | k | k
      · have := h a
        simp only [kv, if_true] at this
        have hm' := (zDz nm).1 this.symm
        rcases List.mem_cons.1 hm' with e | e
        · cases e; rfl
        · have := hm.1 _ e
          exact absurd (hc.tr _ _ _ k this) (hc.irr a)
      · exact k
      · have := h b
        simp only [kv, if_true] at this
        have hl' := (zDz nl).1 this
        rcases List.mem_cons.1 hl' with e | e
        · cases e; rfl
        · have := hl.1 _ e
          exact absurd (hc.tr _ _ _ k this) (hc.irr b)
    subst e
    have e2 : u = v := by have := h a; simpa [kv] using this
    subst e2
    have nl' : a ∉ l.map (·.1) := by have : a ∉ l.map (·.1) ∧ Ndk l := by simpa [Ndk] using nl
                                     exact this.1
    have nm' : a ∉ m.map (·.1) := by have : a ∉ m.map (·.1) ∧ Ndk m := by simpa [Ndk] using nm
                                     exact this.1
    rw [Srt.uniq hc hl.2 hm.2 fun r => ?_]
    by_cases hr : a = r
    · subst hr; rw [zHf.2 nl', zHf.2 nm']
    · have := h r
      simpa [kv, hr] using this
theorem zSe {f : α → α → α} {r : Rw} {v : α} : ∀ {l : List (Rw × α)} {p : Rw × α}, p ∈ putP c f r v l → p.1 = r ∨ p ∈ l
  | [], p, h => by simp [putP] at h; subst h; exact .inl rfl
  | (s, u) :: l, p, h => by
    simp only [putP] at h
    split at h
    · rcases List.mem_cons.1 h with h | h
      · exact .inr (h ▸ List.mem_cons_self ..)
      · exact (zSe h).imp id fun h => List.mem_cons_of_mem _ h
    · split at h
      · rename_i e
        rcases List.mem_cons.1 h with h | h
        · subst h; exact .inl e
        · exact .inr (List.mem_cons_of_mem _ h)
      · rcases List.mem_cons.1 h with h | h
        · subst h; exact .inl rfl
        · exact .inr h
theorem zMv (hc : Cw c) {f : α → α → α} {r : Rw} {v : α} : ∀ {l : List (Rw × α)}, Srt c l → Srt c (putP c f r v l)
  | [], _ => by simp [putP, Srt]
  | (s, u) :: l, h => by
    simp only [Srt, List.pairwise_cons] at h
    simp only [putP]
    split
    · rename_i k
      simp only [Srt, List.pairwise_cons]
      refine ⟨fun p hp => ?_, zMv hc h.2⟩
      rcases zSe hp with e | e
      · rw [e]; exact k
      · exact h.1 p e
    · split
      · simp only [Srt, List.pairwise_cons]; exact h
      · rename_i k1 k2
        have k3 : c r s < 0 := by
          rcases hc.tri s r with k | k | k
          · exact absurd k k1
          · exact absurd k k2
          · exact k
        simp only [Srt, List.pairwise_cons, List.mem_cons]
        refine ⟨fun p hp => ?_, h⟩
        rcases hp with rfl | hp
        · exact k3
        · exact hc.tr _ _ _ k3 (h.1 p hp)
theorem zWj (hc : Cw c) {f : α → α → α} {r : Rw} {v : α} : ∀ {l : List (Rw × α)}, Srt c l → ∀ s, kv (putP c f r v l) s = if r = s then oadd f (kv l s) (some v) else kv l s
  | [], _, s => by simp [putP, kv, oadd]
  | (t, u) :: l, h, s => by
    have nl := Srt.ndk hc h
    have nt : t ∉ l.map (·.1) := by have : t ∉ l.map (·.1) ∧ Ndk l := by simpa [Ndk] using nl
                                    exact this.1
    simp only [Srt, List.pairwise_cons] at h
    simp only [putP]
    split
    · rename_i k
      have hne : t ≠ r := fun e => hc.irr r (by rw [e] at k; exact k)
      simp only [kv, zWj hc h.2 s]
      by_cases e : r = s
      · subst e; simp [hne]
      · simp [e]
    · split
      · rename_i k e
        subst e
        by_cases e2 : t = s
        · subst e2; simp [kv, oadd]
        · simp [kv, e2]
      · rename_i k1 k2
        have k3 : c r t < 0 := by
          rcases hc.tri t r with k | k | k
          · exact absurd k k1
          · exact absurd k k2
          · exact k
        by_cases e : r = s
        · subst e
          have : kv l r = none := zHf.2 fun hm => by
            obtain ⟨p, hp, e⟩ := List.mem_map.1 hm
            have := h.1 p hp
            rw [e] at this
            exact hc.irr _ (hc.tr _ _ _ k3 this)
          simp [kv, k2, this, oadd]
        · simp [kv, e]
theorem zEq (hc : Cw c) (f : α → α → α) : ∀ (L l : List (Rw × α)), Srt c l → Srt c (acc c f l L)
  | [], l, h => h
  | p :: L, l, h => zEq hc f L _ (zMv hc h)
theorem zJa (hc : Cw c) (f : α → α → α) : ∀ (L l : List (Rw × α)) (s : Rw), Srt c l → kv (acc c f l L) s = ev f (kv l s) L s
  | [], l, s, h => rfl
  | p :: L, l, s, h => by
    have := zJa hc f L _ s (zMv (f := f) (r := p.1) (v := p.2) hc h)
    rw [zWj hc h] at this
    simpa [acc, ev] using this
theorem zQ9 (f : α → α → α) : ∀ (L : List (Rw × α)) (o : Option α) (s : Rw), s ∉ L.map (·.1) → ev f o L s = o
  | [], o, s, h => rfl
  | p :: L, o, s, h => by
    simp only [List.map_cons, List.mem_cons, not_or] at h
    simp only [ev, List.foldl_cons, if_neg (Ne.symm h.1)]
    exact zQ9 f L o s h.2
theorem zL7 (f : α → α → α) : ∀ (L : List (Rw × α)) (s : Rw), Ndk L → ev f none L s = kv L s
  | [], s, h => rfl
  | (r, u) :: L, s, h => by
    have h' : r ∉ L.map (·.1) ∧ Ndk L := by simpa [Ndk] using h
    simp only [ev, List.foldl_cons, kv]
    split
    · rename_i e; subst e; exact zQ9 f L _ r h'.1
    · exact zL7 f L s h'.2
theorem zSi (hc : Cw c) (f : α → α → α) {l L : List (Rw × α)} (hp : l.Perm L) (hs : Srt c l) (hn : Ndk L) : l = acc c f [] L :=
  Srt.uniq hc hs (zEq hc f L [] List.Pairwise.nil) fun r => by
    rw [zJa hc f L [] r List.Pairwise.nil, zW6 hn hp, ← zL7 f L r hn]; rfl
theorem acc_self (hc : Cw c) (f : α → α → α) {l : List (Rw × α)} (hs : Srt c l) : acc c f [] l = l := (zSi hc f (.refl l) hs (hs.ndk hc)).symm
theorem zFb {f : α → α → α} {r : Rw} {v : α} : ∀ {l : List (Rw × α)}, (addT f r v l).map (·.1) = if r ∈ l.map (·.1) then l.map (·.1) else l.map (·.1) ++ [r]
  | [] => rfl
  | (s, u) :: l => by
    simp only [addT]
    split
    · rename_i e; subst e; simp
    · rename_i e
      simp only [List.map_cons, zFb (l := l), List.mem_cons, Ne.symm e, false_or]
      split <;> simp
theorem addT_ndk {f : α → α → α} {r : Rw} {v : α} {l : List (Rw × α)} (h : Ndk l) : Ndk (addT f r v l) := by
  unfold Ndk at *
  rw [zFb]
  split
  · exact h
  · rename_i k
    rw [List.nodup_append]
    refine ⟨h, by simp, fun a ha b hb => ?_⟩
    simp at hb; subst hb
    exact fun e => k (e ▸ ha)
theorem zYh {f : α → α → α} {r : Rw} {v : α} : ∀ {l : List (Rw × α)} (s : Rw), kv (addT f r v l) s = if r = s then oadd f (kv l s) (some v) else kv l s
  | [], s => by simp [addT, kv, oadd]
  | (t, u) :: l, s => by
    simp only [addT]
    split
    · rename_i e; subst e
      by_cases e : t = s
      · subst e; simp [kv, oadd]
      · simp [kv, e]
    · rename_i e
      simp only [kv, zYh (l := l) s]
      by_cases e2 : r = s
      · subst e2; simp [e]
      · simp [e2]
def sumT (f : α → α → α) (l L : List (Rw × α)) : List (Rw × α) := L.foldl (fun l p => addT f p.1 p.2 l) l
theorem zJj (f : α → α → α) : ∀ (L l : List (Rw × α)), Ndk l → Ndk (sumT f l L)
  | [], l, h => h
  | p :: L, l, h => zJj f L _ (addT_ndk h)
theorem zV2 (f : α → α → α) : ∀ (L l : List (Rw × α)) (s : Rw), kv (sumT f l L) s = ev f (kv l s) L s
  | [], l, s => rfl
  | p :: L, l, s => by
    have := zV2 f L (addT f p.1 p.2 l) s
    rw [zYh] at this
    simpa [sumT, ev] using this
theorem zWq (hc : Cw c) (f : α → α → α) {l L : List (Rw × α)} (hp : l.Perm (sumT f [] L)) (hs : Srt c l) : l = acc c f [] L :=
  Srt.uniq hc hs (zEq hc f L [] List.Pairwise.nil) fun r => by
    rw [zJa hc f L [] r List.Pairwise.nil, zW6 (zJj f L [] (by simp [Ndk])) hp, zV2]
theorem zKe (f : α → α → α) (x : Option α) : oadd f x none = x := by cases x <;> rfl
theorem zPm (f : α → α → α) (x : Option α) : oadd f none x = x := rfl
end
section
variable {α : Type} (S : Sr α)
theorem oadd_c (x y : Option α) : oadd S.add x y = oadd S.add y x := by cases x <;> cases y <;> simp [oadd, S.ac]
theorem zPj (x y z : Option α) : oadd S.add (oadd S.add x y) z = oadd S.add x (oadd S.add y z) := by cases x <;> cases y <;> cases z <;> simp [oadd, S.aa]
theorem zSp (x y : Option α) : omul S.mul x y = omul S.mul y x := by cases x <;> cases y <;> simp [omul, S.mc]
theorem zPh (x y z : Option α) : omul S.mul (omul S.mul x y) z = omul S.mul x (omul S.mul y z) := by cases x <;> cases y <;> cases z <;> simp [omul, S.ma]
theorem omul_d (x y z : Option α) : omul S.mul x (oadd S.add y z) = oadd S.add (omul S.mul x y) (omul S.mul x z) := by cases x <;> cases y <;> cases z <;> simp [omul, oadd, S.dl]
theorem zSo (x : Option α) : omul S.mul x none = none := by cases x <;> rfl
def osum (l : List (Option α)) : Option α := l.foldr (oadd S.add) none
theorem zDx (x : Option α) (l : List (Option α)) : osum S (x :: l) = oadd S.add x (osum S l) := rfl
theorem zPf {β : Type} (l : List β) : osum S (l.map fun _ => none) = none := by
  induction l with
  | nil => rfl
  | cons x l ih => rw [List.map_cons, zDx, ih]; rfl
theorem zZp {β : Type} (l : List β) (f g : β → Option α) : osum S (l.map fun x => oadd S.add (f x) (g x)) = oadd S.add (osum S (l.map f)) (osum S (l.map g)) := by
  induction l with
  | nil => rfl
  | cons x l ih => simp only [List.map_cons, zDx, ih]; rw [zPj, zPj, ← zPj S (g x), oadd_c S (g x), zPj]
theorem zZo {β : Type} (l : List β) (y : Option α) (f : β → Option α) : osum S (l.map fun x => omul S.mul y (f x)) = omul S.mul y (osum S (l.map f)) := by
  induction l with
  | nil => simp [osum, zSo]
  | cons x l ih => simp only [List.map_cons, zDx, ih, omul_d]
theorem zPe {β γ : Type} (l : List β) (m : List γ) (f : β → γ → Option α) : osum S (l.map fun x => osum S (m.map fun y => f x y)) = osum S (m.map fun y => osum S (l.map fun x => f x y)) := by
  induction l with
  | nil => simp only [List.map_nil]; exact (zPf S m).symm
  | cons x l ih => simp only [List.map_cons, zDx, ih, zZp]
theorem zSj {β : Type} [DecidableEq β] : ∀ (l : List β) (x : β) (v : Option α), l.Nodup → x ∈ l → osum S (l.map fun y => if y = x then v else none) = v
  | [], x, v, _, h => by simp at h
  | y :: l, x, v, hn, h => by
    rw [List.nodup_cons] at hn
    simp only [List.map_cons, zDx]
    by_cases e : y = x
    · subst e
      rw [if_pos rfl]
      have : l.map (fun z => if z = y then v else none) = l.map fun _ => none := List.map_congr_left fun z hz => if_neg (by intro e; subst e; exact hn.1 hz)
      rw [this, zPf, zKe]
    · rw [if_neg e, zPm]
      exact zSj l x v hn.2 ((List.mem_cons.1 h).resolve_left (Ne.symm e))
end
section
variable {α : Type}
def asg (A : List Nat) (x : Rw) (v : Nat) : Va := x.getD (A.idxOf v) default
def un (A B : List Nat) : List Nat := (List.range 32).filter fun v => decide (v ∈ A ∨ v ∈ B)
def mt (A : List Nat) (x : Rw) (B : List Nat) (y : Rw) : Bool := A.all fun v => decide (v ∈ B → asg A x v = asg B y v)
def sg (A : List Nat) (x : Rw) (B : List Nat) (y : Rw) (v : Nat) : Va := if v ∈ A then asg A x v else asg B y v
def mg (A : List Nat) (x : Rw) (B : List Nat) (y : Rw) : Rw := (un A B).map (sg A x B y)
def zBb (f : α → α → α) (A : List Nat) (la : List (Rw × α)) (B : List Nat) (lb : List (Rw × α)) : List (Rw × α) :=
  la.flatMap fun p => (lb.filter fun q => mt A p.1 B q.1).map fun q => (mg A p.1 B q.1, f p.2 q.2)
def Asc (A : List Nat) : Prop := A.Pairwise (· < ·) ∧ ∀ v ∈ A, v < 32
def Lens (n : Nat) (l : List (Rw × α)) : Prop := ∀ p ∈ l, p.1.length = n
theorem Asc.nd {A : List Nat} (h : Asc A) : A.Nodup := h.1.imp fun h => Nat.ne_of_lt h
theorem zHq {A : List Nat} (σ : Nat → Va) {v : Nat} (h : v ∈ A) : asg A (A.map σ) v = σ v := by
  have hi := List.idxOf_lt_length_iff.2 h
  unfold asg
  rw [List.getD_eq_getElem?_getD, List.getElem?_map, List.getElem?_eq_getElem hi]
  simp
theorem zHa {A : List Nat} (hn : A.Nodup) {x : Rw} (hl : x.length = A.length) : A.map (asg A x) = x := by
  apply List.ext_getElem (by simp [hl])
  intro i h1 h2
  have hi : i < A.length := by simpa using h1
  simp only [List.getElem_map, asg]
  rw [List.Nodup.idxOf_getElem hn i hi, List.getD_eq_getElem?_getD, List.getElem?_eq_getElem h2]; rfl
theorem zCq {A B : List Nat} {v : Nat} : v ∈ un A B ↔ v < 32 ∧ (v ∈ A ∨ v ∈ B) := by simp [un]
theorem zRv (A B : List Nat) : Asc (un A B) := ⟨(List.pairwise_lt_range (n := 32)).filter _, fun v h => (zCq.1 h).1⟩
theorem zDn {A : List Nat} {σ τ : Nat → Va} : A.map σ = A.map τ ↔ ∀ v ∈ A, σ v = τ v := List.map_inj_left
theorem zSv {A B : List Nat} (hA : Asc A) (hB : Asc B) {x y : Rw} (hx : x.length = A.length) (hy : y.length = B.length) {σ : Nat → Va} :
    (mt A x B y = true ∧ mg A x B y = (un A B).map σ) ↔ x = A.map σ ∧ y = B.map σ := by
  constructor
  · rintro ⟨h1, h2⟩
    simp only [mt, List.all_eq_true, decide_eq_true_eq] at h1
    rw [mg, zDn] at h2
    refine ⟨?_, ?_⟩
    · rw [← zHa hA.nd hx, zDn]
      intro v hv
      have := h2 v (zCq.2 ⟨hA.2 v hv, .inl hv⟩)
      rw [sg, if_pos hv] at this; exact this
    · rw [← zHa hB.nd hy, zDn]
      intro v hv
      have := h2 v (zCq.2 ⟨hB.2 v hv, .inr hv⟩)
      by_cases ha : v ∈ A
      · rw [sg, if_pos ha, h1 v ha hv] at this; exact this
      · rw [sg, if_neg ha] at this; exact this
  · rintro ⟨rfl, rfl⟩
    refine ⟨?_, ?_⟩
    · simp only [mt, List.all_eq_true, decide_eq_true_eq]
      intro v hv hb
      rw [zHq σ hv, zHq σ hb]
    · rw [mg, zDn]
      intro v hv
      unfold sg
      split
      · rename_i h; rw [zHq σ h]
      · rename_i h; rw [zHq σ ((zCq.1 hv).2.resolve_left h)]
theorem zGm {f : α → α → α} {A B : List Nat} {la lb : List (Rw × α)} {s : Rw} {u : α} : (s, u) ∈ zBb f A la B lb ↔ ∃ p ∈ la, ∃ q ∈ lb, mt A p.1 B q.1 = true ∧ mg A p.1 B q.1 = s ∧ f p.2 q.2 = u := by
  simp only [zBb, List.mem_flatMap, List.mem_map, List.mem_filter, Prod.mk.injEq]
  constructor
  · rintro ⟨p, hp, q, ⟨h1, h2⟩, h3, h4⟩; exact ⟨p, hp, q, h1, h2, h3, h4⟩
  · rintro ⟨p, hp, q, h1, h2, h3, h4⟩; exact ⟨p, hp, q, ⟨h1, h2⟩, h3, h4⟩
theorem mg_inj {A B : List Nat} (hA : Asc A) (hB : Asc B) {x y x' y' : Rw} (hx : x.length = A.length) (hy : y.length = B.length) (hx' : x'.length = A.length) (hy' : y'.length = B.length) (h : mt A x B y = true) (h' : mt A x' B y' = true) (he : mg A x B y = mg A x' B y') : x = x' ∧ y = y' := by
  have h1 := (zSv hA hB hx hy (σ := sg A x B y)).1 ⟨h, rfl⟩
  have h2 := (zSv hA hB hx' hy' (σ := sg A x B y)).1 ⟨h', he.symm⟩
  exact ⟨h1.1.trans h2.1.symm, h1.2.trans h2.2.symm⟩
theorem zGl {f : α → α → α} {A B : List Nat} (hA : Asc A) (hB : Asc B) {la lb : List (Rw × α)} (na : Ndk la) (nb : Ndk lb) (ha : Lens A.length la) (hb : Lens B.length lb) : Ndk (zBb f A la B lb) := by
  unfold Ndk List.Nodup at *
  rw [List.pairwise_map] at *
  unfold zBb
  rw [List.pairwise_flatMap]
  refine ⟨fun p hp => ?_, ?_⟩
  · rw [List.pairwise_map]
    refine (nb.filter _).imp_of_mem fun {q r} hq hr hne e => ?_
    rw [List.mem_filter] at hq hr
    exact hne (mg_inj hA hB (ha p hp) (hb q hq.1) (ha p hp) (hb r hr.1) hq.2 hr.2 e).2
  · refine na.imp_of_mem fun {p r} hp hr hne => ?_
    intro s hs t ht e
    simp only [List.mem_map, List.mem_filter] at hs ht
    obtain ⟨q, ⟨hq, h1⟩, rfl⟩ := hs
    obtain ⟨q', ⟨hq', h2⟩, rfl⟩ := ht
    exact hne (mg_inj hA hB (ha p hp) (hb q hq) (ha r hr) (hb q' hq') h1 h2 e).1
theorem zZc {f : α → α → α} {A B : List Nat} (hA : Asc A) (hB : Asc B) {la lb : List (Rw × α)} (na : Ndk la) (nb : Ndk lb) (ha : Lens A.length la) (hb : Lens B.length lb) (σ : Nat → Va) :
    kv (zBb f A la B lb) ((un A B).map σ) = omul f (kv la (A.map σ)) (kv lb (B.map σ)) := by
  have hn := zGl (f := f) hA hB na nb ha hb
  have key : ∀ u, ((un A B).map σ, u) ∈ zBb f A la B lb ↔ ∃ p q, (A.map σ, p) ∈ la ∧ (B.map σ, q) ∈ lb ∧ f p q = u := by
    intro u
    rw [zGm]
    constructor
    · rintro ⟨p, hp, q, hq, h1, h2, h3⟩
      obtain ⟨e1, e2⟩ := (zSv hA hB (ha p hp) (hb q hq)).1 ⟨h1, h2⟩
      exact ⟨p.2, q.2, by rw [← e1]; exact hp, by rw [← e2]; exact hq, h3⟩
    · rintro ⟨p, q, hp, hq, h3⟩
      obtain ⟨e1, e2⟩ := (zSv hA hB (x := A.map σ) (y := B.map σ) (by simp) (by simp)).2 ⟨rfl, rfl⟩
      exact ⟨_, hp, _, hq, e1, e2, h3⟩
  cases e1 : kv la (A.map σ) with
  | none =>
    simp only [omul]
    cases e : kv (zBb f A la B lb) ((un A B).map σ) with
    | none => rfl
    | some u =>
      obtain ⟨p, q, hp, hq, _⟩ := (key u).1 ((zDz hn).1 e)
      rw [(zDz na).2 hp] at e1; cases e1
  | some p =>
    cases e2 : kv lb (B.map σ) with
    | none =>
      simp only [omul]
      cases e : kv (zBb f A la B lb) ((un A B).map σ) with
      | none => rfl
      | some u =>
        obtain ⟨p, q, hp, hq, _⟩ := (key u).1 ((zDz hn).1 e)
        rw [(zDz nb).2 hq] at e2; cases e2
    | some q => exact (zDz hn).2 ((key _).2 ⟨p, q, (zDz na).1 e1, (zDz nb).1 e2, rfl⟩)
def upd (σ : Nat → Va) (v : Nat) (x : Va) (w : Nat) : Va := if w = v then x else σ w
def zHn (A : List Nat) (v : Nat) (l : List (Rw × α)) : List (Rw × α) := l.map fun p => (p.1.eraseIdx (A.idxOf v), p.2)
def less (A : List Nat) (v : Nat) : List Nat := A.filter fun u => decide (u ≠ v)
theorem zPt {β γ : Type} (f : β → γ) (l : List β) (i : Nat) : (l.map f).eraseIdx i = (l.eraseIdx i).map f := by
  rw [List.eraseIdx_eq_take_drop_succ, List.eraseIdx_eq_take_drop_succ, List.map_append, List.map_take, List.map_drop]
theorem zC2 {A : List Nat} (h : A.Nodup) (v : Nat) : A.eraseIdx (A.idxOf v) = less A v := by
  rw [← List.erase_eq_eraseIdx_of_idxOf rfl, h.erase_eq_filter]
  unfold less
  refine List.filter_congr fun x _ => ?_
  by_cases e : x = v <;> simp [e]
theorem zXm (S : Sr α) : ∀ (L : List (Rw × α)) (o : Option α) (r : Rw), ev S.add o L r = oadd S.add o (osum S (L.map fun p => if p.1 = r then some p.2 else none))
  | [], o, r => (zKe _ o).symm
  | p :: L, o, r => by
    simp only [ev, List.foldl_cons, List.map_cons, zDx]
    have ih := zXm S L
    simp only [ev] at ih
    rw [ih, ← zPj]
    congr 1
    split
    · rfl
    · rw [zKe]
theorem sum_ev (S : Sr α) {A : List Nat} (hA : A.Nodup) {v : Nat} (hv : v ∈ A) (Dm : List Va) (hD : Dm.Nodup) {l : List (Rw × α)} (hl : Lens A.length l) (hi : ∀ p ∈ l, ∀ a ∈ p.1, a ∈ Dm) (σ : Nat → Va) :
    ev S.add none (zHn A v l) ((less A v).map σ) = osum S (Dm.map fun x => ev S.add none l (A.map (upd σ v x))) := by
  simp only [zXm, zPm, zHn, List.map_map]
  rw [zPe]
  congr 1
  refine List.map_congr_left fun p hp => ?_
  have hlen := hl p hp
  have hx : A.map (asg A p.1) = p.1 := zHa hA hlen
  have hin : asg A p.1 v ∈ Dm := by
    have hi' := List.idxOf_lt_length_iff.2 hv
    unfold asg
    rw [List.getD_eq_getElem?_getD, List.getElem?_eq_getElem (by rw [hlen]; exact hi')]
    exact hi p hp _ (List.getElem_mem _)
  have he : p.1.eraseIdx (A.idxOf v) = (less A v).map (asg A p.1) := by
    conv => lhs; rw [← hx, zPt, zC2 hA]
  have key : ∀ x, p.1 = A.map (upd σ v x) ↔ x = asg A p.1 v ∧ p.1.eraseIdx (A.idxOf v) = (less A v).map σ := by
    intro x
    rw [he, zDn]
    constructor
    · intro h
      rw [← hx, zDn] at h
      refine ⟨?_, fun w hw => ?_⟩
      · have := h v hv; simpa [upd] using this.symm
      · simp only [less, List.mem_filter, decide_eq_true_eq] at hw
        have := h w hw.1
        rw [this, upd, if_neg hw.2]
    · rintro ⟨rfl, h⟩
      conv => lhs; rw [← hx]
      rw [zDn]
      intro w hw
      unfold upd
      split
      · rename_i e; rw [e]
      · rename_i e; exact h w (by simp [less, hw, e])
  have : (Dm.map fun x => if p.1 = A.map (upd σ v x) then some p.2 else none) = Dm.map fun x => if x = asg A p.1 v then (if p.1.eraseIdx (A.idxOf v) = (less A v).map σ then some p.2 else none) else none := by
    refine List.map_congr_left fun x _ => ?_
    by_cases h1 : x = asg A p.1 v
    · rw [if_pos h1]
      by_cases h2 : p.1.eraseIdx (A.idxOf v) = (less A v).map σ
      · rw [if_pos h2, if_pos ((key x).2 ⟨h1, h2⟩)]
      · rw [if_neg h2, if_neg fun h => h2 ((key x).1 h).2]
    · rw [if_neg h1, if_neg fun h => h1 ((key x).1 h).1]
  rw [this, zSj S Dm _ _ hD hin]
  rfl
structure Fa (α : Type) where
  A : List Nat
  l : List (Rw × α)
structure FOk (c : Rw → Rw → Int) (Dm : List Va) (f : Fa α) : Prop where
  asc : Asc f.A
  len : Lens f.A.length f.l
  srt : Srt c f.l
  dom : ∀ p ∈ f.l, ∀ a ∈ p.1, a ∈ Dm
def den (f : Fa α) (σ : Nat → Va) : Option α := kv f.l (f.A.map σ)
def okO (U : List Nat) (s : Rw) (o : Fa α) : Bool := o.l.any fun q => o.A.all fun v => decide (v ∈ U → asg o.A q.1 v = asg U s v)
def fmul (c : Rw → Rw → Int) (S : Sr α) (f g : Fa α) (os : List (Fa α)) : Fa α :=
  ⟨un f.A g.A, acc c S.add [] ((zBb S.mul f.A f.l g.A g.l).filter fun p => os.all fun o => okO (un f.A g.A) p.1 o)⟩
def fsum (c : Rw → Rw → Int) (S : Sr α) (v : Nat) (f : Fa α) : Fa α := ⟨less f.A v, acc c S.add [] (zHn f.A v f.l)⟩
def zAq (S : Sr α) : Fa α := ⟨[], [([], S.one)]⟩
def proF (S : Sr α) (fs : List (Fa α)) (σ : Nat → Va) : Option α := fs.foldr (fun f o => omul S.mul (den f σ) o) (some S.one)
def zCl (c : Rw → Rw → Int) (S : Sr α) : Fa α → List (Fa α) → List (Fa α) → Fa α
  | p, [], os => p
  | p, f :: fs, os => zCl c S (fmul c S p f (fs ++ os)) fs os
def zFr (v : Nat) (fs : List (Fa α)) : List (Fa α) := fs.filter fun f => decide (v ∈ f.A)
def zEb (v : Nat) (fs : List (Fa α)) : List (Fa α) := fs.filter fun f => decide (v ∉ f.A)
def elim (c : Rw → Rw → Int) (S : Sr α) (v : Nat) (fs : List (Fa α)) : List (Fa α) := match zFr v fs with
  | [] => fs
  | p :: ws => zEb v fs ++ [fsum c S v (zCl c S p ws (zEb v fs))]
def zF5 (S : Sr α) (Dm : List Va) : List Nat → ((Nat → Va) → Option α) → (Nat → Va) → Option α
  | [], F => F
  | v :: vs, F => zF5 S Dm vs fun σ => osum S (Dm.map fun x => F (upd σ v x))
variable {c : Rw → Rw → Int} {S : Sr α} {Dm : List Va}
theorem zGu (q : Rw → Bool) : ∀ (l : List (Rw × α)) (r : Rw), kv (l.filter fun p => q p.1) r = if q r then kv l r else none
  | [], r => by simp [kv]
  | (s, u) :: l, r => by
    rw [List.filter_cons]
    by_cases e : s = r
    · subst e
      cases h : q s
      · have := zGu q l s
        rw [h] at this
        simpa [kv] using this
      · simp [kv]
    · cases h : q s
      · simp [kv, e, zGu q l r]
      · simp [kv, e, zGu q l r]
theorem zG8 (q : Rw → Bool) {l : List (Rw × α)} (h : Ndk l) : Ndk (l.filter fun p => q p.1) := by
  unfold Ndk List.Nodup at *
  rw [List.pairwise_map] at *
  exact h.filter _
theorem zRn {c : Rw → Rw → Int} (hc : Cw c) {f : α → α → α} {L : List (Rw × α)} {p : Rw × α} (h : p ∈ acc c f [] L) : p.1 ∈ L.map (·.1) := by
  have hs := zEq hc f L [] List.Pairwise.nil
  have h1 : kv (acc c f [] L) p.1 = some p.2 := (zDz (hs.ndk hc)).2 h
  rw [zJa hc f L [] p.1 List.Pairwise.nil] at h1
  refine Classical.byContradiction fun hn => ?_
  rw [zQ9 f L _ _ hn] at h1
  cases h1
theorem mg_dom {A B : List Nat} {x y : Rw} (hx : x.length = A.length) (hy : y.length = B.length) (h1 : ∀ a ∈ x, a ∈ Dm) (h2 : ∀ a ∈ y, a ∈ Dm) : ∀ a ∈ mg A x B y, a ∈ Dm := by
  have get : ∀ {A : List Nat} {x : Rw} {v : Nat}, x.length = A.length → (∀ a ∈ x, a ∈ Dm) → v ∈ A → asg A x v ∈ Dm := fun {A x v} hx h hv => by
    have hi' := List.idxOf_lt_length_iff.2 hv
    unfold asg
    rw [List.getD_eq_getElem?_getD, List.getElem?_eq_getElem (by rw [hx]; exact hi')]
    exact h _ (List.getElem_mem _)
  intro a ha
  obtain ⟨v, hv, rfl⟩ := List.mem_map.1 ha
  unfold sg
  split
  · rename_i h; exact get hx h1 h
  · rename_i h; exact get hy h2 ((zCq.1 hv).2.resolve_left h)
theorem FOk.ndk (hc : Cw c) {f : Fa α} (h : FOk c Dm f) : Ndk f.l := h.srt.ndk hc
theorem zHk (hc : Cw c) {f g : Fa α} (hf : FOk c Dm f) (hg : FOk c Dm g) (os : List (Fa α)) : FOk c Dm (fmul c S f g os) := by
  have key : ∀ p ∈ (fmul c S f g os).l, p.1.length = (un f.A g.A).length ∧ ∀ a ∈ p.1, a ∈ Dm := by
    intro p hp
    obtain ⟨q, hq, e⟩ := List.mem_map.1 (zRn hc hp)
    rw [List.mem_filter] at hq
    obtain ⟨x, hx, y, hy, _, h2, _⟩ := (zGm (s := q.1) (u := q.2)).1 hq.1
    rw [← e, ← h2]
    exact ⟨by simp [mg], mg_dom (hf.len x hx) (hg.len y hy) (hf.dom x hx) (hg.dom y hy)⟩
  exact ⟨zRv _ _, fun p hp => (key p hp).1, zEq hc _ _ _ List.Pairwise.nil, fun p hp => (key p hp).2⟩
theorem zS5 (hc : Cw c) {f g : Fa α} (hf : FOk c Dm f) (hg : FOk c Dm g) (os : List (Fa α)) (σ : Nat → Va) :
    den (fmul c S f g os) σ = if (os.all fun o => okO (un f.A g.A) ((un f.A g.A).map σ) o) = true then omul S.mul (den f σ) (den g σ) else none := by
  have hn := zGl (f := S.mul) hf.asc hg.asc (hf.ndk hc) (hg.ndk hc) hf.len hg.len
  show kv (acc c S.add [] _) _ = _
  rw [zJa hc _ _ _ _ List.Pairwise.nil, show kv ([] : List (Rw × α)) ((fmul c S f g os).A.map σ) = none from rfl, zL7 _ _ _ (zG8 (fun s => os.all fun o => okO (un f.A g.A) s o) hn), zGu (fun s => os.all fun o => okO (un f.A g.A) s o)]
  show (if _ then kv _ ((un f.A g.A).map σ) else none) = _
  rw [zZc hf.asc hg.asc (hf.ndk hc) (hg.ndk hc) hf.len hg.len]
  rfl
theorem okO_den (hc : Cw c) {o : Fa α} (ho : FOk c Dm o) {U : List Nat} {σ : Nat → Va} {u : α} (h : den o σ = some u) : okO U (U.map σ) o = true := by
  have hm := (zDz (ho.ndk hc)).1 h
  rw [okO, List.any_eq_true]
  refine ⟨_, hm, ?_⟩
  simp only [List.all_eq_true, decide_eq_true_eq]
  intro v hv hu
  rw [zHq σ hv, zHq σ hu]
theorem zZh (fs gs : List (Fa α)) (σ : Nat → Va) : proF S (fs ++ gs) σ = omul S.mul (proF S fs σ) (proF S gs σ) := by
  induction fs with
  | nil => simp only [List.nil_append, proF, List.foldr_nil]; cases gs.foldr (fun f o => omul S.mul (den f σ) o) (some S.one) <;> simp [omul, S.om]
  | cons f fs ih => simp only [proF, List.cons_append, List.foldr_cons] at ih ⊢; rw [ih, zPh]
theorem zWo {fs : List (Fa α)} {f : Fa α} (hf : f ∈ fs) {σ : Nat → Va} (h : den f σ = none) : proF S fs σ = none := by
  induction fs with
  | nil => simp at hf
  | cons g fs ih =>
    simp only [proF, List.foldr_cons] at ih ⊢
    rcases List.mem_cons.1 hf with e | e
    · subst e; rw [h]; rfl
    · rw [ih e, zSo]
theorem zWn {fs gs : List (Fa α)} (h : fs.Perm gs) (σ : Nat → Va) : proF S fs σ = proF S gs σ := by
  induction h with
  | nil => rfl
  | cons x _ ih => simp only [proF, List.foldr_cons] at ih ⊢; rw [ih]
  | swap x y l => simp only [proF, List.foldr_cons]; rw [← zPh, ← zPh, zSp S (den y σ)]
  | trans _ _ h1 h2 => exact h1.trans h2
theorem fmul_pro (hc : Cw c) {f g : Fa α} (hf : FOk c Dm f) (hg : FOk c Dm g) {os : List (Fa α)} (ho : ∀ o ∈ os, FOk c Dm o) (σ : Nat → Va) :
    omul S.mul (den (fmul c S f g os) σ) (proF S os σ) = omul S.mul (omul S.mul (den f σ) (den g σ)) (proF S os σ) := by
  rw [zS5 hc hf hg]
  split
  · rfl
  · rename_i h
    simp only [List.all_eq_true, Classical.not_forall] at h
    obtain ⟨o, hm, h⟩ := h
    have : den o σ = none := by
      cases e : den o σ with
      | none => rfl
      | some u => exact absurd (okO_den hc (ho o hm) e) h
    rw [zWo hm this, zSo, zSo]
theorem zJm (hc : Cw c) : ∀ (fs : List (Fa α)) (p : Fa α) (os : List (Fa α)), FOk c Dm p → (∀ f ∈ fs, FOk c Dm f) → FOk c Dm (zCl c S p fs os)
  | [], p, os, hp, _ => hp
  | f :: fs, p, os, hp, hf => zJm hc fs _ os (zHk hc hp (hf f (List.mem_cons_self ..)) _) fun g hg => hf g (List.mem_cons_of_mem _ hg)
theorem zKz (hc : Cw c) (σ : Nat → Va) : ∀ (fs : List (Fa α)) (p : Fa α) (os : List (Fa α)), FOk c Dm p → (∀ f ∈ fs, FOk c Dm f) → (∀ f ∈ os, FOk c Dm f) →
    omul S.mul (den (zCl c S p fs os) σ) (proF S os σ) = omul S.mul (den p σ) (proF S (fs ++ os) σ)
  | [], p, os, hp, _, _ => rfl
  | f :: fs, p, os, hp, hf, ho => by
    have h1 := hf f (List.mem_cons_self ..)
    have h2 : ∀ g ∈ fs, FOk c Dm g := fun g hg => hf g (List.mem_cons_of_mem _ hg)
    rw [zCl, zKz hc σ fs _ os (zHk hc hp h1 _) h2 ho, fmul_pro hc hp h1 fun o hm => (List.mem_append.1 hm).elim (h2 o) (ho o), zPh]
    rfl
theorem zNa : ∀ (fs : List (Fa α)) (p : Fa α) (os : List (Fa α)), (∀ v ∈ p.A, v < 32) → (∀ f ∈ fs, ∀ v ∈ f.A, v < 32) → ∀ v, v ∈ (zCl c S p fs os).A ↔ v ∈ p.A ∨ ∃ f ∈ fs, v ∈ f.A
  | [], p, os, _, _, v => by simp [zCl]
  | f :: fs, p, os, hp, hf, v => by
    have h1 := hf f (List.mem_cons_self ..)
    rw [zCl, zNa fs _ os (fun w hw => (zCq.1 hw).1) (fun g hg => hf g (List.mem_cons_of_mem _ hg))]
    have : v ∈ (fmul c S p f (fs ++ os)).A ↔ v < 32 ∧ (v ∈ p.A ∨ v ∈ f.A) := zCq
    rw [this]
    constructor
    · rintro (⟨_, h | h⟩ | ⟨g, hg, h⟩)
      · exact .inl h
      · exact .inr ⟨f, List.mem_cons_self .., h⟩
      · exact .inr ⟨g, List.mem_cons_of_mem _ hg, h⟩
    · rintro (h | ⟨g, hg, h⟩)
      · exact .inl ⟨hp v h, .inl h⟩
      · rcases List.mem_cons.1 hg with rfl | hg
        · exact .inl ⟨h1 v h, .inr h⟩
        · exact .inr ⟨g, hg, h⟩
theorem zCf {A : List Nat} {v w : Nat} : w ∈ less A v ↔ w ∈ A ∧ w ≠ v := by simp [less]
theorem zM2 {A : List Nat} (h : Asc A) (v : Nat) : Asc (less A v) := ⟨h.1.filter _, fun w hw => h.2 w (zCf.1 hw).1⟩
theorem zQ4 (hc : Cw c) {f : Fa α} (hf : FOk c Dm f) (v : Nat) : FOk c Dm (fsum c S v f) := by
  have key : ∀ p ∈ (fsum c S v f).l, p.1.length = (less f.A v).length ∧ ∀ a ∈ p.1, a ∈ Dm := by
    intro p hp
    obtain ⟨q, hq, e⟩ := List.mem_map.1 (zRn hc hp)
    obtain ⟨r, hr, rfl⟩ := List.mem_map.1 hq
    have hl := hf.len r hr
    rw [← e, ← zC2 hf.asc.nd]
    exact ⟨by rw [List.length_eraseIdx, List.length_eraseIdx, hl], fun a ha => hf.dom r hr a (List.mem_of_mem_eraseIdx ha)⟩
  exact ⟨zM2 hf.asc v, fun p hp => (key p hp).1, zEq hc _ _ _ List.Pairwise.nil, fun p hp => (key p hp).2⟩
theorem zS4 (hc : Cw c) (hD : Dm.Nodup) {f : Fa α} (hf : FOk c Dm f) {v : Nat} (hv : v ∈ f.A) (σ : Nat → Va) : den (fsum c S v f) σ = osum S (Dm.map fun x => den f (upd σ v x)) := by
  show kv (acc c S.add [] _) ((less f.A v).map σ) = _
  rw [zJa hc _ _ _ _ List.Pairwise.nil]
  refine (sum_ev S hf.asc.nd hv Dm hD hf.len hf.dom σ).trans ?_
  congr 1
  refine List.map_congr_left fun x _ => ?_
  exact zL7 _ _ _ (hf.ndk hc)
theorem den_upd {f : Fa α} {v : Nat} (hv : v ∉ f.A) (σ : Nat → Va) (x : Va) : den f (upd σ v x) = den f σ := by
  unfold den
  congr 1
  rw [zDn]
  intro w hw
  unfold upd
  rw [if_neg (by intro e; subst e; exact hv hw)]
theorem zZg {fs : List (Fa α)} {v : Nat} (hv : ∀ f ∈ fs, v ∉ f.A) (σ : Nat → Va) (x : Va) : proF S fs (upd σ v x) = proF S fs σ := by
  induction fs with
  | nil => rfl
  | cons f fs ih =>
    simp only [proF, List.foldr_cons] at ih ⊢
    rw [den_upd (hv f (List.mem_cons_self ..)), ih fun g hg => hv g (List.mem_cons_of_mem _ hg)]
theorem zDt (v : Nat) (fs : List (Fa α)) : (zFr v fs ++ zEb v fs).Perm fs := by
  have := List.filter_append_perm (fun f : Fa α => decide (v ∈ f.A)) fs
  simpa [zFr, zEb] using this
theorem zXo (hc : Cw c) {fs : List (Fa α)} (hf : ∀ f ∈ fs, FOk c Dm f) (v : Nat) : ∀ f ∈ elim c S v fs, FOk c Dm f := by
  unfold elim
  split
  · exact hf
  · rename_i p ws e
    have hw : ∀ f ∈ zFr v fs, FOk c Dm f := fun f h => hf f (List.mem_filter.1 h).1
    rw [e] at hw
    intro f h
    rcases List.mem_append.1 h with h | h
    · exact hf f (List.mem_filter.1 h).1
    · simp only [List.mem_singleton] at h
      subst h
      exact zQ4 hc (zJm hc ws p _ (hw p (List.mem_cons_self ..)) fun g hg => hw g (List.mem_cons_of_mem _ hg)) v
theorem elim_pro (hc : Cw c) (hD : Dm.Nodup) {fs : List (Fa α)} (hf : ∀ f ∈ fs, FOk c Dm f) {v : Nat} (hv : ∃ f ∈ fs, v ∈ f.A) (σ : Nat → Va) : proF S (elim c S v fs) σ = osum S (Dm.map fun x => proF S fs (upd σ v x)) := by
  have hw : ∀ f ∈ zFr v fs, FOk c Dm f ∧ v ∈ f.A := fun f h => by
    rw [zFr, List.mem_filter] at h
    exact ⟨hf f h.1, by simpa using h.2⟩
  have ho : ∀ f ∈ zEb v fs, FOk c Dm f := fun f h => hf f (List.mem_filter.1 h).1
  have ho2 : ∀ f ∈ zEb v fs, v ∉ f.A := fun f h => by
    rw [zEb, List.mem_filter] at h
    simpa using h.2
  have hp := zDt v fs
  unfold elim
  split
  · rename_i e
    obtain ⟨f, h1, h2⟩ := hv
    have : f ∈ zFr v fs := List.mem_filter.2 ⟨h1, by simpa using h2⟩
    rw [e] at this; simp at this
  · rename_i p ws e
    rw [e] at hw hp
    have h1 := hw p (List.mem_cons_self ..)
    have h2 : ∀ g ∈ ws, FOk c Dm g := fun g hg => (hw g (List.mem_cons_of_mem _ hg)).1
    have hk := zJm (S := S) hc ws p (zEb v fs) h1.1 h2
    have hvA : v ∈ (zCl c S p ws (zEb v fs)).A := (zNa ws p _ h1.1.asc.2 (fun g hg => (h2 g hg).asc.2) v).2 (.inl h1.2)
    have e1 : ∀ (g : Fa α), proF S [g] σ = den g σ := fun g => by
      simp only [proF, List.foldr_cons, List.foldr_nil]
      rw [zSp]
      cases den g σ <;> simp [omul, S.om]
    rw [zZh, e1, zS4 hc hD hk hvA, ← zZo]
    congr 1
    refine List.map_congr_left fun x _ => ?_
    rw [← zZg ho2 σ x, zSp, zKz hc _ ws p _ h1.1 h2 ho, ← zWn hp]
    rfl
theorem elim_A {fs : List (Fa α)} (hf : ∀ f ∈ fs, ∀ v ∈ f.A, v < 32) (v w : Nat) : (∃ f ∈ elim c S v fs, w ∈ f.A) ↔ (∃ f ∈ fs, w ∈ f.A) ∧ w ≠ v := by
  have hw : ∀ f ∈ zFr v fs, f ∈ fs ∧ v ∈ f.A := fun f h => by
    rw [zFr, List.mem_filter] at h
    exact ⟨h.1, by simpa using h.2⟩
  have hp := zDt v fs
  unfold elim
  split
  · rename_i e
    refine ⟨fun h => ⟨h, fun k => ?_⟩, fun h => h.1⟩
    subst k
    obtain ⟨f, h1, h2⟩ := h
    have : f ∈ zFr w fs := List.mem_filter.2 ⟨h1, by simpa using h2⟩
    rw [e] at this; simp at this
  · rename_i p ws e
    rw [e] at hw hp
    have h1 := hw p (List.mem_cons_self ..)
    have hA := zNa (c := c) (S := S) ws p (zEb v fs) (hf p h1.1) (fun g hg => hf g (hw g (List.mem_cons_of_mem _ hg)).1) w
    have hm : w ∈ (fsum c S v (zCl c S p ws (zEb v fs))).A ↔ w ∈ (zCl c S p ws (zEb v fs)).A ∧ w ≠ v := zCf
    constructor
    · rintro ⟨f, h2, h3⟩
      rcases List.mem_append.1 h2 with h2 | h2
      · rw [zEb, List.mem_filter] at h2
        refine ⟨⟨f, h2.1, h3⟩, fun k => ?_⟩
        subst k
        have := h2.2
        simp at this; exact this h3
      · simp only [List.mem_singleton] at h2
        subst h2
        rw [hm, hA] at h3
        refine ⟨?_, h3.2⟩
        rcases h3.1 with h4 | ⟨g, hg, h4⟩
        · exact ⟨p, h1.1, h4⟩
        · exact ⟨g, (hw g (List.mem_cons_of_mem _ hg)).1, h4⟩
    · rintro ⟨⟨f, h2, h3⟩, h4⟩
      have := hp.mem_iff.2 h2
      rcases List.mem_append.1 this with h5 | h5
      · refine ⟨_, List.mem_append_right _ (List.mem_singleton.2 rfl), ?_⟩
        rw [hm, hA]
        refine ⟨?_, h4⟩
        rcases List.mem_cons.1 h5 with rfl | h5
        · exact .inl h3
        · exact .inr ⟨f, h5, h3⟩
      · exact ⟨f, List.mem_append_left _ h5, h3⟩
theorem zB5 : ∀ (vs : List Nat) {F G : (Nat → Va) → Option α}, (∀ σ, F σ = G σ) → ∀ σ, zF5 S Dm vs F σ = zF5 S Dm vs G σ
  | [], _, _, h, σ => h σ
  | v :: vs, F, G, h, σ => zB5 vs (fun σ => by simp only [h]) σ
theorem zG9 {vs ws : List Nat} (h : vs.Perm ws) : ∀ (F : (Nat → Va) → Option α) (σ : Nat → Va), zF5 S Dm vs F σ = zF5 S Dm ws F σ := by
  induction h with
  | nil => exact fun F σ => rfl
  | cons x _ ih => exact fun F σ => ih _ σ
  | swap x y l =>
    intro F σ
    simp only [zF5]
    refine zB5 l (fun σ => ?_) σ
    by_cases e : x = y
    · subst e; rfl
    · rw [zPe]
      congr 1
      refine List.map_congr_left fun a _ => ?_
      congr 1
      refine List.map_congr_left fun b _ => ?_
      congr 1
      funext w
      unfold upd
      by_cases h1 : w = x
      · subst h1; simp [e]
      · simp [h1]
  | trans _ _ h1 h2 => exact fun F σ => (h1 F σ).trans (h2 F σ)
theorem Asc.ext {A B : List Nat} (hA : Asc A) (hB : Asc B) (h : ∀ v, v ∈ A ↔ v ∈ B) : A = B := by
  have hp : A.Perm B := (List.perm_ext_iff_of_nodup (Asc.nd hA) (Asc.nd hB)).2 h
  exact List.Perm.eq_of_pairwise (le := (· < ·)) (fun a b _ _ h k => by omega) hA.1 hB.1 hp
theorem FOk.ext (hc : Cw c) {Dm' : List Va} {f g : Fa α} (hf : FOk c Dm f) (hg : FOk c Dm' g) (hA : f.A = g.A) (h : ∀ σ, den f σ = den g σ) : f = g := by
  obtain ⟨A, l⟩ := f
  obtain ⟨B, m⟩ := g
  simp only at hA
  subst hA
  congr 1
  refine Srt.uniq hc hf.srt hg.srt fun r => ?_
  by_cases e : r.length = A.length
  · have := h (asg A r)
    unfold den at this
    simp only [zHa hf.asc.nd e] at this
    exact this
  · rw [zHf.2 fun hm => ?_, zHf.2 fun hm => ?_]
    · obtain ⟨p, hp, rfl⟩ := List.mem_map.1 hm; exact e (hg.len p hp)
    · obtain ⟨p, hp, rfl⟩ := List.mem_map.1 hm; exact e (hf.len p hp)
end
end
section
open Go.RowKit
abbrev u32D (n : Nat) : D := .val (.int .u32 (n : Nat))
abbrev nsD (l : List Nat) : List D := l.map fun c => iD (c : Nat)
def msk (A : List Nat) : Nat := A.foldl (fun m v => m ||| 2 ^ v) 0
theorem zZw (A : List Nat) : ∀ (m v : Nat), (A.foldl (fun m v => m ||| 2 ^ v) m).testBit v = (m.testBit v || decide (v ∈ A)) := by
 induction A with
 | nil => intro m v; simp
 | cons a A ih =>
  intro m v
  rw [List.foldl_cons, ih, Nat.testBit_or, Nat.testBit_two_pow]
  by_cases h : a = v
  ·subst h; simp
  ·simp [h, Ne.symm h]
theorem zBx (A : List Nat) (v : Nat) : (msk A).testBit v = decide (v ∈ A) := by rw [msk, zZw]; simp
theorem bits_lt {m n : Nat} (h : ∀ v, n ≤ v → m.testBit v = false) : m < 2 ^ n := Nat.lt_pow_two_of_testBit m h
theorem zDi {A : List Nat} (h : ∀ v ∈ A, v < 32) : msk A < 4294967296 := bits_lt (n := 32) fun v hv => by
 rw [zBx]; simp; intro hm; have := h v hm; omega
theorem zZv (A : List Nat) (i : Nat) (h : i < A.length) : msk (A.take (i + 1)) = msk (A.take i) ||| 2 ^ A.getD i 0 := by
 rw [List.take_succ_eq_append_getElem h, msk, List.foldl_append, List.getD_eq_getElem?_getD, List.getElem?_eq_getElem h]; rfl
theorem msk_un {A B : List Nat} (hA : ∀ v ∈ A, v < 32) (hB : ∀ v ∈ B, v < 32) : msk A ||| msk B = msk (un A B) := by
 apply Nat.eq_of_testBit_eq; intro v
 rw [Nat.testBit_or, zBx, zBx, zBx, Bool.eq_iff_iff]
 simp only [Bool.or_eq_true, decide_eq_true_eq, zCq]
 constructor
 ·rintro (h | h)
  ·exact ⟨hA v h, .inl h⟩
  ·exact ⟨hB v h, .inr h⟩
 ·exact fun h => h.2
theorem zCr {n : Nat} (h : n < 4294967296) : IntKind.u32.wrap (n : Int) = (n : Int) := zCy (k := .u32) (by simp only [inK]; omega)
theorem zH8 {n : Nat} (h : n < 4294967296) : (BitVec.ofInt 32 (n : Int)).toNat = n := by
 rw [BitVec.ofInt_natCast, BitVec.toNat_ofNat]; omega
theorem zT1 {a b : Nat} (ha : a < 4294967296) (hb : b < 4294967296) : a ||| b < 4294967296 := Nat.or_lt_two_pow (n := 32) ha hb
theorem zX9 {a b : Nat} (ha : a < 4294967296) : a &&& b < 4294967296 := Nat.lt_of_le_of_lt Nat.and_le_left ha
theorem u32_and {a b : Nat} (ha : a < 4294967296) (hb : b < 4294967296) : IntKind.u32.wrap ((BitVec.ofInt 32 (a : Int) &&& BitVec.ofInt 32 (b : Int)).toNat : Int) = ((a &&& b : Nat) : Int) := by
 rw [BitVec.toNat_and, zH8 ha, zH8 hb, zCr (zX9 ha)]
theorem u32_shl {v : Nat} (h : v < 32) : IntKind.u32.wrap (1 * 2 ^ (min (v : Int).toNat 32)) = ((2 ^ v : Nat) : Int) := by
 have h2 : 2 ^ v < 4294967296 := Nat.pow_lt_pow_right (n := 32) (by omega) h
 rw [Int.toNat_natCast, Nat.min_eq_left (by omega), Int.one_mul, show ((2 : Int) ^ v) = ((2 ^ v : Nat) : Int) by simp, zCr h2]
theorem zVw (m : Nat) {v : Nat} (h : v < 32) : Int.fdiv (m : Int) (2 ^ (min (v : Int).toNat 32)) = ((m >>> v : Nat) : Int) := by
 rw [Int.toNat_natCast, Nat.min_eq_left (by omega), show ((2 : Int) ^ v) = ((2 ^ v : Nat) : Int) by simp, Nat.shiftRight_eq_div_pow]
 exact Int.ofNat_fdiv m (2 ^ v) |>.symm
theorem u32_bit {m : Nat} (hm : m < 4294967296) (v : Nat) : (IntKind.u32.wrap ((BitVec.ofInt 32 ((m >>> v : Nat) : Int) &&& BitVec.ofInt 32 1).toNat : Int) == 1) = m.testBit v := by
 have h1 : m >>> v < 4294967296 := Nat.lt_of_le_of_lt (by rw [Nat.shiftRight_eq_div_pow]; exact Nat.div_le_self _ _) hm
 have := u32_and (b := 1) h1 (by omega)
 rw [show ((1 : Nat) : Int) = 1 from rfl] at this
 rw [this, Nat.testBit_eq_decide_div_mod_eq, Nat.and_one_is_mod, Nat.shiftRight_eq_div_pow, Bool.eq_iff_iff]
 simp only [beq_iff_eq, decide_eq_true_eq]
 omega
theorem bv_or {a b : Nat} (ha : a < 4294967296) (hb : b < 4294967296) : (BitVec.ofInt 32 (a : Int) ||| BitVec.ofInt 32 (b : Int)).toNat = a ||| b := by
 rw [BitVec.toNat_or, zH8 ha, zH8 hb]
theorem bv_and {a b : Nat} (ha : a < 4294967296) (hb : b < 4294967296) : (BitVec.ofInt 32 (a : Int) &&& BitVec.ofInt 32 (b : Int)).toNat = a &&& b := by
 rw [BitVec.toNat_and, zH8 ha, zH8 hb]
theorem zMl {v : Nat} (h : v < 32) : IntKind.u32.wrap (1 * 2 ^ (min v 32)) = ((2 ^ v : Nat) : Int) := u32_shl h
theorem zEv (m : Nat) {v : Nat} (h : v < 32) : Int.fdiv (m : Int) (2 ^ (min v 32)) = ((m >>> v : Nat) : Int) := zVw m h
theorem zSh {v : Nat} (h : v < 32) : 2 ^ v < 4294967296 := Nat.pow_lt_pow_right (n := 32) (by omega) h
theorem zX0 {m : Nat} (hm : m < 4294967296) (v : Nat) : ((BitVec.ofInt 32 ((m >>> v : Nat) : Int) &&& 1#32).toNat : Int) = if m.testBit v then 1 else 0 := by
 have h1 : m >>> v < 4294967296 := Nat.lt_of_le_of_lt (by rw [Nat.shiftRight_eq_div_pow]; exact Nat.div_le_self _ _) hm
 rw [BitVec.toNat_and, zH8 h1, Nat.testBit_eq_decide_div_mod_eq, show (1#32).toNat = 1 from rfl, Nat.and_one_is_mod, Nat.shiftRight_eq_div_pow]
 simp only [decide_eq_true_eq]
 split <;> omega
theorem bit_b {m : Nat} (hm : m < 4294967296) (v : Nat) : ((((BitVec.ofInt 32 ((m >>> v : Nat) : Int) &&& BitVec.ofInt 32 1).toNat : Nat) : Int) == 1) = m.testBit v := by
 have := zX0 hm v
 rw [show BitVec.ofInt 32 1 = 1#32 from rfl, this]
 cases m.testBit v <;> rfl
theorem bit_w {m : Nat} (hm : m < 4294967296) (v : Nat) : (IntKind.u32.wrap (((BitVec.ofInt 32 ((m >>> v : Nat) : Int) &&& BitVec.ofInt 32 1).toNat : Nat) : Int) == 1) = m.testBit v := u32_bit hm v
end
section
def cntL (A : List Nat) (b : Nat) : Nat := (A.filter fun v => decide (v < b)).length
theorem zNe : ∀ {A : List Nat}, A.Pairwise (· < ·) → ∀ {v : Nat}, v ∈ A → A.idxOf v = cntL A v
 | [], _, v, h => by simp at h
 | a :: A, hA, v, h => by
  rw [List.pairwise_cons] at hA
  by_cases e : a = v
  ·subst e
   have : A.filter (fun v => decide (v < a)) = [] := by
    rw [List.filter_eq_nil_iff]
    intro x hx
    have := hA.1 x hx
    simp; omega
   simp [cntL, this]
  ·have hm := (List.mem_cons.1 h).resolve_left fun k => e k.symm
   have hlt := hA.1 v hm
   have := zNe hA.2 hm
   have e' : (a == v) = false := by simpa using e
   rw [List.idxOf_cons, e', cond_false, this]
   simp [cntL, hlt]
theorem zRh {A : List Nat} (hA : A.Pairwise (· < ·)) {v : Nat} (h : v ∈ A) : cntL A v < A.length ∧ A.getD (cntL A v) 0 = v := by
 rw [← zNe hA h]
 have := List.idxOf_lt_length_iff.2 h
 exact ⟨this, by rw [List.getD_eq_getElem?_getD, List.getElem?_eq_getElem this]; simp⟩
theorem zXx {A : List Nat} {v : Nat} (h : v ∉ A) (hl : cntL A v < A.length) : A.getD (cntL A v) 0 ≠ v := fun e => h (by
 rw [← e, List.getD_eq_getElem?_getD, List.getElem?_eq_getElem hl]; exact List.getElem_mem hl)
def bdU (U : List Nat) (t : Nat) : Nat := U.getD t 32
theorem bdU_lt {U : List Nat} (h : ∀ v ∈ U, v < 32) {t : Nat} (ht : t < U.length) : bdU U t ∈ U := by
 unfold bdU
 rw [List.getD_eq_getElem?_getD, List.getElem?_eq_getElem ht]; exact List.getElem_mem ht
theorem zTa {p q : Nat → Bool} : ∀ (A : List Nat), (∀ x ∈ A, ¬ (p x = true ∧ q x = true)) → (A.filter fun x => p x || q x).length = (A.filter p).length + (A.filter q).length
 | [], _ => rfl
 | a :: A, h => by
  have ih := zTa A fun x hx => h x (List.mem_cons_of_mem _ hx)
  have ha := h a (List.mem_cons_self ..)
  cases h1 : p a <;> cases h2 : q a
  ·simp [h1, h2, ih]
  ·simp [h1, h2, ih]; omega
  ·simp [h1, h2, ih]; omega
  ·exact absurd ⟨h1, h2⟩ ha
theorem zL4 : ∀ {A : List Nat}, A.Nodup → ∀ v, (A.filter fun x => decide (x = v)).length = if v ∈ A then 1 else 0
 | [], _, v => by simp
 | a :: A, h, v => by
  rw [List.nodup_cons] at h
  have ih := zL4 h.2 v
  by_cases e : a = v
  ·subst e; simp only [h.1, if_false] at ih; simp [ih]
  ·simp [e, ih, Ne.symm e]
theorem zQb {A U : List Nat} (hU : Asc U) (hA : A.Nodup) (hAU : ∀ v ∈ A, v ∈ U) {t : Nat} (ht : t < U.length) : cntL A (bdU U (t + 1)) = cntL A (bdU U t) + if bdU U t ∈ A then 1 else 0 := by
 have hget : bdU U t = U[t] := by unfold bdU; rw [List.getD_eq_getElem?_getD, List.getElem?_eq_getElem ht]; rfl
 have hlt : bdU U t < bdU U (t + 1) := by
  rcases Nat.lt_or_ge (t + 1) U.length with h | h
  ·have h2 : bdU U (t + 1) = U[t + 1] := by unfold bdU; rw [List.getD_eq_getElem?_getD, List.getElem?_eq_getElem h]; rfl
   rw [hget, h2]
   exact List.pairwise_iff_getElem.1 hU.1 t (t + 1) ht h (by omega)
  ·have h2 : bdU U (t + 1) = 32 := by unfold bdU; rw [List.getD_eq_getElem?_getD, List.getElem?_eq_none h]; rfl
   rw [hget, h2]; exact hU.2 _ (List.getElem_mem ht)
 have key : ∀ x ∈ A, decide (x < bdU U (t + 1)) = (decide (x < bdU U t) || decide (x = bdU U t)) := by
  intro x hx
  obtain ⟨j, hj, rfl⟩ := List.getElem_of_mem (hAU x hx)
  rw [Bool.eq_iff_iff]
  simp only [Bool.or_eq_true, decide_eq_true_eq]
  have mono : ∀ i k (hi : i < U.length) (hk : k < U.length), i < k → U[i] < U[k] := fun i k hi hk h => List.pairwise_iff_getElem.1 hU.1 i k hi hk h
  constructor
  ·intro h
   rcases Nat.lt_trichotomy j t with h1 | h1 | h1
   ·left; rw [hget]; exact mono j t hj ht h1
   ·right; subst h1; exact hget.symm
   ·exfalso
    have h3 : t + 1 < U.length := by omega
    have h2 : bdU U (t + 1) = U[t + 1] := by unfold bdU; rw [List.getD_eq_getElem?_getD, List.getElem?_eq_getElem h3]; rfl
    rw [h2] at h
    rcases Nat.lt_or_ge (t + 1) j with h4 | h4
    ·have := mono (t + 1) j h3 hj h4; omega
    ·have : j = t + 1 := by omega
     subst this; omega
  ·rintro (h | h) <;> omega
 unfold cntL
 rw [List.filter_congr key, zTa A fun x hx => by simp; omega, zL4 hA]
theorem cntL0 {A U : List Nat} (hU : Asc U) (hAU : ∀ v ∈ A, v ∈ U) : cntL A (bdU U 0) = 0 := by
 unfold cntL
 rw [List.length_eq_zero_iff, List.filter_eq_nil_iff]
 intro x hx
 obtain ⟨j, hj, rfl⟩ := List.getElem_of_mem (hAU x hx)
 have h2 : bdU U 0 = U[0] := by unfold bdU; rw [List.getD_eq_getElem?_getD, List.getElem?_eq_getElem (by omega)]; rfl
 rw [h2]
 simp only [decide_eq_true_eq]
 rcases Nat.eq_zero_or_pos j with e | e
 ·subst e; omega
 ·have := List.pairwise_iff_getElem.1 hU.1 0 j (by omega) hj e; omega
theorem bdU_getD {U : List Nat} {t : Nat} (h : t < U.length) : U.getD t 0 = bdU U t := by
 unfold bdU; rw [List.getD_eq_getElem?_getD, List.getD_eq_getElem?_getD, List.getElem?_eq_getElem h]; rfl
theorem mg_take (A : List Nat) (x : List Va) (B : List Nat) (y : List Va) (t : Nat) (ht : t < (un A B).length) : ((un A B).take (t + 1)).map (sg A x B y) = ((un A B).take t).map (sg A x B y) ++ [sg A x B y (bdU (un A B) t)] := by
 rw [List.take_succ_eq_append_getElem ht, List.map_append]
 unfold bdU
 rw [List.getD_eq_getElem?_getD, List.getElem?_eq_getElem ht]; rfl
theorem zX4 {A : List Nat} (hA : A.Pairwise (· < ·)) (x : List Va) {v : Nat} (h : v ∈ A) : asg A x v = x.getD (cntL A v) default := by
 rw [asg, zNe hA h]
end
section
open Go.RowKit
def dvl (l : List UInt8) : Nat := l.foldl (fun a b => a * 10 + (b.toNat - 48)) 0
theorem zK1 (u : Nat) : dvl (Lib.decDigits u) = u ∧ ∀ b ∈ Lib.decDigits u, 48 ≤ b.toNat ∧ b.toNat ≤ 57 := by
 induction u using Nat.strongRecOn with
 | _ u ih =>
  rw [Lib.decDigits]
  split
  ·rename_i h
   have e : (UInt8.ofNat (48 + u)).toNat = 48 + u := by rw [UInt8.toNat_ofNat']; omega
   refine ⟨by simp only [dvl, List.foldl_cons, List.foldl_nil, e]; omega, fun b hb => ?_⟩
   simp only [List.mem_singleton] at hb
   rw [hb, e]; omega
  ·rename_i h
   obtain ⟨h1, h2⟩ := ih (u / 10) (by omega)
   have e : (UInt8.ofNat (48 + u % 10)).toNat = 48 + u % 10 := by rw [UInt8.toNat_ofNat']; omega
   refine ⟨?_, fun b hb => ?_⟩
   ·unfold dvl at h1 ⊢
    rw [List.foldl_append, h1]
    simp only [List.foldl_cons, List.foldl_nil, e]; omega
   ·rcases List.mem_append.1 hb with hb | hb
    ·exact h2 b hb
    ·simp only [List.mem_singleton] at hb
     rw [hb, e]; omega
theorem zM4 {a b : Int} (h : Lib.itoa a = Lib.itoa b) : a = b := by
 have key : ∀ z : Int, z < 0 → ∀ u : Nat, Lib.itoa z ≠ Lib.decDigits u := fun z hz u e => by
  unfold Lib.itoa at e
  rw [if_pos hz] at e
  have := (zK1 u).2 45 (by rw [← e]; simp)
  have e2 : (45 : UInt8).toNat = 45 := rfl
  omega
 by_cases ha : a < 0 <;> by_cases hb : b < 0
 ·unfold Lib.itoa at h
  rw [if_pos ha, if_pos hb] at h
  have := congrArg dvl (List.cons.inj h).2
  rw [(zK1 _).1, (zK1 _).1] at this
  omega
 ·have e : Lib.itoa b = Lib.decDigits b.toNat := by unfold Lib.itoa; rw [if_neg hb]
  rw [e] at h
  exact absurd h (key a ha _)
 ·have e : Lib.itoa a = Lib.decDigits a.toNat := by unfold Lib.itoa; rw [if_neg ha]
  rw [e] at h
  exact absurd h.symm (key b hb _)
 ·unfold Lib.itoa at h
  rw [if_neg ha, if_neg hb] at h
  have := congrArg dvl h
  rw [(zK1 _).1, (zK1 _).1] at this
  omega
theorem zHg (z : Int) : ∀ b ∈ Lib.itoa z, b ≠ 32 := by
 intro b hb e
 subst e
 have e2 : (32 : UInt8).toNat = 32 := rfl
 unfold Lib.itoa at hb
 split at hb
 ·rcases List.mem_cons.1 hb with h | h
  ·exact absurd h (by decide)
  ·have := (zK1 _).2 _ h; omega
 ·have := (zK1 _).2 _ hb; omega
theorem zS8 : ∀ {a b s t : List UInt8}, (∀ x ∈ a, x ≠ 32) → (∀ x ∈ b, x ≠ 32) → a ++ 32 :: s = b ++ 32 :: t → a = b ∧ s = t
 | [], [], s, t, _, _, h => by simpa using h
 | [], y :: b, s, t, _, hb, h => by
  simp only [List.nil_append, List.cons_append, List.cons.injEq] at h
  exact absurd h.1.symm (hb y (List.mem_cons_self ..))
 | x :: a, [], s, t, ha, _, h => by
  simp only [List.nil_append, List.cons_append, List.cons.injEq] at h
  exact absurd h.1 (ha x (List.mem_cons_self ..))
 | x :: a, y :: b, s, t, ha, hb, h => by
  simp only [List.cons_append, List.cons.injEq] at h
  obtain ⟨h1, h2⟩ := zS8 (fun z hz => ha z (List.mem_cons_of_mem _ hz)) (fun z hz => hb z (List.mem_cons_of_mem _ hz)) h.2
  exact ⟨by rw [h.1, h1], h2⟩
theorem idV_inj {v w : Va} {s t : List UInt8} (h : idV v ++ s = idV w ++ t) : v = w ∧ s = t := by
 simp only [idV, List.append_assoc, List.singleton_append, List.cons_append, List.nil_append] at h
 obtain ⟨h1, h⟩ := zS8 (zHg _) (zHg _) h
 obtain ⟨h2, h⟩ := zS8 (zHg _) (zHg _) h
 obtain ⟨h3, h⟩ := zS8 (zHg _) (zHg _) h
 have g1 := zM4 h1
 have g2 := zM4 h2
 clear h1 h2
 have h3 : v.str.length = w.str.length := by have := zM4 h3; omega
 obtain ⟨h4, h5⟩ := List.append_inj h h3
 obtain ⟨vk, vi, vs⟩ := v
 obtain ⟨wk, wi, ws⟩ := w
 simp only at g1 g2 h4
 subst g1 g2 h4
 exact ⟨rfl, h5⟩
theorem idV_ne (v : Va) (s : List UInt8) : idV v ++ s ≠ [] := by
 intro h
 have := congrArg List.length h
 simp [idV] at this
theorem zXb : ∀ {r s : List Va}, idR r = idR s → r = s
 | [], [], _ => rfl
 | [], w :: s, h => absurd h.symm (idV_ne w (idR s))
 | v :: r, [], h => absurd h (idV_ne v (idR r))
 | v :: r, w :: s, h => by
  have h : idV v ++ idR r = idV w ++ idR s := h
  obtain ⟨h1, h2⟩ := idV_inj h
  rw [h1, zXb h2]
abbrev kyv (r : List Va) : Value := .string (bs (idR r))
theorem vEq_ky (r s : List Va) : vEq (kyv r) (kyv s) = decide (r = s) := by
 simp only [vEq, kyv, bs]
 rw [Bool.eq_iff_iff]
 simp only [beq_iff_eq, decide_eq_true_eq]
 exact ⟨fun h => zXb h, fun h => by rw [h]⟩
theorem zCw (K : List (List Va)) (r : List Va) : zE1 (K.map kyv) (kyv r) = K.findIdx? fun s => decide (r = s) := by
 unfold zE1
 rw [List.findIdx?_map]
 congr 1
 funext s
 exact vEq_ky r s
theorem zE7 (K : List (List Va)) : (K.map kyv).all (zX .string) = true := by simp [zX]
end
section
theorem cb_tr : ∀ (a b d : List UInt8), Lib.compareBytes a b = -1 → Lib.compareBytes b d = -1 → Lib.compareBytes a d = -1
 | [], [], _, h, _ => by simp [Lib.compareBytes] at h
 | [], _ :: _, [], _, k => by simp [Lib.compareBytes] at k
 | [], _ :: _, _ :: _, _, _ => rfl
 | _ :: _, [], _, h, _ => by simp [Lib.compareBytes] at h
 | _ :: _, _ :: _, [], _, k => by simp [Lib.compareBytes] at k
 | x :: a, y :: b, z :: d, h, k => by
  have ih := cb_tr a b d
  simp only [Lib.compareBytes] at h k ⊢
  have e1 : ∀ {u v : UInt8}, u < v ↔ u.toNat < v.toNat := UInt8.lt_iff_toNat_lt
  by_cases h1 : x < y
  ·by_cases k1 : y < z
   ·rw [if_pos (UInt8.lt_trans h1 k1)]
   ·by_cases k2 : z < y
    ·rw [if_neg k1, if_pos k2] at k; cases k
    ·have : y = z := UInt8.le_antisymm (UInt8.not_lt.1 k2) (UInt8.not_lt.1 k1)
     subst this; rw [if_pos h1]
  ·by_cases h2 : y < x
   ·rw [if_neg h1, if_pos h2] at h; cases h
   ·have : x = y := UInt8.le_antisymm (UInt8.not_lt.1 h2) (UInt8.not_lt.1 h1)
    subst this
    rw [if_neg h1, if_neg h2] at h
    by_cases k1 : x < z
    ·rw [if_pos k1]
    ·by_cases k2 : z < x
     ·rw [if_neg k1, if_pos k2] at k; cases k
     ·rw [if_neg k1, if_neg k2] at k ⊢
      exact ih h k
theorem zTc {a b : Int} : cmpD a b < 0 ↔ a < b := by rcases zA3 a b with ⟨h, k⟩ | ⟨h, k⟩ | ⟨h, k⟩ <;> omega
theorem vcmp_tr (a b d : Va) (h : vcmp a b < 0) (k : vcmp b d < 0) : vcmp a d < 0 := by
 obtain ⟨ak, ai, as'⟩ := a
 obtain ⟨bk, bi, bs'⟩ := b
 obtain ⟨dk, di, ds⟩ := d
 have t := cb_tr as' bs' ds
 have v1 := (zF7 as' bs').1
 have v2 := (zF7 bs' ds).1
 have v3 := (zF7 as' ds).1
 simp only [vcmp] at h k ⊢
 split at h <;> split at k <;> split <;> try simp only [zTc] at *
 all_goals (try split at h) <;> (try split at k) <;> (try split) <;> (try simp only [zTc] at *) <;> first | omega | (have := t (by omega) (by omega); omega) | skip
theorem zQx : ∀ (a b d : List Va), rcmp a b < 0 → rcmp b d < 0 → rcmp a d < 0
 | [], [], _, h, _ => by simp [rcmp] at h
 | [], _ :: _, [], _, k => by simp [rcmp] at k
 | [], _ :: _, _ :: _, _, _ => by simp [rcmp]
 | _ :: _, [], _, h, _ => by simp [rcmp] at h
 | _ :: _, _ :: _, [], _, k => by simp [rcmp] at k
 | x :: a, y :: b, z :: d, h, k => by
  have ih := zQx a b d
  simp only [rcmp] at h k ⊢
  by_cases h1 : vcmp x y = 0
  ·have e := (zCh x y).2.1.1 h1
   subst e
   rw [if_pos h1] at h
   split at k
   ·rename_i e; rw [if_pos e]; exact ih h k
   ·rename_i e; rw [if_neg e]; exact k
  ·rw [if_neg h1] at h
   by_cases k1 : vcmp y z = 0
   ·have e := (zCh y z).2.1.1 k1
    subst e
    rw [if_neg h1]; exact h
   ·rw [if_neg k1] at k
    have := vcmp_tr x y z h k
    rw [if_neg (by omega)]; exact this
theorem rcw : Cw rcmp := ⟨fun a b => (zEy a b).2.1, fun a b => (zEy a b).2.2, zQx⟩
end
section
open Go.RowKit
theorem RelL.putAt {I : Im} {w : World} {β : Be} : ∀ {ds : List D} {vs : List Value} {i : Nat} {x : D}, RelL I w β ds vs → (∀ d v, ds[i]? = some d → vs[i]? = some v → Rel I w β d v → Rel I w β x v) → RelL I w β (ds.set i x) vs
 | [], vs, i, x, h, hx => by simpa using h
 | d :: ds, vs, i, x, h, hx => by
  simp only [RelL] at h
  obtain ⟨v, us, rfl, h1, h2, h3⟩ := h
  cases i with
  | zero => simp only [List.set_cons_zero, RelL]; exact ⟨v, us, rfl, h1, hx d v rfl rfl h2, h3⟩
  | succ i =>
   simp only [List.set_cons_succ, RelL]
   exact ⟨v, us, rfl, h1, h2, h3.putAt fun d v hd hv => hx d v (by simpa using hd) (by simpa using hv)⟩
section
variable {T : Par} {sl : List D} {st : List Bk}
theorem Weak.fzCell {j i : Nat} {ej : Bk} {d x : D} {ks : List Nat} (hj : st[j]? = some ej) (hm : ej.kd.isMap = false) (hf : ej.nob = false) (hi : ej.cells[i]? = some d) (hx : frz true st zAl d = some (x, ks)) (hjk : j ∉ ks) : Weak T sl st sl ((zAe st ks).set j { ej with cells := ej.cells.set i x }) := by
 intro β I w tm h
 have hjl : j < st.length := (List.getElem?_eq_some_iff.1 hj).1
 have hfr := fun v hv => zBf h.sr.weak _ _ _ _ v hx hv
 have hget : ∀ k, ((zAe st ks).set j { ej with cells := ej.cells.set i x })[k]? = if k = j then some { ej with cells := ej.cells.set i x } else (st[k]?).map fun e => if k ∈ ks then { e with fz := true } else e := fun k => by
  rw [List.getElem?_set, zAs, zS]
  by_cases hk : j = k
  ·subst hk; simp [hjl]
  ·rw [if_neg hk, if_neg (fun e => hk e.symm)]
 refine ⟨β, fixI I β st ks, ⟨RelT.mono (zAd ks) β β (BeLe.refl _) _ _ h.rel, fun k b c hk => ?_, h.inj, fun k b c o e hk he hi' => ?_, fun k y hk => ?_, zDp h.sr.weak h.imb ks, h.gl.mono (zAd ks)⟩, ⟨zAd ks, Nat.le_refl _, fun _ _ _ => rfl, rfl, rfl, rfl, Nat.le_refl _, fun k b c hk => .inl ⟨k, c, hk⟩, fun b o hb => ?_⟩, Kp.refl _ _⟩
 ·obtain ⟨e, k1, k2⟩ := h.sr k b c hk
  by_cases hkj : k = j
  ·subst hkj
   rw [hj] at k1; cases k1
   refine ⟨_, (hget k).trans (if_pos rfl), ?_⟩
   obtain ⟨cur, c1, c2, c3, c4⟩ := k2.c hm
   refine OwnC.r ⟨cur, c1, by simpa using c2, ?_, c4⟩ hm
   have hn2 : ({ ej with cells := ej.cells.set i x } : Bk).nob = false := hf
   rw [hn2]
   rw [hf] at c3
   simp only [List.length_set, Bool.false_eq_true, if_false] at c3 ⊢
   refine (RelL.mono (zAd ks) β β (BeLe.refl _) _ _ c3).putAt fun d' v hd hv hr => ?_
   rw [hi] at hd; cases hd
   obtain ⟨v', g1, g2, g3⟩ := c3.get i d hi
   rw [hv] at g1; cases g1
   exact Rel.no (hfr v g3)
  ·refine ⟨if k ∈ ks then { e with fz := true } else e, by rw [hget, if_neg hkj, k1]; rfl, ?_⟩
   have k3 := OwnRel.mono (β' := β) k2 rfl (zAd (β := β) (st := st) ks) (BeLe.refl _)
   split
   ·exact k3.like rfl rfl rfl rfl rfl
   ·exact k3
 ·rw [hget] at he
  by_cases hkj : k = j
  ·subst hkj
   rw [if_pos rfl] at he
   cases he
   rcases hi' with hi' | ⟨k', hk', c', e', m1, m2, m3⟩
   ·have := h.fz k b c o ej hk hj hi'
    exact ⟨this.1, this.2.imp id (fun h => by simpa using h)⟩
   ·have := h.inj k' k b c' c m1 hk
    subst this; exact absurd hk' hjk
  ·rw [if_neg hkj] at he
   obtain ⟨e0, he0, rfl⟩ := Option.map_eq_some_iff.1 he
   rcases hi' with hi' | ⟨k', hk', c', e', m1, m2, m3⟩
   ·have := h.fz k b c o e0 hk he0 hi'
    split
    ·exact ⟨rfl, this.2⟩
    ·exact this
   ·have := h.inj k' k b c' c m1 hk
    subst this
    rw [he0] at m2; cases m2
    rw [if_pos hk']
    exact ⟨rfl, m3⟩
 ·rw [List.length_set, zS]; exact h.dom k y hk
 ·rcases hb with hb | ⟨k', _, c', _, m1, _⟩
  ·exact .inl hb
  ·exact .inr (.inr ⟨k', c', m1⟩)
theorem Weak.osr {s : Nat} {k off n m : Nat} {wh : Bool} {cs : List D} (hs : sl[s]? = some (.osl k off n m wh)) (hx : frz true st zAl (.osl k off n m wh) = some (.row cs n, [k])) : Weak T sl st (sl.set s (.osr k off n m wh cs)) (zAe st [k]) := by
 intro β I w tm h
 obtain ⟨v, hv, hr⟩ := h.rel.get s _ hs
 have hfr := zBf h.sr.weak _ _ _ _ v hx hr
 have hget : ∀ j, (zAe st [k])[j]? = (st[j]?).map fun e => if j ∈ [k] then { e with fz := true } else e := fun j => zAs [k] st j
 refine ⟨β, fixI I β st [k], ⟨?_, fun j b c hj => ?_, h.inj, fun j b c o e hj he hi' => ?_, fun j y hj => ?_, zDp h.sr.weak h.imb [k], h.gl.mono (zAd [k])⟩, ⟨zAd [k], Nat.le_refl _, fun _ _ _ => rfl, rfl, rfl, rfl, Nat.le_refl _, fun j b c hj => .inl ⟨j, c, hj⟩, fun b o hb => ?_⟩, Kp.refl _ _⟩
 ·have h0 := RelT.mono (zAd (β := β) (st := st) [k]) β β (BeLe.refl _) _ _ h.rel
  refine RelT.of_get (by rw [List.length_set, h0.length]) fun i d u hd hu => ?_
  rw [List.getElem?_set] at hd
  split at hd
  ·rename_i e
   subst e
   split at hd
   ·cases hd
    rw [hv] at hu; cases hu
    simp only [Rel] at hr hfr ⊢
    exact ⟨hr, hfr⟩
   ·cases hd
  ·obtain ⟨u', g1, g2⟩ := h0.get i d hd
   rw [hu] at g1; cases g1
   exact g2
 ·obtain ⟨e, k1, k2⟩ := h.sr j b c hj
  refine ⟨if j ∈ [k] then { e with fz := true } else e, by rw [hget, k1]; rfl, ?_⟩
  have k3 := OwnRel.mono (β' := β) k2 rfl (zAd (β := β) (st := st) [k]) (BeLe.refl _)
  split
  ·exact k3.like rfl rfl rfl rfl rfl
  ·exact k3
 ·rw [hget] at he
  obtain ⟨e0, he0, rfl⟩ := Option.map_eq_some_iff.1 he
  rcases hi' with hi' | ⟨k', hk', c', e', m1, m2, m3⟩
  ·have := h.fz j b c o e0 hj he0 hi'
   split
   ·exact ⟨rfl, this.2⟩
   ·exact this
  ·have := h.inj k' j b c' c m1 hj
   subst this
   rw [he0] at m2; cases m2
   rw [if_pos hk']
   exact ⟨rfl, m3⟩
 ·rw [zS]; exact h.dom j y hj
 ·rcases hb with hb | ⟨k', _, c', _, m1, _⟩
  ·exact .inl hb
  ·exact .inr (.inr ⟨k', c', m1⟩)
theorem Weak.nilC {j i : Nat} {ej : Bk} (b : Bk) (hj : st[j]? = some ej) (hm : ej.kd.isMap = false) (hf : ej.nob = false) (hi : ej.cells[i]? = some (.val (.slice none 0 0))) : Weak T sl st sl (st.set j { ej with cells := ej.cells.set i (.osl st.length 0 0 0 true) } ++ [b]) := by
 intro β I w tm h
 have hjl : j < st.length := (List.getElem?_eq_some_iff.1 hj).1
 have hget : ∀ k, k < st.length → (st.set j { ej with cells := ej.cells.set i (.osl st.length 0 0 0 true) } ++ [b])[k]? = if k = j then some { ej with cells := ej.cells.set i (.osl st.length 0 0 0 true) } else st[k]? := fun k hk => by
  rw [List.getElem?_append_left (by rw [List.length_set]; exact hk), List.getElem?_set]
  by_cases hkj : j = k
  ·subst hkj; simp [hjl]
  ·rw [if_neg hkj, if_neg (fun e => hkj e.symm)]
 refine ⟨β, I, ⟨h.rel, fun k b' c hk => ?_, h.inj, fun k b' c o e hk he hi' => ?_, fun k y hk => ?_, h.imb, h.gl⟩, Stp.refl _ _ _, Kp.refl _ _⟩
 ·obtain ⟨e, k1, k2⟩ := h.sr k b' c hk
  rw [hget k (h.dom k _ hk)]
  by_cases hkj : k = j
  ·subst hkj
   rw [hj] at k1; cases k1
   refine ⟨_, if_pos rfl, ?_⟩
   obtain ⟨cur, c1, c2, c3, c4⟩ := k2.c hm
   refine OwnC.r ⟨cur, c1, by simpa using c2, ?_, c4⟩ hm
   have hn2 : ({ ej with cells := ej.cells.set i (.osl st.length 0 0 0 true) } : Bk).nob = false := hf
   rw [hn2]
   rw [hf] at c3
   simp only [List.length_set, Bool.false_eq_true, if_false] at c3 ⊢
   refine c3.putAt fun d v hd hv hr => ?_
   rw [hi] at hd; cases hd
   simp only [Rel] at hr ⊢
   exact .inl ⟨trivial, trivial, hr⟩
  ·exact ⟨e, by rw [if_neg hkj]; exact k1, k2⟩
 ·have hlt := h.dom k _ hk
  rw [hget k hlt] at he
  by_cases hkj : k = j
  ·subst hkj
   rw [if_pos rfl] at he
   cases he
   have := h.fz k b' c o ej hk hj hi'
   exact ⟨this.1, this.2.imp id (fun h => by simpa using h)⟩
  ·rw [if_neg hkj] at he
   exact h.fz k b' c o e hk he hi'
 ·rw [List.length_append, List.length_set]
  have := h.dom k y hk
  simp only [List.length_cons, List.length_nil]; omega
theorem zBe {P : Program} {b : Code} {Q : Exit → List D → List Bk → Prop} {sl' : List D} {st' : List Bk} (h : Weak T sl st sl' st') (k : awp P T b Q sl' st') : zAo P T b Q sl st := ⟨_, _, h, k⟩
end
end
section
open Go.RowKit Go.Sort Go.Lib Go.Shelf
section
variable {P : Program} {I : Im} {w : World} {β : Be} {sl : List D} {st : List Bk} {tm : List Value}
theorem zD0 (w : World) (os : Array Obj) {b : Nat} (h : b < w.heap.size) : (grow w os).heap[b]? = w.heap[b]? := by
 simp [grow, Array.getElem?_append_left h]
theorem Fix.grow (hi : ImB I w) (os : Array Obj) : Fix I w I (grow w os) := fun b o h => ⟨h, fun v hv => by
 simp only [World.cell?] at hv ⊢
 rw [zD0 w os (hi b o h)]; exact hv, fun ks vs hm => hm.of_heap (zD0 w os hm.lt)⟩
theorem Sim.grow (h : Sim β I w sl st tm) (os : Array Obj) : Sim β I (grow w os) sl st tm := by
 have hf := Fix.grow h.imb os
 refine ⟨RelT.mono hf β β (BeLe.refl _) _ _ h.rel, fun k b c hk => ?_, h.inj, h.fz, h.dom, fun b o hb => ?_, h.gl.mono hf⟩
 ·obtain ⟨e, h1, h2⟩ := h.sr k b c hk
  exact ⟨e, h1, h2.mono (zD0 w os h2.lt) hf (BeLe.refl _)⟩
 ·have := h.imb b o hb
  simp [Go.Sort.grow]; omega
theorem Stp.grow (hi : ImB I w) (β : Be) (os : Array Obj) : Stp β I w β I (grow w os) := ⟨Fix.grow hi os, by simp [Go.Sort.grow], fun b hb _ => zD0 w os hb, rfl, rfl, rfl, Nat.le_refl _, fun k b c h => .inl ⟨k, c, h⟩, fun _ _ h => .inl h⟩
theorem zN1 : ∀ (xs ys pre : List D), xs.length = ys.length → setAt (pre ++ xs) pre.length ys = pre ++ ys
 | xs, [], pre, hl => by
  obtain rfl : xs = [] := List.eq_nil_of_length_eq_zero (by simpa using hl)
  rfl
 | [], y :: ys, pre, hl => by simp at hl
 | x :: xs, y :: ys, pre, hl => by
  simp only [setAt]
  have e1 : (pre ++ x :: xs).set pre.length y = (pre ++ [y]) ++ xs := by simp
  rw [e1]
  have := zN1 xs ys (pre ++ [y]) (by simpa using hl)
  simp only [List.length_append, List.length_cons, List.length_nil] at this
  rw [this]; simp
theorem Sim.fzAll (h : Sim β I w sl st tm) (ks : List Nat) : Sim β (fixI I β st ks) w sl (zAe st ks) tm := by
 refine ⟨RelT.mono (zAd ks) β β (BeLe.refl _) _ _ h.rel, fun j b c hj => ?_, h.inj, fun j b c o e hj he hi' => ?_, fun j y hj => ?_, zDp h.sr.weak h.imb ks, h.gl.mono (zAd ks)⟩
 ·obtain ⟨e, k1, k2⟩ := h.sr j b c hj
  refine ⟨if j ∈ ks then { e with fz := true } else e, by rw [zAs, k1]; rfl, ?_⟩
  have k3 := OwnRel.mono (β' := β) k2 rfl (zAd (β := β) (st := st) ks) (BeLe.refl _)
  split
  ·exact k3.like rfl rfl rfl rfl rfl
  ·exact k3
 ·rw [zAs] at he
  obtain ⟨e0, he0, rfl⟩ := Option.map_eq_some_iff.1 he
  rcases hi' with hi' | ⟨k', hk', c', e', m1, m2, m3⟩
  ·have := h.fz j b c o e0 hj he0 hi'
   split
   ·exact ⟨rfl, this.2⟩
   ·exact this
  ·have := h.inj k' j b c' c m1 hj
   subst this
   rw [he0] at m2; cases m2
   rw [if_pos hk']
   exact ⟨rfl, m3⟩
 ·rw [zS]; exact h.dom j y hj
theorem Stp.fzAll (hi : Sim β I w sl st tm) (ks : List Nat) : Stp β I w β (fixI I β st ks) w := ⟨zAd ks, Nat.le_refl _, fun _ _ _ => rfl, rfl, rfl, rfl, Nat.le_refl _, fun k b c h => .inl ⟨k, c, h⟩, fun b o hb => by
 rcases hb with hb | ⟨k', _, c', _, m1, _⟩
 ·exact .inl hb
 ·exact .inr (.inr ⟨k', c', m1⟩)⟩
theorem zVq {f : FuncId} {k n : Nat} {e : Bk} {wh : Bool} {ds' : List D} {us3 : List Value} {g : FuncId} {caps caps' : List D} {ks : List Nat} (he : st[k]? = some e) (ha : e.arr = true) (hkd : e.kd = .plain) (hf : e.fz = false) (hlen : e.cells.length = n) (hl' : ds'.length = n) (hpos : 0 < n)
  (hfr : frz true st zAl (.clo (.func g) [] caps) = some (.clo (.func g) [] caps', ks)) (hnk : k ∉ ks)
  (h : ∀ (I : Im) b c w us cb, ImB I w → Gl I w → (∀ j, ¬ I b j) → RelT I w noB caps' cb → RelL I w noB e.cells us → (∃ cur t, w.heap[b]? = some (.cells cur t (0, 0))) → (∀ j, j < n → w.cell? ⟨b, 0 + j, none⟩ = some (us.getD j undef)) → (∀ j, j < n → w.frozen? ⟨b, 0 + j, none⟩ = false) → n ≤ c → Calls P f (#[.slice (some ⟨b, 0, none⟩) n c] ++ us3.toArray ++ #[.func (.func g) #[] cb.toArray]) w fun x w' => x = .returned (.tuple #[]) ∧ ∃ vs q os, w' = grow ((w.drewN q).setCells b 0 vs) os ∧ RelL I w noB ds' vs) :
  Acts P f (.osl k 0 n n wh :: (us3.map .val ++ [.clo (.func g) [] caps])) st [] (.val (.tuple #[])) ((zAe st ks).set k { e with cells := ds' }) := by
 intro β I w xs hr hsr hinj hfz hdom hi hg
 simp only [RelT] at hr
 obtain ⟨v, ys, rfl, hr, hys⟩ := hr
 have hsp : ∀ (us3 : List Value) (ys : List Value), RelT I w β (us3.map .val ++ [.clo (.func g) [] caps]) ys → ∃ v3, ys = us3 ++ [v3] ∧ Rel I w β (.clo (.func g) [] caps) v3 := by
  intro us3
  induction us3 with
  | nil =>
   intro ys h
   simp only [List.map_nil, List.nil_append, RelT] at h
   obtain ⟨v, us, rfl, h1, rfl⟩ := h
   exact ⟨v, rfl, h1⟩
  | cons u us3 ih =>
   intro ys h
   simp only [List.map_cons, List.cons_append, RelT] at h
   obtain ⟨v, us, rfl, h1, h2⟩ := h
   simp only [Rel] at h1
   subst h1
   obtain ⟨v3, rfl, h3⟩ := ih us h2
   exact ⟨v3, rfl, h3⟩
 obtain ⟨v3, rfl, hv3⟩ := hsp us3 ys hys
 simp only [Rel] at hr
 rcases hr with ⟨e0, _, rfl⟩ | ⟨e0, _, _, a, c, rfl, _⟩ | ⟨b, c, cap, hb, rfl, k1, k2, k3⟩
 ·omega
 ·omega
 have hs00 : Sim β I w ([] : List D) st ({ tmps := #[], defers := [] } : Act).tmps.toList := ⟨by simp only [RelT], hsr, hinj, hfz, hdom, hi, hg⟩
 have hs0 := hs00.fzAll ks
 have hstp0 := Stp.fzAll hs00 ks
 have hv3' := zBf hs00.sr.weak _ _ _ _ v3 hfr hv3
 simp only [Rel] at hv3'
 obtain ⟨vs0, cb, rfl, hn0, hcb⟩ := hv3'
 simp only [RelT] at hn0
 subst hn0
 have he2 : (zAe st ks)[k]? = some e := by rw [zAs, he]; simp [hnk]
 have hni : e.kd.isMap = false := by rw [hkd]; rfl
 have hnob : e.nob = true := by unfold Bk.nob; rw [hkd, ha]; rfl
 obtain ⟨e', he', ho⟩ := hs0.sr k b c hb
 rw [he2] at he'; cases he'
 obtain ⟨cur, c1, c2, c3, c4⟩ := ho.c hni
 rw [hnob] at c3
 simp only [if_true] at c3
 have hno : ∀ j, ¬ fixI I β st ks b j := fun j hij => by
  have := (hs0.fz k b c j e hb he2 hij).1
  rw [hf] at this; cases this
 have hlc : (cur.take e.cells.length).length = n := by rw [← c3.length]; exact hlen
 have hcell : ∀ j, j < n → w.cell? ⟨b, 0 + j, none⟩ = some ((cur.take e.cells.length).getD j undef) ∧ w.frozen? ⟨b, 0 + j, none⟩ = false := fun j hj => by
  have hlt : j < cur.length := by rw [List.length_take] at hlc; omega
  refine ⟨?_, frozen_of_row w b (0 + j) cur.toArray e.ty c1⟩
  rw [List.getD_eq_getElem?_getD, List.getElem?_take, if_pos (by omega), List.getElem?_eq_getElem hlt]
  simp [World.cell?, c1, hlt]
 have e1 : (#[Value.slice (some ⟨b, 0, none⟩) n cap] ++ us3.toArray ++ #[Value.func (.func g) #[] cb.toArray]) = (Value.slice (some ⟨b, 0, none⟩) n cap :: (us3 ++ [Value.func (.func g) #[] cb.toArray])).toArray := by apply Array.ext'; simp
 rw [show (List.toArray ([] : List Value)) = #[] from rfl, ← e1]
 refine (h (fixI I β st ks) b cap w (cur.take e.cells.length) cb hs0.imb hs0.gl hno hcb c3 ⟨_, _, c1⟩ (fun j hj => (hcell j hj).1) (fun j hj => (hcell j hj).2) k1).mono ?_
 rintro x w' ⟨rfl, vs, q, os, rfl, hvs⟩
 have hvs' : RelL (fixI (fixI I β st ks) β (zAe st ks) []) (w.drewN q) (if e.nob then noB else β) ds' vs := by
  rw [hnob]; simp only [if_true]
  exact RelL.mono ((Fix.drew (fixI I β st ks) w q).trans (zAd [])) _ _ (BeLe.refl _) _ _ hvs
 obtain ⟨s1, s2, s3⟩ := (hs0.drew q).put (off := 0) (cs := ds') (vs := vs) (ks := []) hb he2 hf hni (by simp) hvs' (by omega) none undef
 have hset2 : setAt e.cells 0 ds' = ds' := zN1 e.cells ds' [] (by omega)
 rw [hset2] at s1
 have s4 := s1.grow os
 exact ⟨_, β, _, rfl, s4.imb, hstp0.trans ((Stp.drew β _ w q).trans (s2.trans (Stp.grow s1.imb β os))), fun _ _ _ h => h, s4.sr, s4.inj, s4.fz, s4.dom, by simp only [Rel]⟩
end
end
section
open Go.RowKit Go.Sort Go.Lib Go.Shelf
theorem ext_grow {w w' : World} (h : Ext w w') : ∃ q os, w' = grow (w.drewN q) os := by
 obtain ⟨p, hp⟩ := regrown_of_below h.1
 have hd := h.2
 refine ⟨p.d - w.drawn, p.os, ?_⟩
 rw [hp] at hd ⊢
 have : w.drawn ≤ p.d := hd
 congr 1
 unfold redrawn World.drewN
 congr 1
 omega
structure On (zs : List Nat) (cf : Nat → Nat → Int) : Prop where
 eq : ∀ x ∈ zs, ∀ y ∈ zs, (cf x y = 0 ↔ x = y)
 neg : ∀ x ∈ zs, ∀ y ∈ zs, cf y x = - cf x y
 tr : ∀ x ∈ zs, ∀ y ∈ zs, ∀ z ∈ zs, cf x y < 0 → cf y z < 0 → cf x z < 0
def zDl (cf : Nat → Nat → Int) (zs : List Nat) : List Nat := zs.mergeSort fun a b => decide (cf a b ≤ 0)
section
variable {zs : List Nat} {cf : Nat → Nat → Int}
theorem On.le_tr (h : On zs cf) {a b d : Nat} (ha : a ∈ zs) (hb : b ∈ zs) (hd : d ∈ zs) (h1 : cf a b ≤ 0) (h2 : cf b d ≤ 0) : cf a d ≤ 0 := by
 by_cases e1 : cf a b = 0
 ·rw [(h.eq a ha b hb).1 e1]; exact h2
 ·by_cases e2 : cf b d = 0
  ·rw [← (h.eq b hb d hd).1 e2]; exact h1
  ·have := h.tr a ha b hb d hd (by omega) (by omega); omega
theorem zBp (cf : Nat → Nat → Int) (zs : List Nat) : (zDl cf zs).Perm zs := List.mergeSort_perm _ _
theorem On.swo (h : On zs cf) : SWO (ltOf fun x y : {z // z ∈ zs} => cf x.1 y.1) := by
 refine ⟨fun x => ?_, fun x y z h1 h2 => ?_, fun x y z h1 h2 => ?_⟩
 ·simp [ltOf, (h.eq x.1 x.2 x.1 x.2).2 rfl]
 ·simp only [ltOf, decide_eq_true_eq] at *
  exact h.tr _ x.2 _ y.2 _ z.2 h1 h2
 ·simp only [ltOf, decide_eq_false_iff_not] at *
  have g1 := h.neg x.1 x.2 y.1 y.2
  have g2 := h.neg y.1 y.2 z.1 z.2
  have g3 := h.neg x.1 x.2 z.1 z.2
  have := h.le_tr (a := z.1) (b := y.1) (d := x.1) z.2 y.2 x.2 (by omega) (by omega)
  omega
theorem On.sorted (h : On zs cf) : (zDl cf zs).Pairwise fun a b => ¬ cf b a < 0 := by
 have key : (zs.attach.mergeSort fun a b => decide (cf a.1 b.1 ≤ 0)).Pairwise fun a b => decide (cf a.1 b.1 ≤ 0) = true :=
  List.pairwise_mergeSort (le := fun a b : {z // z ∈ zs} => decide (cf a.1 b.1 ≤ 0)) (fun a b d h1 h2 => by
   simp only [decide_eq_true_eq] at *
   exact h.le_tr a.2 b.2 d.2 h1 h2) (fun a b => by
   have := h.neg a.1 a.2 b.1 b.2
   simp only [Bool.or_eq_true, decide_eq_true_eq]; omega) zs.attach
 have e : zDl cf zs = (zs.attach.mergeSort fun a b => decide (cf a.1 b.1 ≤ 0)).map (·.1) := by
  unfold zDl
  conv => lhs; rw [← List.attach_map_subtype_val zs]
  exact (List.map_mergeSort (r := fun a b : {z // z ∈ zs} => decide (cf a.1 b.1 ≤ 0)) (s := fun a b => decide (cf a b ≤ 0)) (f := fun z : {z // z ∈ zs} => z.1) (l := zs.attach) (fun a _ b _ => rfl)).symm
 rw [e, List.pairwise_map]
 refine key.imp fun {a b} h1 => ?_
 have := h.neg a.1 a.2 b.1 b.2
 simp only [decide_eq_true_eq] at h1
 omega
theorem On.uniq (h : On zs cf) {m : List Nat} (hp : m.Perm zs) (hs : m.Pairwise fun a b => ¬ cf b a < 0) : m = zDl cf zs := by
 have hp2 := zBp cf zs
 refine List.Perm.eq_of_pairwise (le := fun a b => ¬ cf b a < 0) (fun a b ha hb h1 h2 => ?_) hs h.sorted (hp.trans hp2.symm)
 have ha := hp.mem_iff.1 ha
 have hb := hp2.mem_iff.1 hb
 have := h.neg a ha b hb
 exact (h.eq a ha b hb).1 (by omega)
end
theorem zZl {st : List Bk} {k n lim : Nat} {e : Bk} {wh : Bool} {zs : List Nat} {cf : Nat → Nat → Int} {g : FuncId} {caps caps' : List D} {ks : List Nat} (he : st[k]? = some e) (ha : e.arr = true) (hkd : e.kd = .plain) (hf : e.fz = false) (hc : e.cells = nsD zs) (hn : zs.length = n) (hb : n ≤ 1000000) (hpos : 0 < n) (hlim : lim < 4611686018427387904)
  (hfr : frz true st zAl (.clo (.func g) [] caps) = some (.clo (.func g) [] caps', ks)) (hnk : k ∉ ks) (eg : ∀ args w, (callFunc g args).run Tryd.prog w = .ok (.enter g args) w)
  (hO : On zs cf) (hcmp : ∀ x ∈ zs, ∀ y ∈ zs, Pure Tryd.prog g (iD x :: iD y :: caps') [] (iD (cf x y))) :
  Acts Tryd.prog 69 [.osl k 0 n n wh, .val (.int .i64 (0 : Nat)), .val (.int .i64 n), .val (.int .i64 lim), .clo (.func g) [] caps] st [] (.val (.tuple #[])) ((zAe st ks).set k { e with cells := nsD (zDl cf zs) }) := by
 have hsl : (zDl cf zs).length = n := by rw [(zBp cf zs).length_eq, hn]
 refine zVq (us3 := [.int .i64 0, .int .i64 n, .int .i64 lim]) he ha hkd hf (by rw [hc, List.length_map, hn]) (by rw [List.length_map, hsl]) hpos hfr hnk ?_
 intro I b c w us cb hi hgl hno hcb hr hcur hcell hfz hcap
 rw [hc] at hr
 let α := {z // z ∈ zs}
 let xs : List α := zs.attach
 let enc : α → Value := fun x => .int .i64 (x.1 : Nat)
 have hat : xs.map (·.1) = zs := List.attach_map_subtype_val zs
 have hxl : xs.length = n := by rw [← hn, ← List.length_map (f := fun z : α => z.1), hat]
 have hus : us = xs.map enc := by
  have : ∀ (zs : List Nat) (us : List Value), RelL I w noB (nsD zs) us → us = zs.map fun z => Value.int .i64 (z : Nat) := by
   intro zs
   induction zs with
   | nil => intro us h; simp only [List.map_nil, RelL] at h; rw [h]; rfl
   | cons z zs ih =>
    intro us h
    simp only [List.map_cons, RelL, Rel] at h
    obtain ⟨v, us', rfl, _, rfl, h4⟩ := h
    rw [ih us' h4]; rfl
  rw [this zs us hr]
  conv => lhs; rw [← hat, List.map_map]
  rfl
 obtain ⟨x0, hx0⟩ : ∃ x0, xs[0]? = some x0 := ⟨xs[0]'(by omega), List.getElem?_eq_getElem (by omega)⟩
 haveI : Inhabited α := ⟨x0⟩
 have hH : Holds enc w b 0 xs.toArray := fun j hj => by
  have hj' : j < n := by simpa [hxl] using hj
  refine ⟨?_, hfz j hj'⟩
  rw [hcell j hj', hus]
  simp [List.getD, hxl, hj']
 obtain ⟨cur, t, hcur⟩ := hcur
 have hblk : b < w.heap.size := by
  rw [Array.getElem?_eq_some_iff] at hcur
  exact hcur.1
 have hone : OneCell enc := fun x => rfl
 have hworld : ∀ (m : Nat) (os : Array Obj) (ys : List α), ys.length = n → sortWorld enc w b 0 m ys.toArray os = grow ((w.drewN m).setCells b 0 (ys.map enc)) os := fun m os ys hy => by
  unfold sortWorld
  rw [putRow_eq_setCells enc w b 0 xs.toArray ys m hH (by simp [hy, hxl])]
 have hfix : ∀ (m : Nat) (os : Array Obj) (dk : Array α), dk.size = n → Fix I w I (sortWorld enc w b 0 m dk os) ∧ w.heap.size ≤ (sortWorld enc w b 0 m dk os).heap.size := fun m os dk hd => by
  have e1 := hworld m os dk.toList (by simpa using hd)
  simp only [Array.toArray_toList] at e1
  rw [e1]
  obtain ⟨s1, s2, s3, s4, s5, s6⟩ := zCt b t (dk.toList.map enc) 0 (w.drewN m) cur.toList (by simpa using hcur)
  refine ⟨fun b' o' hb' => ?_, ?_⟩
  ·have hne : b' ≠ b := fun e => hno o' (e ▸ hb')
   have hlt := hi b' o' hb'
   refine ⟨hb', fun v hv => ?_, fun ks vs hm => ?_⟩
   ·simp only [World.cell?] at hv ⊢
    rw [zD0 _ os (by rw [s3]; exact hlt), s2 b' hne]
    exact hv
   ·refine hm.of_heap ?_
    rw [zD0 _ os (by rw [s3]; exact hlt), s2 b' hne]; rfl
  ·simp only [Go.Sort.size_grow, s3]
   show w.heap.size ≤ w.heap.size + os.size
   omega
 have hcmp : CmpLays1 Tryd.prog g cb.toArray enc (fun x y : α => cf x.1 y.1) b 0 xs.toArray.size w := by
  intro m os dk hd x y
  have hd' : dk.size = n := by simpa [hxl] using hd
  obtain ⟨hfx, hsz⟩ := hfix m os dk hd'
  have hr2 : RelT I (sortWorld enc w b 0 m dk os) noB (iD (x.1 : Nat) :: iD (y.1 : Nat) :: caps') (enc x :: enc y :: cb) := by
   simp only [RelT, Rel]
   exact ⟨_, _, rfl, rfl, _, _, rfl, rfl, RelT.mono hfx noB noB (BeLe.refl _) _ _ hcb⟩
  have e1 : (#[enc x, enc y] ++ cb.toArray) = (enc x :: enc y :: cb).toArray := by apply Array.ext'; simp
  rw [e1]
  refine (hcmp x.1 x.2 y.1 y.2 I _ _ hr2 (fun b o h => Nat.lt_of_lt_of_le (hi b o h) hsz) (hgl.mono hfx)).mono ?_
  rintro e' w' ⟨v, I', γ, rfl, hx, _, _, _, _, _, _, _, _, hv, _⟩
  simp only [Rel] at hv
  subst hv
  exact ⟨rfl, ext_grow hx⟩
 have hsz : xs.toArray.size = n := by simp [hxl]
 have main := Tryd.pdqsortCmpFunc_all enc (fun x y : α => cf x.1 y.1) g cb.toArray hO.swo b 0 c xs.toArray w eg hcmp ⟨hone, hH, hblk⟩ (n + 1) 0 n lim xs.toArray w (by omega) rfl (SW.start hH) (Nat.zero_le _) (by omega) (by omega) hlim (.inl rfl)
 rw [hsz] at main
 refine main.mono ?_
 rintro x w' ⟨rfl, q, os, rfl⟩
 obtain ⟨hp, hso⟩ := pdq_sorts (ltOf fun x y : α => cf x.1 y.1) hO.swo xs.toArray 0 n lim true true (Nat.zero_le _) (by omega) (.inl rfl)
 generalize pdq (ltOf fun x y : α => cf x.1 y.1) xs.toArray 0 n lim true true = d' at *
 have hd' : d'.size = n := by rw [hp.1, hsz]
 have hperm : d'.toList.Perm xs := by
  have := hp.2.2
  rw [show d'.extract 0 n = d' by rw [← hd']; exact Array.extract_size, show xs.toArray.extract 0 n = xs.toArray by rw [← hsz]; exact Array.extract_size] at this
  simpa using this
 have hl2 : d'.toList.map (·.1) = zDl cf zs := by
  refine hO.uniq ?_ ?_
  ·have := hperm.map (·.1)
   rwa [hat] at this
  ·rw [List.pairwise_map, List.pairwise_iff_getElem]
   intro i j hi' hj' hij
   have hi2 : i < d'.size := by simpa using hi'
   have hj2 : j < d'.size := by simpa using hj'
   have := hso i j (Nat.zero_le _) hij (by omega)
   rw [getElem!_pos d' j hj2, getElem!_pos d' i hi2] at this
   simpa [ltOf] using this
 refine ⟨rfl, d'.toList.map enc, q, os, ?_, ?_⟩
 ·have := hworld q os d'.toList (by simpa using hd')
  simp only [Array.toArray_toList] at this
  rw [this]
 ·rw [← hl2]
  have : ∀ (l : List α), RelL I w noB (nsD (l.map (·.1))) (l.map enc) := by
   intro l
   induction l with
   | nil => simp only [List.map_nil, RelL]
   | cons x l ih =>
    simp only [List.map_cons, RelL, Rel]
    exact ⟨_, _, rfl, rfl, rfl, by simpa using ih⟩
  exact this _
end
section
def zAz (rows : List (List Va)) (i j : Nat) : Int := rcmp (rows.getD i []) (rows.getD j [])
theorem zWe {rows : List (List Va)} (hn : rows.Nodup) : On (List.range rows.length) (zAz rows) := by
 refine ⟨fun x hx y hy => ?_, fun x _ y _ => rcw.neg _ _, fun x _ y _ z _ => rcw.tr _ _ _⟩
 have hx : x < rows.length := by simpa using hx
 have hy : y < rows.length := by simpa using hy
 unfold zAz
 rw [rcw.eq, List.getD_eq_getElem?_getD, List.getD_eq_getElem?_getD, List.getElem?_eq_getElem hx, List.getElem?_eq_getElem hy]
 simp only [Option.getD_some]
 exact ⟨fun h => (List.getElem_inj hn).1 h, fun h => by subst h; rfl⟩
section
variable {α : Type}
def srtL (l : List (Rw × α)) : List (Rw × α) := acc rcmp (fun a _ => a) [] l
theorem zRo (f : α → α → α) {l : List (Rw × α)} (h : Ndk l) : acc rcmp f [] l = srtL l := by
 have hs := zEq rcw (fun (a _ : α) => a) l [] List.Pairwise.nil
 refine Srt.uniq rcw (zEq rcw f l [] List.Pairwise.nil) hs fun r => ?_
 rw [zJa rcw f l [] r List.Pairwise.nil]
 unfold srtL
 rw [zJa rcw _ l [] r List.Pairwise.nil]
 have e : kv ([] : List (Rw × α)) r = none := rfl
 rw [e, zL7 f l r h, zL7 _ l r h]
theorem zFe [Inhabited α] {l : List (Rw × α)} (h : Ndk l) : (zDl (zAz (l.map (·.1))) (List.range l.length)).map (fun i => l.getD i default) = srtL l := by
 have ho := zWe (rows := l.map (·.1)) (show (l.map (·.1)).Nodup from h)
 rw [List.length_map] at ho
 have hp := zBp (zAz (l.map (·.1))) (List.range l.length)
 have hr : (List.range l.length).map (fun i => l.getD i default) = l := by
  apply List.ext_getElem (by simp)
  intro i h1 h2
  simp [List.getD_eq_getElem?_getD, h2]
 refine zSi rcw _ ?_ ?_ h
 ·have := hp.map fun i => l.getD i default
  rwa [hr] at this
 ·unfold Srt
  rw [List.pairwise_map]
  have hs := ho.sorted
  have hnd : (zDl (zAz (l.map (·.1))) (List.range l.length)).Nodup := hp.nodup_iff.2 List.nodup_range
  refine (hs.and hnd).imp_of_mem fun {a b} ha hb hab => ?_
  have ha := hp.mem_iff.1 ha
  have hb := hp.mem_iff.1 hb
  have h1 := ho.neg a ha b hb
  have h2 := ho.eq a ha b hb
  have ha' : a < l.length := by simpa using ha
  have hb' : b < l.length := by simpa using hb
  have e : ∀ i, i < l.length → (l.map (·.1)).getD i [] = (l.getD i default).1 := fun i hi => by simp [List.getD_eq_getElem?_getD, hi]
  have h3 : zAz (l.map (·.1)) a b ≠ 0 := fun h => hab.2 (h2.1 h)
  have h4 : zAz (l.map (·.1)) a b < 0 := by omega
  unfold zAz at h4
  rwa [e a ha', e b hb'] at h4
end
end
section
open Go.RowKit
section
variable {α : Type} [Inhabited α]
theorem zQm {f : α → α → α} {r : Rw} {v : α} : ∀ {l : List (Rw × α)}, (addT f r v l).map (·.2) = if r ∈ l.map (·.1) then (l.map (·.2)).set ((l.map (·.1)).idxOf r) (f ((l.map (·.2)).getD ((l.map (·.1)).idxOf r) default) v) else l.map (·.2) ++ [v]
 | [] => rfl
 | (s, u) :: l => by
  simp only [addT]
  by_cases e : s = r
  ·subst e; simp
  ·have ih := zQm (f := f) (r := r) (v := v) (l := l)
   rw [if_neg e, List.map_cons, ih]
   have e2 : (s == r) = false := by simpa using e
   simp only [List.map_cons, List.mem_cons, Ne.symm e, false_or, List.idxOf_cons, e2, cond_false]
   split
   ·simp
   ·simp
theorem zV1 (f : α → α → α) (L : List (Rw × α)) (i : Nat) (h : i < L.length) : sumT f [] (L.take (i + 1)) = addT f (L.getD i default).1 (L.getD i default).2 (sumT f [] (L.take i)) := by
 rw [List.take_succ_eq_append_getElem h, sumT, List.foldl_append, List.getD_eq_getElem?_getD, List.getElem?_eq_getElem h]; rfl
theorem zN0 (f : α → α → α) (L : List (Rw × α)) : srtL (sumT f [] L) = acc rcmp f [] L := by
 have hn := zJj f L [] (by simp [Ndk])
 have hp : (srtL (sumT f [] L)).Perm (sumT f [] L) := by
  rw [← zFe hn]
  have h1 := (zBp (zAz ((sumT f [] L).map (·.1))) (List.range (sumT f [] L).length)).map fun i => (sumT f [] L).getD i default
  have hr : (List.range (sumT f [] L).length).map (fun i => (sumT f [] L).getD i default) = sumT f [] L := by
   apply List.ext_getElem (by simp)
   intro i h1 h2
   simp [List.getD_eq_getElem?_getD, h2]
  rwa [hr] at h1
 exact zWq rcw f hp (zEq rcw _ _ _ List.Pairwise.nil)
end
theorem zTi (r : Rw) (v : Nat) : ∀ (l : List (Rw × Nat)), ((addT (· + ·) r v l).map (·.2)).sum = (l.map (·.2)).sum + v
 | [] => by simp [addT]
 | (s, u) :: l => by
  simp only [addT]
  split
  ·simp only [List.map_cons, List.sum_cons]; omega
  ·simp only [List.map_cons, List.sum_cons, zTi r v l]; omega
theorem zRy : ∀ (L l : List (Rw × Nat)), ((sumT (· + ·) l L).map (·.2)).sum = (l.map (·.2)).sum + (L.map (·.2)).sum
 | [], l => by simp [sumT]
 | p :: L, l => by
  have := zRy L (addT (· + ·) p.1 p.2 l)
  rw [zTi] at this
  simp only [sumT, List.foldl_cons, List.map_cons, List.sum_cons] at this ⊢
  omega
theorem zT5 {l : List Nat} {x : Nat} (h : x ∈ l) : x ≤ l.sum := by
 induction l with
 | nil => simp at h
 | cons a l ih =>
  rw [List.sum_cons]
  rcases List.mem_cons.1 h with rfl | h
  ·omega
  ·have := ih h; omega
theorem zRz {α : Type} (f : α → α → α) : ∀ (L l : List (Rw × α)), (sumT f l L).length ≤ l.length + L.length
 | [], l => by simp [sumT]
 | p :: L, l => by
  have := zRz f L (addT f p.1 p.2 l)
  have h2 : ((addT f p.1 p.2 l).map (·.1)).length ≤ l.length + 1 := by
   rw [zFb]; split <;> simp
  rw [List.length_map] at h2
  simp only [sumT, List.foldl_cons, List.length_cons] at this ⊢
  omega
theorem zR0 {α : Type} (f : α → α → α) : ∀ (L l : List (Rw × α)) (p : Rw × α), p ∈ sumT f l L → p.1 ∈ l.map (·.1) ∨ p.1 ∈ L.map (·.1)
 | [], l, p, h => .inl (List.mem_map.2 ⟨p, h, rfl⟩)
 | q :: L, l, p, h => by
  rcases zR0 f L (addT f q.1 q.2 l) p h with h1 | h1
  ·rw [zFb] at h1
   split at h1
   ·exact .inl h1
   ·rcases List.mem_append.1 h1 with h2 | h2
    ·exact .inl h2
    ·simp only [List.mem_singleton] at h2
     exact .inr (by rw [h2]; simp)
  ·exact .inr (List.mem_cons_of_mem _ h1)
theorem zA6 (K : List Rw) (r : Rw) : (K.findIdx? fun s => decide (r = s)) = if r ∈ K then some (K.idxOf r) else none := by
 induction K with
 | nil => rfl
 | cons s K ih =>
  rw [List.findIdx?_cons, ih]
  by_cases e : r = s
  ·subst e; simp
  ·have e2 : (s == r) = false := by simpa using fun h : s = r => e h.symm
   simp only [e, decide_false, Bool.false_eq_true, if_false, List.mem_cons, false_or, List.idxOf_cons, e2, cond_false]
   split <;> simp
theorem look_i (K : List Rw) (r : Rw) : zHd true (iD 0) (K.map kyv) (nsD (List.range K.length)) (kyv r) = if r ∈ K then .tup [iD (K.idxOf r : Nat), bD true] else .tup [iD 0, bD false] := by
 unfold zHd
 rw [zCw, zA6]
 split
 ·rename_i h
  split at h
  ·rename_i hm
   simp only [Option.some.injEq] at h
   subst h
   have := List.idxOf_lt_length_iff.2 hm
   simp [ctD, hm, List.getD_eq_getElem?_getD, this]
  ·cases h
 ·rename_i h
  split at h
  ·cases h
  ·rename_i hm
   simp [ctD, hm]
end
section
open Go.RowKit
attribute [local irreducible] seqW awp zAf zAo zAg Weak updS zAw retL Pure Acts rP setP setQ cP nP fr
set_option maxRecDepth 4096
theorem zAi (l : List Nat) (k : Nat) (h : k < l.length) : ((nsD l).drop k).headD .unk = iD (l.getD k 0 : Nat) := zC7 (fun c : Nat => iD (c : Int)) l 0 k h
theorem zDk (l : List Nat) (k : Nat) (h : k < l.length) : l.getD k 0 ∈ l := by
 rw [List.getD_eq_getElem?_getD, List.getElem?_eq_getElem h]; exact List.getElem_mem h
abbrev fB1 (a b c : D) : Bk := ⟨[a, b, c], 30, 0, false, false, .plain⟩
abbrev q4_ (x0 : List Nat) := D.row (nsD x0) (List.length x0)
set_option maxHeartbeats 1000000 in
theorem zL2 (A : List Nat) (n : Nat) (hn : A.length = n) (hl : n ≤ 1000) (hA : ∀ v ∈ A, v < 32) (x y : List D) (k j : Nat) : Pure Tryd.prog 47 [.agg [.row (nsD A) n, .row x k, .row y j]] [] (u32D (msk A)) := by
 subst hn
 have hlt : ∀ i, msk (A.take i) < 4294967296 := fun i => zDi fun v hv => hA v (List.mem_of_mem_take hv)
 refine zL zB0 mixed Tryd.func47 rfl ?_
 focus
  refine zB (zA rfl (v0s (veT (zB (zA rfl (veT (zB (zB (zA rfl (ve (True ∧ 0 < 3) (zF ?_)))))))))))
  rotate_left
 refine zW (fun (i : Nat) => fr 19 [(2, D.val (Value.int IntKind.u32 0)), (3, u32D (msk (List.take i A))), (7, (q4_ A)), (8, iD ↑(List.length A)), (9, iD ↑i)]) (fun i => [fB1 (.row (nsD A) A.length) (.row x k) (.row y j)]) (fun i => A.length - i) (fun i => i ≤ A.length) 0 ?_ ?_ ?_
 ·omega
 ·refine vk 1
 rintro i h1
 have hi := hlt i
 rcases Nat.lt_or_ge i A.length with h2 | h2
 ·have h3 := hA _ (zDk A i h2)
  have h4 := zSh h3
  have h5 := zT1 hi h4
  focus
   refine zB (zA rfl (v0s (veT (zB (vT ((↑i : Int) < ↑(List.length A)) (zG (zC (zD (zB (zF (zB (zA rfl (vr 1 (ix ↑i ↑(List.length A) (nsD A ≠ [])) ?_ ⟨(by omega), ⟨(by omega), (by exact zY (by omega))⟩⟩)))))))))))))
   refine vp 11 i (nsD A) (vr 1 (0 < List.length (List.drop i (nsD A))) (vs 12 (List.headD (List.drop i (nsD A)) Uk) (iD ↑(List.getD A i 0)) (by simp (disch := omega) only [zAi]) (veT (zA rfl (vr 3 ((0 : Int) ≤ (↑(List.getD A i 0) : Int)) (vs 15 (D.val (Value.int IntKind.u32 (IntKind.wrap IntKind.u32 ((1 : Int) * (2 : Int) ^ min (Int.toNat (↑(List.getD A i 0) : Int)) 32)))) (dig ((2 : Nat) ^ List.getD A i 0)) (by simp (disch := omega) only [Int.toNat_natCast, zMl]) (vrT 1 (vs 16 (D.val (Value.int IntKind.u32 (IntKind.wrap IntKind.u32 (↑(BitVec.toNat (BitVec.ofInt 32 (↑(msk (List.take i A)) : Int) ||| BitVec.ofInt 32 (↑((2 : Nat) ^ List.getD A i 0) : Int))) : Int)))) (dig (msk (List.take i A) ||| (2 : Nat) ^ List.getD A i 0)) (by simp (disch := omega) only [bv_or, zBa]) (vrT 1 (vnil (zE (zC (zD ?_)))))))))))))
   refine zA rfl (vr 2 (i6 (↑i + 1)) (vnil (zC ?_)))
   rotate_left
  refine ⟨i + 1, by omega, by omega, ?_⟩
  rw [zZv A i h2]
  refine vk 1
 ·focus
   refine zB (zA rfl (v0s (veT (zB (vF ((↑i : Int) < ↑(List.length A)) (zQ (zH (zH (zP rfl (zC (zD (zB (zA rfl ?_)))))))))))))
   refine veT (zM ?_)
   refine vre (True) (dig (msk (List.take i A))) (.inr rfl) ?_
   rotate_left
  rw [List.take_of_length_le h2]
def zZx (m : Nat) : List Nat := (List.range 32).filter fun v => m.testBit v
theorem zT6 (m i : Nat) (h : i < 32) : ((List.range 32).take (i + 1)).filter (fun v => m.testBit v) = ((List.range 32).take i).filter (fun v => m.testBit v) ++ if m.testBit i then [i] else [] := by
 rw [List.take_succ_eq_append_getElem (by simpa using h), List.filter_append]
 congr 1
 simp only [List.getElem_range, List.filter_cons, List.filter_nil]
theorem zKf (l : List Nat) (i : Nat) : nsD (l ++ [i]) = nsD l ++ [iD i] := by simp
theorem zH3 (l : List Nat) (n : Nat) (h : l.length = n) : (nsD l).take n = nsD l := List.take_of_length_le (by simp [h])
def zB1 (p : Nat → Bool) (A : List Nat) : List Nat := (List.range A.length).filter fun j => p (A.getD j 0)
theorem zQa (p : Nat → Bool) (A : List Nat) (i : Nat) (h : i < A.length) : ((List.range A.length).take (i + 1)).filter (fun j => p (A.getD j 0)) = ((List.range A.length).take i).filter (fun j => p (A.getD j 0)) ++ if p (A.getD i 0) then [i] else [] := by
 rw [List.take_succ_eq_append_getElem (by simpa using h), List.filter_append]
 congr 1
 simp only [List.getElem_range, List.filter_cons, List.filter_nil]
abbrev intB (l : List D) : Bk := ⟨l, 3, 1, true, false, .plain⟩
set_option maxHeartbeats 1000000 in
theorem zPq (m : Nat) (hm : m < 4294967296) : Pure Tryd.prog 48 [u32D m] [] (.row (nsD (zZx m)) (zZx m).length) := by
 refine zL zB0 mixed Tryd.func48 rfl ?_
 focus
  refine zB (zA rfl (v0s (veT (zB (zA rfl (veT (zB (zB (zA rfl (veT (zF ?_)))))))))))
  rotate_left
 refine zAu (fun (i : Nat) (l : List Nat) => fr 19 [(0, u32D m), (2, nl), (3, D.osl 0 0 (List.length l) (List.length l) true), (5, iD ↑i)]) (fun i l => [intB (nsD l)]) (fun i l => 32 - i) (fun (i : Nat) (l : List Nat) => i ≤ 32 ∧ l = ((List.range 32).take i).filter fun v => m.testBit v) 0 [] ?_ ?_ ?_
 ·exact ⟨by omega, by simp⟩
 ·refine vk 0
 rintro i l ⟨h1, h2⟩
 rcases Nat.lt_or_ge i 32 with h3 | h3
 ·have h4 := zT6 m i h3
  rw [← h2] at h4
  have hlen : l.length ≤ 32 := by rw [h2]; exact Nat.le_trans (List.length_filter_le _ _) (by simp; omega)
  focus
   refine zB (zA rfl (v0s (veT (zB (vT ((↑i : Int) < (32 : Int)) (zG (zC (zD (zB (zF (zB (zA rfl (veT ?_)))))))))))))
   refine zB (zA rfl (vr 3 ((0 : Int) ≤ (↑i : Int)) (vs 10 (D.val (Value.int IntKind.u32 (Int.fdiv (↑m : Int) ((2 : Int) ^ min (Int.toNat (↑i : Int)) 32)))) (dig (m >>> i)) (by simp (disch := omega) only [Int.toNat_natCast, zEv]) (vrT 1 (vs 11 (D.val (Value.int IntKind.u32 (IntKind.wrap IntKind.u32 (↑(BitVec.toNat (BitVec.ofInt 32 (↑(m >>> i) : Int) &&& BitVec.ofInt 32 (1 : Int))) : Int)))) (dig (BitVec.toNat (BitVec.ofInt 32 (↑(m >>> i) : Int) &&& BitVec.ofInt 32 (1 : Int)))) (by simp (disch := omega) only [zBa]) (vrT 1 (vs 12 (bD ((↑(BitVec.toNat (BitVec.ofInt 32 (↑(m >>> i) : Int) &&& BitVec.ofInt 32 (1 : Int))) : Int) == (1 : Int))) (bD (Nat.testBit m i)) (by simp (disch := omega) only [bit_b]) (veT ?_))))))))
   refine zR (t := Nat.testBit m i) (by kernel_rfl) (fun hc => ?_) (fun hc => ?_)
   refine zA rfl (vr 5 (((1 = 1 ∧ 1 ≤ 1 ∧ True) ∧ 0 < 1 ∧ 1 = 1 ∧ 1 ≤ 16777216 ∧ 1 ≤ 9223372036854775807) ∧ Bk.arr (intB (nsD l)) = true ∧ List.length (Bk.cells (intB (nsD l))) = List.length l * 1 ∧ List.length l = List.length l * 1 ∧ Bk.ty (intB (nsD l)) = 3 ∧ Bk.sz (intB (nsD l)) = 1 ∧ 1 = 1 ∧ 0 < 1 ∧ 0 < 8 ∧ 3 = 3 ∧ (List.length l + 1) * 8 ≤ 140737488355328 ∧ 1 = 1 ∧ Kd.isMap (Bk.kd (intB (nsD l))) = false ∧ (false = false ∨ Kd.isSh (Bk.kd (intB (nsD l))) = true)) (vs 3 (D.osl 0 0 (List.length l + 1) ((List.length l + 1) * 1) true) (D.osl 0 0 (List.length l + 1) (List.length l + 1) true) (by simp (disch := omega) only [Nat.mul_one]) (vnil (zE (zC (zD (zA rfl (vr 2 (i6 (↑i + 1)) (vnil (zC ?_))))))))))
   rotate_left
   refine zG (zE (zC (zD (zA rfl (vr 2 (i6 (↑i + 1)) (vnil (zC ?_)))))))
   rotate_left
  ·have hc2 : m.testBit i = true := by assumption
   rw [hc2, if_pos rfl] at h4
   refine ⟨i + 1, l ++ [i], ⟨by omega, h4.symm⟩, by omega, ?_⟩
   rw [zKf, List.length_append]
   refine vk 1
  ·have hc2 : m.testBit i = false := by assumption
   rw [hc2, if_neg (by decide), List.append_nil] at h4
   refine ⟨i + 1, l, ⟨by omega, h4.symm⟩, by omega, ?_⟩
   refine vk 1
 ·focus
   refine zB (zA rfl (v0s (veT (zB (vF ((↑i : Int) < (32 : Int)) (zQ (zH (zH (zP rfl (zC (zD (zB (zA rfl ?_)))))))))))))
   refine veT (zM ?_)
   refine zBm (True) (D.row (List.take (List.length l) (List.drop 0 (Bk.cells (intB (nsD l))))) (List.length l)) (D.row (List.take (List.length l) (nsD l)) (List.length l)) (.inr rfl) (by kernel_rfl) trivial (by simp (disch := omega) only [List.drop_zero]) ?_
   rotate_left
  have e : i = 32 := by omega
  subst e
  rw [List.take_of_length_le (by simp)] at h2
  rw [h2, zH3 _ _ rfl]
  rfl
set_option maxHeartbeats 1000000 in
theorem zGx (A B : List Nat) (n : Nat) (hn : A.length = n) (hl : n ≤ 1000) (hA : ∀ v ∈ A, v < 32) (m : Nat) (hm : m < 4294967296) : Pure Tryd.prog 52 [.row (nsD A) n, u32D m] [] (.row (nsD (zB1 (fun v => m.testBit v) A)) (zB1 (fun v => m.testBit v) A).length) := by
 subst hn
 refine zL zB0 mixed Tryd.func52 rfl ?_
 focus
  refine zB (zA rfl (v0s (veT (zB (zA rfl (veT (zB (zB (zA rfl (veT (zF ?_)))))))))))
  rotate_left
 refine zAu (fun (i : Nat) (l : List Nat) => fr 26 [(1, u32D m), (4, nl), (5, D.osl 0 0 (List.length l) (List.length l) true), (8, (q4_ A)), (9, iD ↑(List.length A)), (10, iD ↑i)]) (fun i l => [intB (nsD l)]) (fun i l => A.length - i) (fun (i : Nat) (l : List Nat) => i ≤ A.length ∧ l = ((List.range A.length).take i).filter fun j => m.testBit (A.getD j 0)) 0 [] ?_ ?_ ?_
 ·exact ⟨by omega, by simp⟩
 ·refine vk 0
 rintro i l ⟨h1, h2⟩
 rcases Nat.lt_or_ge i A.length with h3 | h3
 ·have h4 := zQa (fun v => m.testBit v) A i h3
  rw [← h2] at h4
  have hlen : l.length ≤ 1000 := by rw [h2]; exact Nat.le_trans (List.length_filter_le _ _) (by simp; omega)
  have h5 := hA _ (zDk A i h3)
  focus
   refine zB (zA rfl (v0s (veT (zB (vT ((↑i : Int) < ↑(List.length A)) (zG (zC (zD (zB (zF (zB (zA rfl (vr 2 (ix ↑i ↑(List.length A) (nsD A ≠ [])) ?_ ⟨(by omega), ⟨(by omega), (by exact zY (by omega))⟩⟩)))))))))))))
   refine vp 13 i (nsD A) (vr 1 (0 < List.length (List.drop i (nsD A))) (vs 14 (List.headD (List.drop i (nsD A)) Uk) (iD ↑(List.getD A i 0)) (by simp (disch := omega) only [zAi]) (veT (zB (zA rfl (vr 3 ((0 : Int) ≤ (↑(List.getD A i 0) : Int)) (vs 17 (D.val (Value.int IntKind.u32 (Int.fdiv (↑m : Int) ((2 : Int) ^ min (Int.toNat (↑(List.getD A i 0) : Int)) 32)))) (dig (m >>> List.getD A i 0)) (by simp (disch := omega) only [Int.toNat_natCast, zEv]) (vrT 1 (vs 18 (D.val (Value.int IntKind.u32 (IntKind.wrap IntKind.u32 (↑(BitVec.toNat (BitVec.ofInt 32 (↑(m >>> List.getD A i 0) : Int) &&& BitVec.ofInt 32 (1 : Int))) : Int)))) (dig (BitVec.toNat (BitVec.ofInt 32 (↑(m >>> List.getD A i 0) : Int) &&& BitVec.ofInt 32 (1 : Int)))) (by simp (disch := omega) only [zBa]) (vrT 1 (vs 19 (bD ((↑(BitVec.toNat (BitVec.ofInt 32 (↑(m >>> List.getD A i 0) : Int) &&& BitVec.ofInt 32 (1 : Int))) : Int) == (1 : Int))) (bD (Nat.testBit m (List.getD A i 0))) (by simp (disch := omega) only [bit_b]) (veT ?_))))))))))))
   refine zR (t := Nat.testBit m (List.getD A i 0)) (by kernel_rfl) (fun hc => ?_) (fun hc => ?_)
   refine zA rfl (vr 5 (((1 = 1 ∧ 1 ≤ 1 ∧ True) ∧ 0 < 1 ∧ 1 = 1 ∧ 1 ≤ 16777216 ∧ 1 ≤ 9223372036854775807) ∧ Bk.arr (intB (nsD l)) = true ∧ List.length (Bk.cells (intB (nsD l))) = List.length l * 1 ∧ List.length l = List.length l * 1 ∧ Bk.ty (intB (nsD l)) = 3 ∧ Bk.sz (intB (nsD l)) = 1 ∧ 1 = 1 ∧ 0 < 1 ∧ 0 < 8 ∧ 3 = 3 ∧ (List.length l + 1) * 8 ≤ 140737488355328 ∧ 1 = 1 ∧ Kd.isMap (Bk.kd (intB (nsD l))) = false ∧ (false = false ∨ Kd.isSh (Bk.kd (intB (nsD l))) = true)) (vs 5 (D.osl 0 0 (List.length l + 1) ((List.length l + 1) * 1) true) (D.osl 0 0 (List.length l + 1) (List.length l + 1) true) (by simp (disch := omega) only [Nat.mul_one]) (vnil (zE (zC (zD (zA rfl (vr 2 (i6 (↑i + 1)) (vnil (zC ?_))))))))))
   rotate_left
   refine zG (zE (zC (zD (zA rfl (vr 2 (i6 (↑i + 1)) (vnil (zC ?_)))))))
   rotate_left
  ·have hc2 : m.testBit (A.getD i 0) = true := by assumption
   rw [hc2, if_pos rfl] at h4
   refine ⟨i + 1, l ++ [i], ⟨by omega, h4.symm⟩, by omega, ?_⟩
   rw [zKf, List.length_append]
   refine vk 1
  ·have hc2 : m.testBit (A.getD i 0) = false := by assumption
   rw [hc2, if_neg (by decide), List.append_nil] at h4
   refine ⟨i + 1, l, ⟨by omega, h4.symm⟩, by omega, ?_⟩
   refine vk 1
 ·focus
   refine zB (zA rfl (v0s (veT (zB (vF ((↑i : Int) < ↑(List.length A)) (zQ (zH (zH (zP rfl (zC (zD (zB (zA rfl ?_)))))))))))))
   refine veT (zM ?_)
   refine zBm (True) (D.row (List.take (List.length l) (List.drop 0 (Bk.cells (intB (nsD l))))) (List.length l)) (D.row (List.take (List.length l) (nsD l)) (List.length l)) (.inr rfl) (by kernel_rfl) trivial (by simp (disch := omega) only [List.drop_zero]) ?_
   rotate_left
  have e : i = A.length := by omega
  subst e
  rw [List.take_of_length_le (by simp)] at h2
  rw [h2, zH3 _ _ rfl]
  rfl
end
section
open Go.RowKit
section
variable {α : Type} {g : α → List D} {c : Nat}
theorem zP1 (hg : ∀ a, (g a).length = c) (l : List α) : (l.flatMap g).length = l.length * c := by
 induction l with
 | nil => simp
 | cons a l ih => simp only [List.flatMap_cons, List.length_append, ih, hg, List.length_cons, Nat.succ_mul]; omega
theorem zQ6 (hg : ∀ a, (g a).length = c) (l : List α) (i : Nat) : (l.flatMap g).drop (i * c) = (l.drop i).flatMap g := by
 induction l generalizing i with
 | nil => simp
 | cons a l ih =>
  cases i with
  | zero => simp
  | succ i =>
   rw [List.flatMap_cons, Nat.succ_mul, Nat.add_comm, ← List.drop_drop, List.drop_succ_cons]
   rw [show (g a ++ l.flatMap g).drop c = l.flatMap g by rw [← hg a, List.drop_left], ih]
theorem fl_at [Inhabited α] (hg : ∀ a, (g a).length = c) (l : List α) (i : Nat) (h : i < l.length) : (l.flatMap g).drop (i * c) = g (l.getD i default) ++ (l.drop (i + 1)).flatMap g := by
 rw [zQ6 hg, List.drop_eq_getElem_cons h, List.flatMap_cons, List.getD_eq_getElem?_getD, List.getElem?_eq_getElem h]; rfl
theorem zFw [Inhabited α] (hg : ∀ a, (g a).length = c) (l : List α) (i : Nat) (h : i < l.length) : ((l.flatMap g).drop (i * c)).take c = g (l.getD i default) := by
 rw [fl_at hg l i h, List.take_append_of_le_length (by rw [hg]; omega), List.take_of_length_le (by rw [hg]; omega)]
theorem zJe (hg : ∀ a, (g a).length = c) (hc : 0 < c) (l : List α) (h : 0 < l.length) : l.flatMap g ≠ [] := fun e => by
 have := zP1 hg l
 rw [e] at this
 have h2 : 0 < l.length * c := Nat.mul_pos h hc
 simp only [List.length_nil] at this; omega
theorem zJf [Inhabited α] (hg : ∀ a, (g a).length = c) (l : List α) (i : Nat) (h : i < l.length) : c ≤ ((l.flatMap g).drop (i * c)).length := by
 rw [fl_at hg l i h, List.length_append, hg]; omega
theorem zKv (hg : ∀ a, (g a).length = c) (l : List α) (n : Nat) (h : l.length = n) : (l.flatMap g).take (n * c) = l.flatMap g := List.take_of_length_le (by rw [zP1 hg]; subst h; omega)
theorem zCi [Inhabited α] (l : List α) (i : Nat) (h : i < l.length) : l.take (i + 1) = l.take i ++ [l.getD i default] := by
 rw [List.take_succ_eq_append_getElem h, List.getD_eq_getElem?_getD, List.getElem?_eq_getElem h]; rfl
end
end
section
open Go.RowKit
attribute [local irreducible] seqW awp zAf zAo zAg Weak updS zAw retL Pure Acts rP setP setQ cP nP fr
set_option maxRecDepth 4096
theorem zZk (x : List Va) (cols : List Nat) (h : ∀ v ∈ x, Vs v) : ∀ v ∈ zAc x cols, Vs v := by
 intro v hv
 obtain ⟨c, _, rfl⟩ := List.mem_map.1 hv
 rw [List.getD_eq_getElem?_getD]
 cases e : x[c]? with
 | none => exact ⟨by decide, by decide, by decide⟩
 | some u => exact h u (List.mem_of_getElem? e)
theorem zW8 (x : List Va) (cols : List Nat) (n m : Nat) (hn : x.length = n) (hm : cols.length = m) (ln : n ≤ 10000) (lm : m ≤ 10000) (hc : ∀ c ∈ cols, c < x.length) (hv : ∀ v ∈ x, Vs v) : Pure Tryd.prog 53 [.row (zK x) n, .row (nsD cols) m] [] (strD (idR (zAc x cols))) := by
 have h1 := zLq x cols n m hn hm (by omega) (by omega) hc
 have h2 := rkey_c (zAc x cols) m (by simp [zAc, hm]) lm (zZk x cols hv)
 refine zL zB0 mixed Tryd.func53 rfl ?_
 focus
  refine zB (zA rfl (v0s (veT (zB (zA rfl (vrT 2 (vc h1 (ve (0 < 2 ∧ 1 < 2) (zB (zA rfl (vrT 1 (vc h2 (veT ?_)))))))))))))
  refine zM (vret (True) (.inr rfl))
abbrev flC (f : List Nat × List (List Va)) : List D := [.row (nsD f.1) f.1.length, .mfz (f.2.map kyv) (f.2.map fun _ => bD true)]
theorem zKw (f : List Nat × List (List Va)) : (flC f).length = 2 := rfl
theorem look_b (K : List (List Va)) (r : List Va) : zHd false (bD false) (K.map kyv) (K.map fun _ => bD true) (kyv r) = bD (decide (r ∈ K)) := by
 unfold zHd
 rw [zCw]
 cases e : K.findIdx? fun s => decide (r = s) with
 | none =>
  rw [List.findIdx?_eq_none_iff] at e
  have : r ∉ K := fun h => by have := e r h; simp at this
  simp [ctD, this]
 | some i =>
  rw [List.findIdx?_eq_some_iff_getElem] at e
  obtain ⟨h, h1, _⟩ := e
  have : r ∈ K := by
   have e2 : r = K[i] := by simpa using h1
   rw [e2]; exact List.getElem_mem h
  simp [ctD, this, List.getD_eq_getElem?_getD, h]
abbrev flB1 (a b : D) : Bk := ⟨[a, b], 99, 0, false, false, .plain⟩
set_option maxHeartbeats 1000000 in
theorem zZm (fs : List (List Nat × List (List Va))) (n : Nat) (hn : fs.length = n) (hl : n ≤ 1000) (x : List Va) (m : Nat) (hm : x.length = m) (lm : m ≤ 10000) (hv : ∀ v ∈ x, Vs v) (hcs : ∀ f ∈ fs, f.1.length ≤ 1000 ∧ ∀ c ∈ f.1, c < x.length) : Pure Tryd.prog 55 [.row (fs.flatMap flC) n, .row (zK x) m] [] (bD (fs.all fun f => decide (zAc x f.1 ∈ f.2))) := by
 subst hn
 refine zL zB0 mixed Tryd.func55 rfl ?_
 focus
  refine zB (zA rfl (v0s (veT (zB (zB (zA rfl (veT (zF ?_))))))))
  rotate_left
 refine zW (fun (i : Nat) => fr 22 [(1, D.row (zK x) m), (7, D.row (List.flatMap flC fs) (List.length fs)), (8, iD ↑(List.length fs)), (9, iD ↑i)]) (fun _ => []) (fun i => fs.length - i) (fun i => i ≤ fs.length ∧ (fs.take i).all (fun f => decide (zAc x f.1 ∈ f.2)) = true) 0 ?_ ?_ ?_
 ·exact ⟨by omega, by simp⟩
 ·refine vk 0
 rintro i ⟨h1, h2⟩
 rcases Nat.lt_or_ge i fs.length with h3 | h3
 ·have hf : fs.getD i default ∈ fs := by rw [List.getD_eq_getElem?_getD, List.getElem?_eq_getElem h3]; exact List.getElem_mem h3
  have hk := zW8 x (fs.getD i default).1 m _ hm rfl lm (by have := (hcs _ hf).1; omega) (hcs _ hf).2 hv
  have hs := zNm (fun f : List Nat × List (List Va) => decide (zAc x f.1 ∈ f.2)) default fs i h3
  rw [h2, Bool.true_and] at hs
  have hg := zFw zKw fs i h3
  have hle := zJf zKw fs i h3
  have hne := zJe zKw (by decide) fs (by omega)
  generalize hfe : fs.getD i default = f at *
  focus
   refine zB (zA rfl (v0s (veT (zB (vT ((↑i : Int) < ↑(List.length fs)) (zG (zC (zD (zB (zF (zB (zA rfl (vr 2 (ix ↑i ↑(List.length fs) (List.flatMap flC fs ≠ []) ∧ 2 ≤ List.length (List.drop (i * 2) (List.flatMap flC fs))) ?_)))))))))))))
   refine vs 12 (D.agg (List.take 2 (List.drop (i * 2) (List.flatMap flC fs)))) (D.agg (flC f)) (by simp (disch := omega) only [hg]) (ve (false = false ∧ true = true ∧ 2 = 2 ∧ 2 ≤ 2) (zB (vd [0, 2, 3, 1, 4, 5, 6, 7] (vr 5 (True ∧ True ∧ 0 < 1 ∧ 0 < 2) (vc hk ?_)))))
   refine vwh 1 [] [] (zX (TypeInfo.desc (TypeInfo.mk TypeDesc.string "string" 1 16 true 8 8 (some (Value.string (ByteArray.mk #[]))) true #[])) (Value.string (bs (idR (zAc x (Prod.fst f))))) = true ∧ List.all (List.map kyv (Prod.snd f)) (zX (TypeInfo.desc (TypeInfo.mk TypeDesc.string "string" 1 16 true 8 8 (some (Value.string (ByteArray.mk #[]))) true #[]))) = true) ?_ ?_
   rotate_left
   refine vs 19 (zHd false (bD false) (List.map kyv (Prod.snd f)) (List.map (fun (x : List Va) => bD true) (Prod.snd f)) (Value.string (bs (idR (zAc x (Prod.fst f)))))) (bD (decide (zAc x (Prod.fst f) ∈ Prod.snd f))) (by simp (disch := omega) only [look_b]) (veT ?_)
   refine zR (t := !decide (zAc x (Prod.fst f) ∈ Prod.snd f)) (by kernel_rfl) (fun hc => ?_) (fun hc => ?_)
   simp only [Bool.not_eq_true'] at hc
   refine zB (zA rfl (veT (zM (zN (zJ (zJ (zN (zJ ?_))))))))
   refine vre (True) (D.val (Value.bool false)) (.inr rfl) ?_
   rotate_left
   simp only [Bool.not_eq_false'] at hc
   refine zG (zE (zC (zD (zA rfl (vr 2 (i6 (↑i + 1)) (vnil (zC ?_)))))))
   rotate_left
  ·exact ⟨rfl, zE7 _⟩
  ·congr 2
   symm
   refine zTh _ default fs i h3 ?_
   rw [hfe]
   simpa using hc
  ·refine ⟨i + 1, ⟨by omega, ?_⟩, by omega, ?_⟩
   ·rw [hs]
    simpa using hc
   ·refine vk 0
 ·focus
   refine zB (zA rfl (v0s (veT (zB (vF ((↑i : Int) < ↑(List.length fs)) (zQ (zH (zH (zP rfl (zC (zD (zB (zA rfl ?_)))))))))))))
   refine veT (zM ?_)
   refine vre (True) (D.val (Value.bool true)) (.inr rfl) ?_
   rotate_left
  have e : i = fs.length := by omega
  subst e
  rw [List.take_length] at h2
  rw [h2]
def addK (K : List (List Va)) (r : List Va) : List (List Va) := if r ∈ K then K else K ++ [r]
def allK (L : List (List Va)) : List (List Va) := L.foldl addK []
theorem zGy (L : List (List Va)) (r : List Va) : r ∈ allK L ↔ r ∈ L := by
 have key : ∀ (L K : List (List Va)), r ∈ L.foldl addK K ↔ r ∈ K ∨ r ∈ L := by
  intro L
  induction L with
  | nil => intro K; simp
  | cons a L ih =>
   intro K
   rw [List.foldl_cons, ih]
   unfold addK
   split
   ·rename_i h
    constructor
    ·rintro (h1 | h1)
     ·exact .inl h1
     ·exact .inr (List.mem_cons_of_mem _ h1)
    ·rintro (h1 | h1)
     ·exact .inl h1
     ·rcases List.mem_cons.1 h1 with rfl | h2
      ·exact .inl h
      ·exact .inr h2
   ·simp [or_assoc]
 rw [allK, key]; simp
theorem zYc (L : List (List Va)) (i : Nat) (h : i < L.length) : allK (L.take (i + 1)) = addK (allK (L.take i)) (L.getD i []) := by
 rw [List.take_succ_eq_append_getElem h, allK, List.foldl_append, List.getD_eq_getElem?_getD, List.getElem?_eq_getElem h]; rfl
abbrev mapB (K : List (List Va)) : Bk := ⟨K.map fun _ => bD true, 97, 0, true, false, .map (K.map kyv)⟩
theorem mput_b (K : List (List Va)) (r : List Va) : mput (mapB K) (K.map kyv) (kyv r) (bD true) = mapB (addK K r) := by
 unfold mput addK
 rw [zCw]
 cases e : K.findIdx? fun s => decide (r = s) with
 | none =>
  rw [List.findIdx?_eq_none_iff] at e
  have : r ∉ K := fun h => by have := e r h; simp at this
  simp [this]
 | some i =>
  rw [List.findIdx?_eq_some_iff_getElem] at e
  obtain ⟨h, h1, _⟩ := e
  have : r ∈ K := by
   have e2 : r = K[i] := by simpa using h1
   rw [e2]; exact List.getElem_mem h
  rw [if_pos this]
  simp only [mapB]
  congr 1
  apply List.ext_getElem (by simp)
  intro j h1 h2
  simp [List.getElem_set]
abbrev q5_ (x0 : List (List Va)) := D.row (List.map rowV x0) (List.length x0)
set_option maxHeartbeats 1000000 in
theorem zVf (A U : List Nat) (a u nv : Nat) (ha : A.length = a) (hu : U.length = u) (la : a ≤ 32) (lu : u ≤ 32) (hA : ∀ v ∈ A, v < 32) (hU : ∀ v ∈ U, v < 32) (rows : List (List Va)) (n : Nat) (hn : rows.length = n) (ln : n ≤ 1000000) (hr : ∀ r ∈ rows, r.length = a) (hv : ∀ r ∈ rows, ∀ v ∈ r, Vs v) (y : List D) (m : Nat) (hm : m < 4294967296) :
  Pure Tryd.prog 51 [.agg [.row (nsD A) a, .row (rows.map rowV) n, .row y nv], .row (nsD U) u, u32D m] [] (.agg (flC (zB1 (fun v => (msk A &&& m).testBit v) U, allK (rows.map fun r => zAc r (zB1 (fun v => (msk A &&& m).testBit v) A))))) := by
 subst hn ha hu
 have hma := zDi hA
 have h1 := zL2 A _ rfl (by omega) hA (rows.map rowV) y rows.length nv
 have h5 := zX9 (b := m) hma
 have h2 := zGx U U _ rfl (by omega) hU _ h5
 have h3 := zGx A A _ rfl (by omega) hA _ h5
 refine zL zB0 mixed Tryd.func51 rfl ?_
 focus
  refine zB (zA rfl (v0s (veT (zB (zA rfl (vr 1 (3 ≤ 3) (vc h1 (vrT 2 (vs 15 (D.val (Value.int IntKind.u32 (IntKind.wrap IntKind.u32 (↑(BitVec.toNat (BitVec.ofInt 32 (↑(msk A) : Int) &&& BitVec.ofInt 32 (↑m : Int))) : Int)))) (dig (msk A &&& m)) (by simp (disch := omega) only [bv_and, zBa]) (veT (zB (zA rfl (vrT 2 ?_)))))))))))))
  refine vc h2 (ve (True ∧ ((1 = 1 ∧ 1 ≤ 2 ∧ 1 = 1 ∧ 2 ≤ 2 ∧ True) ∧ true = true) ∧ false = false ∧ true = true ∧ 2 = 2 ∧ 2 ≤ 2) (zB (zA rfl (vr 3 (True ∧ 0 < 3) (vc h3 (veT (zB (zB (zA rfl (ve (True ∧ 0 < 2) (zF ?_)))))))))))
  rotate_left
 obtain ⟨cA, hcA⟩ : ∃ cA, cA = zB1 (fun v => (msk A &&& m).testBit v) A := ⟨_, rfl⟩
 obtain ⟨cU, hcU⟩ : ∃ cU, cU = zB1 (fun v => (msk A &&& m).testBit v) U := ⟨_, rfl⟩
 have hcl : ∀ c ∈ cA, c < A.length := fun c h => by
  rw [hcA] at h
  simpa using (List.mem_filter.1 h).1
 have hcn : cA.length ≤ 1000 := by rw [hcA]; exact Nat.le_trans (List.length_filter_le _ _) (by simp; omega)
 rw [← hcA, ← hcU]
 refine zW (fun (i : Nat) => fr 39 [(6, D.own 1 0), (8, D.own 3 0), (9, (q4_ cA)), (26, (q5_ rows)), (27, iD ↑(List.length rows)), (28, iD ↑i)]) (fun i => [fB1 (.row (nsD A) A.length) (.row (rows.map rowV) rows.length) (.row y nv), flB1 nl (.val (.map none)), mapB (allK ((rows.map fun r => zAc r cA).take i)), flB1 (.row (nsD cU) cU.length) (.mref 2)]) (fun i => rows.length - i) (fun i => i ≤ rows.length) 0 ?_ ?_ ?_
 ·omega
 ·refine vk 4
 rintro i h6
 rcases Nat.lt_or_ge i rows.length with h7 | h7
 ·have hd : ((rows.map rowV).drop i).headD .unk = rowV (rows.getD i []) := zC7 rowV rows [] i h7
  have hm : rows.getD i [] ∈ rows := by rw [List.getD_eq_getElem?_getD, List.getElem?_eq_getElem h7]; exact List.getElem_mem h7
  have hk := zW8 (rows.getD i []) cA _ _ rfl rfl (by rw [hr _ hm]; omega) (by omega) (by rw [hr _ hm]; exact hcl) (hv _ hm)
  have hs := zYc (rows.map fun r => zAc r cA) i (by simpa using h7)
  rw [show (rows.map fun r => zAc r cA).getD i [] = zAc (rows.getD i []) cA by simp [List.getD_eq_getElem?_getD, h7]] at hs
  generalize allK ((rows.map fun r => zAc r cA).take i) = K at *
  focus
   refine zB (zA rfl (v0s (veT (zB (vT ((↑i : Int) < ↑(List.length rows)) (zG (zC (zD (zB (zF (zB (zA rfl (vr 1 (ix ↑i ↑(List.length rows) (List.map rowV rows ≠ [])) ?_ ⟨(by omega), ⟨(by omega), (by exact zY (by omega))⟩⟩)))))))))))))
   refine vp 30 i (List.map rowV rows) (vr 1 (0 < List.length (List.drop i (List.map rowV rows))) (vsh 31 hd (veT (vd [0, 2, 3, 1, 4, 5] (vr 4 (True ∧ 0 < 1) (vc hk ?_))))))
   refine vwh 1 [] [] (Bk.fz (mapB K) = false ∧ zX (TypeInfo.desc (TypeInfo.mk TypeDesc.string "string" 1 16 true 8 8 (some (Value.string (ByteArray.mk #[]))) true #[])) (Value.string (bs (idR (zAc (List.getD rows i []) cA)))) = true ∧ List.all (List.map kyv K) (zX (TypeInfo.desc (TypeInfo.mk TypeDesc.string "string" 1 16 true 8 8 (some (Value.string (ByteArray.mk #[]))) true #[]))) = true ∧ ¬2 ∈ []) ?_ ?_
   rotate_left
   refine vnil (zE (zC (zD (zA rfl (vr 2 (i6 (↑i + 1)) (vnil (zC ?_)))))))
   rotate_left
  ·exact ⟨rfl, rfl, zE7 _, by simp⟩
  ·refine ⟨i + 1, by omega, by omega, ?_⟩
   rw [hs]
   have hmp := mput_b K (zAc (rows.getD i []) cA)
   refine wkn (fr 39 [(6, D.own 1 0), (8, D.own 3 0), (9, (q4_ cA)), (11, D.row (zK (List.getD rows i [])) (List.length (List.getD rows i []))), (26, (q5_ rows)), (27, iD ↑(List.length rows)), (28, iD ↑(i + 1)), (32, D.own 3 1), (33, D.mref 2), (34, D.row (zK (List.getD rows i [])) (List.length (List.getD rows i []))), (35, (q4_ cA)), (36, D.val (Value.string (bs (idR (zAc (List.getD rows i []) cA))))), (37, iD ↑(i + 1))]) [fB1 ((q4_ A)) ((q5_ rows)) (D.row y nv), flB1 nl (D.val (Value.map none)), mput (mapB K) (List.map kyv K) (Value.string (bs (idR (zAc (List.getD rows i []) cA)))) (bD true), flB1 ((q4_ cU)) (D.mref 2)] ?_
   rw [hmp]
   refine vk 4
 ·focus
   refine zB (zA rfl (v0s (veT (zB (vF ((↑i : Int) < ↑(List.length rows)) (zQ (zH (zH (zP rfl (zC (zD (zB (zA rfl ?_)))))))))))))
   refine ve (2 ≤ 2 ∧ false = false ∧ true = true ∧ 2 = 2 ∧ 2 ≤ 2) (zM ?_)
   refine vre (2 ≤ 2) (D.agg [(q4_ cU), D.mfz (List.map kyv (allK (List.take i (List.map (fun (r : List Va) => zAc r cA) rows)))) (List.map (fun (x : List Va) => bD true) (allK (List.take i (List.map (fun (r : List Va) => zAc r cA) rows))))]) (.inr rfl) ?_
   rotate_left
  rw [List.take_of_length_le (by simp; omega)]
end
section
open Go.RowKit
attribute [local irreducible] seqW awp zAf zAo zAg Weak updS zAw retL Pure Acts rP setP setQ cP nP fr
set_option maxRecDepth 4096
def Sm (n : Nat) : Prop := (dg n).length ≤ 1000
theorem zRe {n : Nat} : ∀ {m : Nat}, m ≤ n → (dg m).length ≤ (dg n).length := by
 induction n using Nat.strongRecOn with
 | _ n ih =>
  intro m h
  by_cases hm : m = 0
  ·subst hm
   rw [show dg 0 = [] by rw [dg]; simp]; simp
  ·have e1 : dg m = m % 4294967296 :: dg (m / 4294967296) := by rw [dg, dif_neg hm]
   have e2 : dg n = n % 4294967296 :: dg (n / 4294967296) := by rw [dg, dif_neg (by omega)]
   have h2 : (dg (m / 4294967296)).length ≤ (dg (n / 4294967296)).length := ih _ (by omega) (Nat.div_le_div_right h)
   rw [e1, e2, List.length_cons, List.length_cons]
   omega
theorem Sm.le {n m : Nat} (h : Sm n) (k : m ≤ n) : Sm m := Nat.le_trans (zRe k) h
theorem Sm.of {n : Nat} (h : n < 340282366920938463463374607431768211456) : Sm n := by
 have : (dg n).length ≤ 4 := by
  rw [dg]; split
  ·simp
  ·rw [List.length_cons, dg]; split
   ·simp
   ·rw [List.length_cons, dg]; split
    ·simp
    ·rw [List.length_cons, dg]; split
     ·simp
     ·rw [List.length_cons, dg, dif_pos (by omega)]; simp
 unfold Sm; omega
theorem Sm.len {n : Nat} (h : Sm n) : (dg n).length ≤ 1000 := h
theorem nadd_c (a b : Nat) (ha : Sm a) (hb : Sm b) : Pure Tryd.prog 46 [natD a, natD b] [] (natD (a + b)) := by
 have h := add_c (dg a) (dg b) _ _ rfl rfl (by have := ha.len; omega) (by have := hb.len; omega) (zBg _) (zBg _)
 rwa [zBd, zBd] at h
theorem nmul_c (a b : Nat) (ha : Sm a) (hb : Sm b) : Pure Tryd.prog 122 [natD a, natD b] [] (natD (a * b)) := by
 have h := mul_c (dg a) (dg b) _ _ rfl rfl (by have := ha.len; omega) (by have := hb.len; omega) (zBg _) (zBg _)
 rwa [zBd, zBd] at h
theorem zSu (a b : Nat) (ha : Sm a) (hb : Sm b) : Pure Tryd.prog 16 [natD a, natD b] [] (iD (cmpD a b)) := by
 have h := cmp_c (dg a) (dg b) _ _ rfl rfl (by have := ha.len; omega) (by have := hb.len; omega) (zBg _) (zBg _)
 rwa [zBd, zBd] at h
theorem zPo : natD 0 = .row [] 0 := by simp [natD, digR, dg]
theorem zB7 (l : List Nat) (k : Nat) (h : k < l.length) : ((l.map natD).drop k).headD .unk = natD (l.getD k 0) := zC7 natD l 0 k h
theorem zRx (l : List Nat) (k : Nat) (h : k < l.length) : (l.take (k + 1)).sum = (l.take k).sum + l.getD k 0 := by
 rw [List.take_succ_eq_append_getElem h, List.sum_append]
 simp only [List.sum_cons, List.sum_nil, Nat.add_zero, List.getD_eq_getElem?_getD, List.getElem?_eq_getElem h, Option.getD_some]
theorem zV0 (l : List Nat) (k : Nat) : (l.take k).sum ≤ l.sum := by
 conv => rhs; rw [← List.take_append_drop k l, List.sum_append]
 omega
set_option maxHeartbeats 1000000 in
theorem nsum_c (l : List Nat) (n : Nat) (hn : l.length = n) (hb : n ≤ 1000000) (hs : Sm l.sum) : Pure Tryd.prog 26 [.row (l.map natD) n] [] (natD l.sum) := by
 subst hn
 refine zL zB0 mixed Tryd.func26 rfl ?_
 focus
  refine zB (zA rfl (v0s (veT (zB (zA rfl (veT (zB (zB (zA rfl (veT (zF ?_)))))))))))
  rotate_left
 refine zW (fun (k : Nat) => fr 18 [(0, D.row (List.map natD l) (List.length l)), (2, nl), (3, natD (List.sum (List.take k l))), (6, iD ↑(List.length l)), (7, iD ↑k)]) (fun k => []) (fun k => l.length - k) (fun k => k ≤ l.length) 0 ?_ ?_ ?_
 ·omega
 ·rw [List.take_zero, List.sum_nil, zPo]
  refine vk 0
 rintro k h1
 have s1 := hs.le (zV0 l k)
 have s2 := hs.le (zV0 l (k + 1))
 focus
  refine zB (zA rfl (v0s (veT (zB ?_))))
  refine zR (t := decide ((↑k : Int) < ↑(List.length l))) (by kernel_rfl) (fun hc => ?_) (fun hc => ?_)
  simp only [decide_eq_true_eq] at hc
  refine zG (zC (zD (zB (zF (zB (zA rfl (veT (zA rfl (vr 4 (ix ↑k ↑(List.length l) (List.map natD l ≠ [])) (vp 13 k (List.map natD l) (vr 1 (0 < List.length (List.drop k (List.map natD l))) (vs 14 (List.headD (List.drop k (List.map natD l)) Uk) (natD (List.getD l k 0)) (by simp (disch := omega) only [zB7]) (vca [natD (List.sum (List.take k l)), natD (List.getD l k 0)] (by exact nadd_c _ _ s1 (s2.le (by rw [zRx l k (by omega)]; omega))) ?_)))) ⟨(by omega), ⟨(by omega), (by exact zY (by omega))⟩⟩)))))))))
  refine vrT 1 (vnil (zE (zC (zD (zA rfl (vr 2 (i6 (↑k + 1)) (vnil (zC ?_))))))))
  rotate_left
  simp only [decide_eq_false_iff_not] at hc
  refine zQ (zH (zH (zP rfl (zC (zD (zB (zA rfl (veT (zM ?_)))))))))
  refine vre (True) (natD (List.sum (List.take k l))) (.inr rfl) ?_
  rotate_left
 ·refine ⟨k + 1, by omega, by omega, ?_⟩
  rw [zRx l k (by omega)]
  refine vk 0
 ·have e : k = l.length := by omega
  rw [e, List.take_length]
end
section
open Go.RowKit
attribute [local irreducible] seqW awp zAf zAo zAg Weak updS zAw retL Pure Acts rP setP setQ cP nP fr
set_option maxRecDepth 4096
theorem blen_c (n : Nat) (hn : n < 18446744073709551616) : Pure Tryd.prog 70 [.val (.int .u64 n)] [] (.val (.int .i64 (Lib.bitLen n))) :=
 zEe (us := [.int .u64 n]) (fun w => (Tryd.bits_Len n w (by omega) (by omega)).mono fun e w' h => ⟨by rw [h.1]; simp, h.2.symm⟩)
theorem zAh (l : List (List Va)) (k : Nat) (h : k < l.length) : ((l.map rowV).drop k).headD .unk = rowV (l.getD k []) := zC7 rowV l [] k h
def Ts : Par := ⟨fun f => f == 65 || f == 69 || f == 74, fun _ _ => none, fun k => decide (k < 3), fun _ => false, fun _ => false⟩
theorem zYo : zBi Tryd.prog Ts := by intro t n f h; cases h
theorem zZ3 {st : List Bk} (h : st.length = 3) : ∀ k, k < st.length → Ts.keep k = true := fun k hk => by
 show decide (k < 3) = true
 rw [decide_eq_true_eq]; omega
theorem keep3F : ∀ k, 3 ≤ k → Ts.keep k = false := fun k hk => by
 show decide (k < 3) = false
 rw [decide_eq_false_iff_not]; omega
theorem less_c (rows : List (List Va)) (n : Nat) (x y : D) (hn : rows.length = n) (i j : Nat) (hi : i < n) (hj : j < n) (hl : ∀ r ∈ rows, r.length ≤ 1000000) : Pure Tryd.prog 66 [iD i, iD j, .ptr [x, .row (rows.map rowV) n, y]] [] (iD (zAz rows i j)) := by
 subst hn
 have g : ∀ i, i < rows.length → (rows.getD i []).length ≤ 1000000 := fun i hi => by
  rw [List.getD_eq_getElem?_getD, List.getElem?_eq_getElem hi]; exact hl _ (List.getElem_mem hi)
 have g1 := g i hi
 have g2 := g j hj
 refine zL zYo mixed Tryd.func66 rfl ?_
 focus
  refine zB (zA rfl (v0s (veT (zB (vd [0, 2, 5, 7, 1, 3, 4, 6, 8, 9, 10, 11] (vr 6 (True ∧ True ∧ 0 < 2 ∧ ix ↑i ↑(List.length rows) (List.map rowV rows ≠ [])) (vp 9 i (List.map rowV rows) (vr 1 (0 < List.length (List.drop i (List.map rowV rows))) (vs 10 (List.headD (List.drop i (List.map rowV rows)) Uk) (rowV (List.getD rows i [])) (by simp (disch := omega) only [zAh]) (vr 2 (0 < 2 ∧ ix ↑j ↑(List.length rows) (List.map rowV rows ≠ [])) (vp 14 j (List.map rowV rows) (vr 1 (0 < List.length (List.drop j (List.map rowV rows))) (vs 15 (List.headD (List.drop j (List.map rowV rows)) Uk) (rowV (List.getD rows j [])) (by simp (disch := omega) only [zAh]) ?_))) ⟨(by omega), ⟨(by omega), ⟨(by omega), (by exact zY (by omega))⟩⟩⟩)))) ⟨trivial, trivial, (by omega), ⟨(by omega), ⟨(by omega), (by exact zY (by omega))⟩⟩⟩))))))
  refine vca [D.row (zK (List.getD rows i [])) (List.length (List.getD rows i [])), D.row (zK (List.getD rows j [])) (List.length (List.getD rows j []))] (by exact zLt _ _ _ _ rfl rfl (by omega) (by omega)) (veT (zM (vret (True) (.inr rfl))))
theorem zVc (b0 b1 b2 : Bk) (c : List D) : Acts Tryd.prog 74 [.osl 2 0 0 0 true, .val (.int .i64 0), .val (.int .i64 0), .clo (.func 66) [] [.own 0 0]] [b0, b1, b2] [] (.tup []) [b0, b1, b2] := by
 refine zEp zYo mixed Tryd.func74 rfl (zZ3 rfl) ?_
 focus
  refine zB (zA rfl (v0s (ve (i6 ((0 : Int) + (1 : Int))) (zF ?_))))
  rotate_left
 refine zW (fun (i : Nat) => fr 53 [(0, D.osl 2 0 0 0 true), (1, iD 0), (2, iD 0), (3, D.clo (Fn.func (66 : FuncId)) [] [D.own 0 0]), (8, iD 1)]) (fun (i : Nat) => [b0, b1, b2]) (fun (i : Nat) => 0) (fun (i : Nat) => True) 0 ?_ ?_ ?_
 ·trivial
 ·refine wkn (fr 53 [(0, D.osl 2 0 0 0 true), (1, iD 0), (2, iD 0), (3, D.clo (Fn.func (66 : FuncId)) [] [D.own 0 0]), (8, iD 1)]) [b0, b1, b2] (zJi [(0, 1), (1, 1), (2, 1), (3, 1), (8, 1)] (D.osl 2 0 0 0 true = D.osl 2 0 0 0 true ∧ iD 0 = iD 0 ∧ iD 0 = iD 0 ∧ D.clo (Fn.func (66 : FuncId)) [] [D.own 0 0] = D.clo (Fn.func (66 : FuncId)) [] [D.own 0 0] ∧ iD 1 = iD 1) 3 [] (by kernel_rfl) ⟨rfl, rfl, rfl, rfl, rfl⟩ (by kernel_rfl) ?_ (by kernel_rfl))
  exact keep3F
 rintro i -
 focus
  refine zB (zB (zA rfl (v0s (veT (vf (zQ (zH (zH (zP rfl ?_)))))))))
  refine zCu (True) [] (.inl rfl) (by kernel_rfl) trivial ?_
  rotate_left
 exact ⟨by kernel_rfl, by kernel_rfl⟩
theorem pdq0 (b0 b1 b2 : Bk) (c : List D) (lim : Int) : Acts Tryd.prog 69 [.osl 2 0 0 0 true, .val (.int .i64 0), .val (.int .i64 0), .val (.int .i64 lim), .clo (.func 66) [] [.own 0 0]] [b0, b1, b2] [] (.tup []) [b0, b1, b2] := by
 refine zEp zYo mixed Tryd.func69 rfl (zZ3 rfl) ?_
 focus
  refine zB (zA rfl (v0s (veT (zB (zA rfl (veT (zF ?_)))))))
  rotate_left
 refine zW (fun (i : Nat) => fr 148 [(0, D.osl 2 0 0 0 true), (1, iD 0), (2, iD 0), (3, iD lim), (4, D.clo (Fn.func (66 : FuncId)) [] [D.own 0 0]), (10, bD true), (11, bD true)]) (fun (i : Nat) => [b0, b1, b2]) (fun (i : Nat) => 0) (fun (i : Nat) => True) 0 ?_ ?_ ?_
 ·trivial
 ·refine wkn (fr 148 [(0, D.osl 2 0 0 0 true), (1, iD 0), (2, iD 0), (3, iD lim), (4, D.clo (Fn.func (66 : FuncId)) [] [D.own 0 0]), (10, bD true), (11, bD true)]) [b0, b1, b2] (zJi [(0, 1), (1, 1), (2, 1), (3, 1), (4, 1), (10, 1), (11, 1)] (D.osl 2 0 0 0 true = D.osl 2 0 0 0 true ∧ iD 0 = iD 0 ∧ iD 0 = iD 0 ∧ iD lim = iD lim ∧ D.clo (Fn.func (66 : FuncId)) [] [D.own 0 0] = D.clo (Fn.func (66 : FuncId)) [] [D.own 0 0] ∧ bD true = bD true ∧ bD true = bD true) 3 [] (by kernel_rfl) ⟨rfl, rfl, rfl, rfl, rfl, rfl, rfl⟩ (by kernel_rfl) ?_ (by kernel_rfl))
  exact keep3F
 rintro i -
 focus
  refine zF (zB (zA rfl (v0s (ve (i6 ((0 : Int) - (0 : Int))) (zB (zB (zA rfl (veT (vt (zB (zA rfl (vrT 4 (vnt [b0, b1, b2] ?_)))))))))))))
  refine zNz [] [] [D.osl 2 0 0 0 true, iD 0, iD 0, D.clo (Fn.func 66) [] [D.own 0 0]] [D.osl 2 0 0 0 true, iD 0, iD 0, D.clo (Fn.func 66) [] [D.own 0 0]] (by kernel_rfl) trivial (LeL.refl _) (by exact zVc _ _ _ []) ?_
  refine v0s (veT (zM (zJ (zN (zJ (zN ?_))))))
  refine zCu (True) [] (.inr rfl) (by kernel_rfl) trivial ?_
  rotate_left
 exact ⟨by kernel_rfl, by kernel_rfl⟩
set_option maxHeartbeats 1000000 in
theorem zTr (A : List D) (a : Nat) (ys : List D) (m : Nat) (rows : List (List Va)) (n : Nat) (b1 : Bk) (hn : rows.length = n) (hb : n ≤ 1000000) (hl : ∀ r ∈ rows, r.length ≤ 1000000) (hd : rows.Nodup) : Acts Tryd.prog 65 [.osl 2 0 n n true, .clo (.func 66) [] [.own 0 0]] [fB1 (.row A a) (.row (rows.map rowV) n) (.row ys m), b1, intB (nsD (List.range n))] [] (.tup []) [⟨[.row A a, .row (rows.map rowV) n, .row ys m], 30, 0, false, if n = 0 then false else true, .plain⟩, b1, intB (nsD (zDl (zAz rows) (List.range n)))] := by
 have hlim : Lib.bitLen n < 4611686018427387904 := Nat.lt_of_le_of_lt (Lib.bitLen_le n 62 (by omega) (by omega)) (by omega)
 rcases Nat.eq_zero_or_pos n with h0 | hpos
 ·subst h0
  refine zEp zYo mixed Tryd.func65 rfl (zZ3 rfl) ?_
  focus
   refine zB (zA rfl (v0s (veT (zA rfl (vr 4 (u6 (↑(0 : Nat) : Int)) (vc (blen_c 0 (by omega)) (vrT 1 (vnt [fB1 (D.row A a) (D.row (List.map rowV rows) 0) (D.row ys m), b1, intB (nsD (List.range 0))] ?_))))))))
   refine zNz [] [] [D.osl 2 0 0 0 true, iD 0, iD ↑(0 : Nat), iD ↑(0 : Nat), D.clo (Fn.func 66) [] [D.own 0 0]] [D.osl 2 0 0 0 true, iD 0, iD ↑(0 : Nat), iD ↑(0 : Nat), D.clo (Fn.func 66) [] [D.own 0 0]] (by kernel_rfl) trivial (LeL.refl _) (by exact pdq0 _ _ _ [] _) ?_
   refine vnil ?_
   refine zCu (True) [] (.inl rfl) (by kernel_rfl) trivial ?_
   rotate_left
  exact ⟨rfl, by simp [zDl]⟩
 ·have ho := zWe hd
  rw [hn] at ho
  have hp := zZl (st := [fB1 (.row A a) (.row (rows.map rowV) n) (.row ys m), b1, intB (nsD (List.range n))]) (k := 2) (lim := Lib.bitLen n) (wh := true) (cf := zAz rows) (g := 66) (caps := [.own 0 0]) (caps' := [.ptr [.row A a, .row (rows.map rowV) n, .row ys m]]) (ks := [0]) rfl rfl rfl rfl rfl (by simp) hb hpos hlim rfl (by decide) (enters_of Tryd.func66 (by kernel_rfl) rfl) ho
   (fun x hx y hy => less_c rows n _ _ hn x y (by simpa using hx) (by simpa using hy) hl)
  refine zEp zYo mixed Tryd.func65 rfl (zZ3 rfl) ?_
  focus
   refine zB (zA rfl (v0s (veT (zA rfl (vr 4 (u6 (↑n : Int)) (vc (blen_c n (by omega)) (vrT 1 (vnt [fB1 (D.row A a) (D.row (List.map rowV rows) n) (D.row ys m), b1, intB (nsD (List.range n))] ?_))))))))
   refine zNz [] [] [D.osl 2 0 n n true, iD 0, iD ↑n, iD ↑(Lib.bitLen n), D.clo (Fn.func 66) [] [D.own 0 0]] [D.osl 2 0 n n true, iD 0, iD ↑n, iD ↑(Lib.bitLen n), D.clo (Fn.func 66) [] [D.own 0 0]] (by kernel_rfl) trivial (LeL.refl _) (by exact hp) ?_
   refine vnil ?_
   refine zCu (True) [] (.inl rfl) (by kernel_rfl) trivial ?_
   rotate_left
  refine ⟨rfl, ?_⟩
  first | (rw [if_neg (by omega)]; done) | (rw [if_neg (by omega)]; rfl)
theorem repL_ns (n : Nat) : repL n [.val (.int .i64 0)] = nsD (List.replicate n 0) := by
 induction n with
 | zero => rfl
 | succ n ih => simp only [repL, List.replicate_succ, List.flatten_cons] at ih ⊢; rw [ih]; rfl
theorem set_ns (l : List Nat) (i k : Nat) : (nsD l).set i (iD k) = nsD (l.set i k) := by simp
abbrev rowB (l : List D) : Bk := ⟨l, 72, 1, true, false, .plain⟩
abbrev natB (l : List D) : Bk := ⟨l, 35, 1, true, false, .plain⟩
def Tq : Par := ⟨fun f => f == 65, fun _ _ => none, fun _ => false, fun _ => false, fun _ => false⟩
theorem Tq_ok : zBi Tryd.prog Tq := by intro t n f h; cases h
abbrev q6_ := Bk.mk [nl, nl, nl] 30 0 false false Kd.plain
set_option maxHeartbeats 2000000 in
theorem sortedW (A : List Nat) (a : Nat) (rows : List (List Va)) (vals : List Nat) (n : Nat) (hn : rows.length = n) (hm : vals.length = n) (hb : n ≤ 1000000) (hl : ∀ r ∈ rows, r.length ≤ 1000000) (hd : rows.Nodup) :
  Pure Tryd.prog 56 [.agg [.row (nsD A) a, .row (rows.map rowV) n, .row (vals.map natD) n]] [] (.agg [.row (nsD A) a, .row (((zDl (zAz rows) (List.range n)).map fun i => rows.getD i []).map rowV) n, .row (((zDl (zAz rows) (List.range n)).map fun i => vals.getD i 0).map natD) n]) := by
 have hs := zTr (nsD A) a (vals.map natD) n rows n (fB1 nl nl nl) hn hb hl hd
 refine zL Tq_ok mixed Tryd.func56 rfl ?_
 focus
  refine zB (zA rfl (v0s (veT (zB (zA rfl (vr 5 (True ∧ 0 < 2 ∧ (0 : Int) ≤ (↑n : Int) ∧ (↑n : Int) ≤ ↑n ∧ (↑(8 : Nat) : Int) * (↑n : Int) ≤ (281474976710656 : Int) ∧ (↑n : Int) ≤ (281474976710656 : Int) ∧ 0 < 1 ∧ 1 = 1) (vs 3 (D.osl 2 0 (Int.toNat (↑n : Int)) (Int.toNat (↑n : Int) * 1) true) (D.osl 2 0 n n true) (by simp (disch := omega) only [Int.toNat_natCast, Nat.mul_one]) (veT (zB (zB (zA rfl (veT (zF ?_)))))))))))))
  rotate_left
 refine zAu (fun (i : Nat) (c : List Nat) => fr 56 [(1, D.own 0 0), (2, D.own 1 0), (3, D.osl 2 0 n n true), (13, iD ↑n), (14, iD ↑i)]) (fun (i : Nat) (c : List Nat) => [fB1 (.row (nsD A) a) (.row (rows.map rowV) n) (.row (vals.map natD) n), fB1 nl nl nl, intB (nsD c)]) (fun i c => n - i) (fun (i : Nat) (c : List Nat) => i ≤ n ∧ c.length = n ∧ c.take i = (List.range n).take i) 0 (List.replicate n 0) ?_ ?_ ?_
 ·exact ⟨by omega, by simp, by simp⟩
 ·refine wkn (fr 56 [(1, D.own 0 0), (2, D.own 1 0), (3, D.osl 2 0 n n true), (13, iD (↑n : Int)), (14, iD 0)]) [Bk.mk [D.row (nsD A) a, D.row (List.map rowV rows) n, D.row (List.map natD vals) n] 30 0 false false Kd.plain, Bk.mk [nl, nl, nl] 30 0 false false Kd.plain, Bk.mk (repL n [iD 0]) 3 1 true false (kdOf false)] (zJi [(1, 1), (2, 1), (3, 1), (13, 1), (14, 1)] (D.own 0 0 = D.own 0 0 ∧ D.own 1 0 = D.own 1 0 ∧ D.osl 2 0 n n true = D.osl 2 0 n n true ∧ iD (↑n : Int) = iD (↑n : Int) ∧ iD 0 = iD (↑(0 : Nat) : Int)) 3 [] (by kernel_rfl) ⟨rfl, rfl, rfl, rfl, (by kernel_rfl)⟩ (by kernel_rfl) (fun _ _ => rfl) (by simp [updB, repL_ns, zL1]))
 rintro i c ⟨h1, h2, h3⟩
 rcases Nat.lt_or_ge i n with h4 | h4
 ·focus
   refine zB (zA rfl (v0s (veT (zB (vT ((↑i : Int) < ↑n) (zG (zC (zD (zB (zF (zB (zA rfl (veT ?_)))))))))))))
   refine zA rfl (vr 4 ((0 : Int) ≤ (↑i : Int) ∧ (↑i : Int) < ↑n) (vo 20 2 i (vr 1 (Bk.fz (intB (nsD c)) = false ∧ true = true ∧ 1 = 1 ∧ i + 1 ≤ List.length (Bk.cells (intB (nsD c))) ∧ ¬2 ∈ []) (vnil (zE (zC (zD (zA rfl (vr 2 (i6 (↑i + 1)) (vnil (zC ?_)))))))))))
   rotate_left
  refine ⟨i + 1, c.set i i, ⟨by omega, by simpa using h2, ?_⟩, by omega, ?_⟩
  ·have := zR5 0 (a := c) (b := List.range n) (i := i) (by omega) (by simpa using h4) h3
   rwa [show (List.range n).getD i 0 = i by simp [List.getD_eq_getElem?_getD, h4]] at this
  ·rw [← set_ns]
   refine vk 3
 have e : c = List.range n := by
  have e1 : i = n := by omega
  rw [e1, List.take_of_length_le (by omega), List.take_of_length_le (by simp)] at h3
  exact h3
 subst e
 focus
  refine zB (zA rfl (v0s (veT (zB (vF ((↑i : Int) < ↑n) (zQ (zH (zH (zP rfl (zC (zD (zB (zA rfl ?_)))))))))))))
  refine vrT 2 (vnt [fB1 (D.row (nsD A) a) (D.row (List.map rowV rows) n) (D.row (List.map natD vals) n), fB1 nl nl nl, intB (nsD (List.range n))] ?_)
  refine zNz [] [] [D.osl 2 0 n n true, D.clo (Fn.func 66) [] [D.own 0 0]] [D.osl 2 0 n n true, D.clo (Fn.func 66) [] [D.own 0 0]] (by kernel_rfl) trivial (LeL.refl _) (by exact hs) ?_
  refine v0s (veT (zB (zA rfl (vr 5 (True ∧ 0 < 3 ∧ ((1 = 1 ∧ 1 ≤ 3 ∧ True) ∧ true = true) ∧ false = false ∧ true = true ∧ 3 = 3 ∧ 3 ≤ 3) (vnil (zC (vnn (fr 56 [(1, D.own 0 0), (2, D.own 1 0), (3, D.osl 2 0 n n true), (5, D.own 3 0), (25, D.own 0 0), (26, D.row (nsD A) a), (27, D.agg [D.row (nsD A) a, nl, nl])]) [Bk.mk [D.row (nsD A) a, D.row (List.map rowV rows) n, D.row (List.map natD vals) n] 30 0 false (if n = 0 then false else true) Kd.plain, q6_, Bk.mk (nsD (zDl (zAz rows) (List.range n))) 3 1 true false Kd.plain, Bk.mk [D.row (nsD A) a, nl, nl] 30 0 false false Kd.plain] ?_)))))))
  rotate_left
 refine zBe ((Weak.nilC (j := 3) (i := 1) (rowB []) rfl rfl rfl rfl).trans (Weak.nilC (j := 3) (i := 2) (natB []) rfl rfl rfl rfl)) ?_
 focus
  refine zB (zB (zA rfl (v0s (veT (zF ?_)))))
  rotate_left
 have hol : (zDl (zAz rows) (List.range n)).length = n := by rw [(zBp _ _).length_eq]; simp
 have hom : ∀ i ∈ zDl (zAz rows) (List.range n), i < n := fun i h => by
  have := (zBp _ _).mem_iff.1 h
  simpa using this
 generalize zDl (zAz rows) (List.range n) = od at *
 refine zW (fun (t : Nat) => fr 56 [(1, D.own 0 0), (2, D.own 1 0), (5, D.own 3 0), (28, D.osl 2 0 n n true), (29, iD ↑n), (30, iD ↑t)]) (fun (t : Nat) => [⟨[.row (nsD A) a, .row (rows.map rowV) n, .row (vals.map natD) n], 30, 0, false, if n = 0 then false else true, .plain⟩, fB1 nl nl nl, intB (nsD od), fB1 (.row (nsD A) a) (.osl 4 0 t t true) (.osl 5 0 t t true), rowB (((od.take t).map fun i => rows.getD i []).map rowV), natB (((od.take t).map fun i => vals.getD i 0).map natD)]) (fun t => n - t) (fun (t : Nat) => t ≤ n) 0 ?_ ?_ ?_
 ·omega
 ·refine vk 6
 rintro t h5
 rcases Nat.lt_or_ge t n with h6 | h6
 ·have hi := hom _ (zDk od t (by omega))
  have e0 : od.take (t + 1) = od.take t ++ [od.getD t 0] := by
   rw [List.take_succ_eq_append_getElem (by omega), List.getD_eq_getElem?_getD, List.getElem?_eq_getElem (by omega)]; rfl
  have e1 : ((od.take (t + 1)).map fun i => rows.getD i []).map rowV = ((od.take t).map fun i => rows.getD i []).map rowV ++ [rowV (rows.getD (od.getD t 0) [])] := by rw [e0]; simp
  have e2 : ((od.take (t + 1)).map fun i => vals.getD i 0).map natD = ((od.take t).map fun i => vals.getD i 0).map natD ++ [natD (vals.getD (od.getD t 0) 0)] := by rw [e0]; simp
  focus
   refine zB (zA rfl (v0s (veT (zB (vT ((↑t : Int) < ↑n) (zG (zC (zD (zB (zF (zB (zA rfl (vr 1 ((0 : Int) ≤ (↑t : Int) ∧ (↑t : Int) < ↑n) ?_)))))))))))))
   refine vo 32 2 t (vr 1 (0 < List.length (List.drop t (Bk.cells (intB (nsD od))))) (vs 33 (List.headD (List.drop t (Bk.cells (intB (nsD od)))) Uk) (iD ↑(List.getD od t 0)) (by simp (disch := omega) only [zAi]) (veT (zB (vd [0, 2, 4, 1, 3, 5, 6, 7, 8, 9, 10] (vr 6 (True ∧ True ∧ 0 < 2 ∧ 0 < 2 ∧ ix ↑(List.getD od t 0) ↑n (List.map rowV rows ≠ [])) (vp 39 (List.getD od t 0) (List.map rowV rows) ?_) ⟨trivial, trivial, (by omega), (by omega), ⟨(by omega), ⟨(by omega), (by exact zY (by omega))⟩⟩⟩))))))
   refine vwh 1 [] [] (0 < List.length (List.drop (List.getD od t 0) (List.map rowV rows))) ?_ ?_
   rotate_left
   refine vs 40 (List.headD (List.drop (List.getD od t 0) (List.map rowV rows)) Uk) (rowV (List.getD rows (List.getD od t 0) [])) (by simp (disch := omega) only [zAh]) (vr 4 (((1 = 1 ∧ 1 ≤ 1 ∧ True) ∧ 0 < 1 ∧ 1 = 1 ∧ 1 ≤ 16777216 ∧ 1 ≤ 9223372036854775807) ∧ (Bk.arr (rowB (List.map rowV (List.map (fun (i : Nat) => List.getD rows i []) (List.take t od)))) = true ∧ List.length (Bk.cells (rowB (List.map rowV (List.map (fun (i : Nat) => List.getD rows i []) (List.take t od))))) = t * 1 ∧ t = t * 1 ∧ Bk.ty (rowB (List.map rowV (List.map (fun (i : Nat) => List.getD rows i []) (List.take t od)))) = 72 ∧ Bk.sz (rowB (List.map rowV (List.map (fun (i : Nat) => List.getD rows i []) (List.take t od)))) = 1 ∧ 1 = 1 ∧ 0 < 1 ∧ 0 < 24 ∧ 72 = 72 ∧ (t + 1) * 24 ≤ 140737488355328 ∧ 1 = 1 ∧ Kd.isMap (Bk.kd (rowB (List.map rowV (List.map (fun (i : Nat) => List.getD rows i []) (List.take t od))))) = false ∧ (false = false ∨ Kd.isSh (Bk.kd (rowB (List.map rowV (List.map (fun (i : Nat) => List.getD rows i []) (List.take t od))))) = true)) ∧ True ∧ Bk.fz (Bk.mk [D.row (nsD A) a, Uk, D.osl 5 0 t t true] 30 0 false false Kd.plain) = false ∧ true = true ∧ 1 = 1 ∧ 2 ≤ 3) (vb 3 (Bk.mk [D.row (nsD A) a, D.osl 4 0 (t + 1) ((t + 1) * 1) true, D.osl 5 0 t t true] (Bk.ty (Bk.mk [D.row (nsD A) a, Uk, D.osl 5 0 t t true] 30 0 false false Kd.plain)) (Bk.sz (Bk.mk [D.row (nsD A) a, Uk, D.osl 5 0 t t true] 30 0 false false Kd.plain)) (Bk.arr (Bk.mk [D.row (nsD A) a, Uk, D.osl 5 0 t t true] 30 0 false false Kd.plain)) (Bk.fz (Bk.mk [D.row (nsD A) a, Uk, D.osl 5 0 t t true] 30 0 false false Kd.plain)) (Bk.kd (Bk.mk [D.row (nsD A) a, Uk, D.osl 5 0 t t true] 30 0 false false Kd.plain))) (Bk.mk [D.row (nsD A) a, D.osl 4 0 (t + 1) (t + 1) true, D.osl 5 0 t t true] 30 0 false false Kd.plain) (by simp (disch := omega) only [Nat.mul_one]) (veT (vd [0, 2, 4, 1, 3, 5, 6, 7, 8, 9, 10] ?_))))
   refine vr 6 (True ∧ True ∧ 0 < 1 ∧ 0 < 1 ∧ ix ↑(List.getD od t 0) ↑n (List.map natD vals ≠ [])) (vp 49 (List.getD od t 0) (List.map natD vals) ?_) ⟨trivial, trivial, (by omega), (by omega), ⟨(by omega), ⟨(by omega), (by exact zY (by omega))⟩⟩⟩
   refine vwh 1 [] [] (0 < List.length (List.drop (List.getD od t 0) (List.map natD vals))) ?_ ?_
   rotate_left
   refine vs 50 (List.headD (List.drop (List.getD od t 0) (List.map natD vals)) Uk) (natD (List.getD vals (List.getD od t 0) 0)) (by simp (disch := omega) only [zB7]) (vr 4 (((1 = 1 ∧ 1 ≤ 1 ∧ True) ∧ 0 < 1 ∧ 1 = 1 ∧ 1 ≤ 16777216 ∧ 1 ≤ 9223372036854775807) ∧ (Bk.arr (Bk.mk (List.map natD (List.map (fun (i : Nat) => List.getD vals i 0) (List.take t od))) 35 1 true false Kd.plain) = true ∧ List.length (List.map natD (List.map (fun (i : Nat) => List.getD vals i 0) (List.take t od))) = t * 1 ∧ t = t * 1 ∧ Bk.ty (Bk.mk (List.map natD (List.map (fun (i : Nat) => List.getD vals i 0) (List.take t od))) 35 1 true false Kd.plain) = 35 ∧ Bk.sz (Bk.mk (List.map natD (List.map (fun (i : Nat) => List.getD vals i 0) (List.take t od))) 35 1 true false Kd.plain) = 1 ∧ 1 = 1 ∧ 0 < 1 ∧ 0 < 24 ∧ 35 = 35 ∧ (t + 1) * 24 ≤ 140737488355328 ∧ 1 = 1 ∧ Kd.isMap (Bk.kd (Bk.mk (List.map natD (List.map (fun (i : Nat) => List.getD vals i 0) (List.take t od))) 35 1 true false Kd.plain)) = false ∧ (false = false ∨ Kd.isSh (Bk.kd (Bk.mk (List.map natD (List.map (fun (i : Nat) => List.getD vals i 0) (List.take t od))) 35 1 true false Kd.plain)) = true)) ∧ True ∧ Bk.fz (Bk.mk [D.row (nsD A) a, D.osl 4 0 (t + 1) (t + 1) true, Uk] 30 0 false false Kd.plain) = false ∧ true = true ∧ 1 = 1 ∧ 3 ≤ 3) (vb 3 (Bk.mk [D.row (nsD A) a, D.osl 4 0 (t + 1) (t + 1) true, D.osl 5 0 (t + 1) ((t + 1) * 1) true] (Bk.ty (Bk.mk [D.row (nsD A) a, D.osl 4 0 (t + 1) (t + 1) true, Uk] 30 0 false false Kd.plain)) (Bk.sz (Bk.mk [D.row (nsD A) a, D.osl 4 0 (t + 1) (t + 1) true, Uk] 30 0 false false Kd.plain)) (Bk.arr (Bk.mk [D.row (nsD A) a, D.osl 4 0 (t + 1) (t + 1) true, Uk] 30 0 false false Kd.plain)) (Bk.fz (Bk.mk [D.row (nsD A) a, D.osl 4 0 (t + 1) (t + 1) true, Uk] 30 0 false false Kd.plain)) (Bk.kd (Bk.mk [D.row (nsD A) a, D.osl 4 0 (t + 1) (t + 1) true, Uk] 30 0 false false Kd.plain))) (Bk.mk [D.row (nsD A) a, D.osl 4 0 (t + 1) (t + 1) true, D.osl 5 0 (t + 1) (t + 1) true] 30 0 false false Kd.plain) (by simp (disch := omega) only [Nat.mul_one]) ?_))
   refine vnil (zE (zC (zD (zA rfl (vr 2 (i6 (↑t + 1)) (vnil (zC ?_)))))))
   rotate_left
  ·rw [List.length_drop, List.length_map]; omega
  ·rw [List.length_drop, List.length_map]; omega
  ·refine ⟨t + 1, by omega, by omega, ?_⟩
   rw [e1, e2]
   refine vk 6
 ·focus
   refine zB (zA rfl (v0s (veT (zB (vF ((↑t : Int) < ↑n) (zQ (zH (zH (zP rfl (zC (zD (zB (zA rfl ?_)))))))))))))
   refine ve (3 ≤ 3 ∧ false = false ∧ true = true ∧ 3 = 3 ∧ 3 ≤ 3) (zM ?_)
   refine zBm (3 ≤ 3) (D.agg [D.row (nsD A) a, D.row (List.take t (List.drop 0 (Bk.cells (rowB (List.map rowV (List.map (fun (i : Nat) => List.getD rows i []) (List.take t od))))))) t, D.row (List.take t (List.drop 0 (Bk.cells (natB (List.map natD (List.map (fun (i : Nat) => List.getD vals i 0) (List.take t od))))))) t]) (D.agg [D.row (nsD A) a, D.row (List.take t (List.map rowV (List.map (fun (i : Nat) => List.getD rows i []) (List.take t od)))) t, D.row (List.take t (List.map natD (List.map (fun (i : Nat) => List.getD vals i 0) (List.take t od)))) t]) (.inr rfl) (by kernel_rfl) (by omega) (by simp (disch := omega) only [List.drop_zero]) ?_
   rotate_left
  have e : t = n := by omega
  subst e
  rw [List.take_of_length_le (by omega : od.length ≤ t), List.take_of_length_le (by simp [hol]), List.take_of_length_le (by simp [hol])]
abbrev rwsD (l : List (Rw × Nat)) : List D := (l.map (·.1)).map rowV
abbrev vlsD (l : List (Rw × Nat)) : List D := (l.map (·.2)).map natD
abbrev fcD (A : List Nat) (l : List (Rw × Nat)) : D := .agg [.row (nsD A) A.length, .row (rwsD l) l.length, .row (vlsD l) l.length]
theorem zY4 {α : Type} [Inhabited α] {l : List (Rw × α)} (h : Ndk l) : (srtL l).length = l.length := by
 rw [← zFe h, List.length_map, (zBp _ _).length_eq]; simp
theorem zR3 (A : List Nat) (l : List (Rw × Nat)) (hb : l.length ≤ 1000000) (hl : ∀ p ∈ l, p.1.length ≤ 1000000) (hd : Ndk l) : Pure Tryd.prog 56 [fcD A l] [] (fcD A (srtL l)) := by
 have h := sortedW A A.length (l.map (·.1)) (l.map (·.2)) l.length (by simp) (by simp) hb (fun r hr => by
  obtain ⟨p, hp, rfl⟩ := List.mem_map.1 hr
  exact hl p hp) (show (l.map (·.1)).Nodup from hd)
 have hi : ∀ i ∈ zDl (zAz (l.map (·.1))) (List.range l.length), i < l.length := fun i h => by
  have := (zBp _ _).mem_iff.1 h
  simpa using this
 have e1 : (zDl (zAz (l.map (·.1))) (List.range l.length)).map (fun i => (l.map (·.1)).getD i []) = (srtL l).map (·.1) := by
  rw [← zFe hd, List.map_map]
  refine List.map_congr_left fun i hh => ?_
  simp [List.getD_eq_getElem?_getD, hi i hh]
 have e2 : (zDl (zAz (l.map (·.1))) (List.range l.length)).map (fun i => (l.map (·.2)).getD i 0) = (srtL l).map (·.2) := by
  rw [← zFe hd, List.map_map]
  refine List.map_congr_left fun i hh => ?_
  simp [List.getD_eq_getElem?_getD, hi i hh]
 rw [e1, e2] at h
 have e3 := zY4 hd
 show Pure Tryd.prog _ _ [] (.agg [.row (nsD A) A.length, .row (rwsD (srtL l)) (srtL l).length, .row (vlsD (srtL l)) (srtL l).length])
 rw [e3]
 exact h
end
section
open Go.RowKit
attribute [local irreducible] seqW awp zAf zAo zAg Weak updS zAw retL Pure Acts rP setP setQ cP nP fr
set_option maxRecDepth 4096
theorem zXt (z : Nat) (hz : z = 0) : Pure Tryd.prog 121 [.agg []] [] (natD z) := by
 refine zL zB0 mixed Tryd.func121 rfl ?_
 focus
  refine zB (zA rfl (v0s (veT (zB (zA rfl (veT (zM ?_)))))))
  refine vre (True) (D.row [] 0) (.inr rfl) ?_
  rotate_left
 rw [hz, zPo]
theorem cone_c (o : Nat) (ho : o = 1) : Pure Tryd.prog 120 [.agg []] [] (natD o) := by
 have h := of_c 1 (by decide)
 rw [← ho] at h
 refine zL zB0 mixed Tryd.func120 rfl ?_
 subst ho
 refine zB (zA rfl (v0s (veT (zB (zA rfl (vc h (veT (zM (vret (True) (.inr rfl))))))))))
theorem cadd_c (a b : Nat) (ha : Sm a) (hb : Sm b) : Pure Tryd.prog 118 [.agg [], natD a, natD b] [] (natD (a + b)) := by
 refine zL zB0 mixed Tryd.func118 rfl ?_
 refine zB (zA rfl (v0s (veT (zB (zA rfl (vrT 2 (vc (nadd_c a b ha hb) (veT (zM (vret (True) (.inr rfl)))))))))))
theorem cmul_c (a b : Nat) (ha : Sm a) (hb : Sm b) : Pure Tryd.prog 119 [.agg [], natD a, natD b] [] (natD (a * b)) := by
 refine zL zB0 mixed Tryd.func119 rfl ?_
 refine zB (zA rfl (v0s (veT (zB (zA rfl (vrT 2 (vc (nmul_c a b ha hb) (veT (zM (vret (True) (.inr rfl)))))))))))
abbrev cntD : D := .ifc 37 (.agg [])
noncomputable abbrev Tc : Par := TM Tryd.prog (fun _ => false) (fun _ => false)
abbrev mapI (K : List Rw) : Bk := ⟨nsD (List.range K.length), 112, 0, true, false, .map (K.map kyv)⟩
theorem mput_i (K : List Rw) (r : Rw) (h : r ∉ K) : mput (mapI K) (K.map kyv) (kyv r) (iD K.length) = mapI (K ++ [r]) := by
 unfold mput
 rw [zCw, zA6, if_neg h]
 simp [List.range_succ]
abbrev q7_ (x0 : List (List Va × Nat)) := D.row (rwsD x0) (List.length x0)
abbrev q8_ (x0 : List (List Va × Nat)) := D.row (vlsD x0) (List.length x0)
set_option maxHeartbeats 4000000 in
theorem zR1 (A : List Nat) (l : List (Rw × Nat)) (v : Int) (ha : A.length ≤ 32) (hb : l.length ≤ 1000000) (hl : ∀ p ∈ l, p.1.length = A.length) (hv : ∀ p ∈ l, ∀ x ∈ p.1, Vs x) (hs : Sm (l.map (·.2)).sum) :
  Pure Tryd.prog 43 [cntD, fcD A l, iD v] [] (fcD ((zB1 (fun u => decide ((u : Int) ≠ v)) A).map fun j => A.getD j 0) (srtL (sumT (· + ·) [] (l.map fun p => (zAc p.1 (zB1 (fun u => decide ((u : Int) ≠ v)) A), p.2))))) := by
 refine zL (T := Tc) (zRp _ _ _) mixed Tryd.func43 rfl ?_
 focus
  refine zB (zA rfl (v0s (veT (zB (zA rfl (veT (zB (zA rfl (vrT 1 (vnil (zC (vnn (fr 108 [(0, cntD), (2, iD v), (4, D.own 0 0), (6, D.own 1 0), (7, nl), (8, D.own 2 0)]) [Bk.mk [(q4_ A), (q7_ l), (q8_ l)] 30 0 false false Kd.plain, q6_, q6_] ?_))))))))))))
  rotate_left
 refine zBe (Weak.nilC (j := 2) (i := 0) (intB []) rfl rfl rfl rfl) ?_
 focus
  refine zB (zB (zA rfl (v0s (ve (True ∧ 0 < 3) (zF ?_)))))
  rotate_left
 refine zAu (fun (i : Nat) (c : List Nat) => fr 108 [(0, cntD), (2, iD v), (4, D.own 0 0), (6, D.own 1 0), (7, D.osl 4 0 (List.length c) (List.length c) true), (8, D.own 2 0), (20, (q4_ A)), (21, iD ↑(List.length A)), (22, iD ↑i)]) (fun (i : Nat) (c : List Nat) => [fB1 (.row (nsD A) A.length) (.row (rwsD l) l.length) (.row (vlsD l) l.length), fB1 nl nl nl, fB1 (.osl 3 0 c.length c.length true) nl nl, intB (nsD (c.map fun j => A.getD j 0)), intB (nsD c)]) (fun i c => A.length - i) (fun (i : Nat) (c : List Nat) => i ≤ A.length ∧ c = ((List.range A.length).take i).filter fun j => decide (((A.getD j 0 : Nat) : Int) ≠ v)) 0 [] ?_ ?_ ?_
 ·exact ⟨by omega, by simp⟩
 ·refine vk 4
 rintro i c ⟨h1, h2⟩
 have hlen : c.length ≤ 32 := by rw [h2]; exact Nat.le_trans (List.length_filter_le _ _) (by simp; omega)
 rcases Nat.lt_or_ge i A.length with h3 | h3
 ·have h4 := zQa (fun u => decide ((u : Int) ≠ v)) A i h3
  rw [← h2] at h4
  focus
   refine zB (zA rfl (v0s (veT (zB (vT ((↑i : Int) < ↑(List.length A)) (zG (zC (zD (zB (zF (zB (zA rfl (vr 2 (ix ↑i ↑(List.length A) (nsD A ≠ [])) ?_ ⟨(by omega), ⟨(by omega), (by exact zY (by omega))⟩⟩)))))))))))))
   refine vp 25 i (nsD A) (vr 1 (0 < List.length (List.drop i (nsD A))) (vs 26 (List.headD (List.drop i (nsD A)) Uk) (iD ↑(List.getD A i 0)) (by simp (disch := omega) only [zAi]) (veT (zB (zA rfl (veT ?_))))))
   refine zR (t := (↑(List.getD A i 0) : Int) != v) (by kernel_rfl) (fun hc => ?_) (fun hc => ?_)
   simp only [bne_iff_ne] at hc
   refine zB (zA rfl (vr 5 (((1 = 1 ∧ 1 ≤ 1 ∧ True) ∧ 0 < 1 ∧ 1 = 1 ∧ 1 ≤ 16777216 ∧ 1 ≤ 9223372036854775807) ∧ Bk.arr (intB (nsD c)) = true ∧ List.length (Bk.cells (intB (nsD c))) = List.length c * 1 ∧ List.length c = List.length c * 1 ∧ Bk.ty (intB (nsD c)) = 3 ∧ Bk.sz (intB (nsD c)) = 1 ∧ 1 = 1 ∧ 0 < 1 ∧ 0 < 8 ∧ 3 = 3 ∧ (List.length c + 1) * 8 ≤ 140737488355328 ∧ 1 = 1 ∧ Kd.isMap (Bk.kd (intB (nsD c))) = false ∧ (false = false ∨ Kd.isSh (Bk.kd (intB (nsD c))) = true)) (vs 7 (D.osl 4 0 (List.length c + 1) ((List.length c + 1) * 1) true) (D.osl 4 0 (List.length c + 1) (List.length c + 1) true) (by simp (disch := omega) only [Nat.mul_one]) (veT (zA rfl (vr 7 (True ∧ 0 < 3 ∧ ((1 = 1 ∧ 1 ≤ 1 ∧ True) ∧ 0 < 1 ∧ 1 = 1 ∧ 1 ≤ 16777216 ∧ 1 ≤ 9223372036854775807) ∧ (Bk.arr (Bk.mk (nsD (List.map (fun (j : Nat) => List.getD A j 0) c)) 3 1 true false Kd.plain) = true ∧ List.length (nsD (List.map (fun (j : Nat) => List.getD A j 0) c)) = List.length c * 1 ∧ List.length c = List.length c * 1 ∧ Bk.ty (Bk.mk (nsD (List.map (fun (j : Nat) => List.getD A j 0) c)) 3 1 true false Kd.plain) = 3 ∧ Bk.sz (Bk.mk (nsD (List.map (fun (j : Nat) => List.getD A j 0) c)) 3 1 true false Kd.plain) = 1 ∧ 1 = 1 ∧ 0 < 1 ∧ 0 < 8 ∧ 3 = 3 ∧ (List.length c + 1) * 8 ≤ 140737488355328 ∧ 1 = 1 ∧ Kd.isMap (Bk.kd (Bk.mk (nsD (List.map (fun (j : Nat) => List.getD A j 0) c)) 3 1 true false Kd.plain)) = false ∧ (false = false ∨ Kd.isSh (Bk.kd (Bk.mk (nsD (List.map (fun (j : Nat) => List.getD A j 0) c)) 3 1 true false Kd.plain)) = true)) ∧ True ∧ false = false ∧ true = true ∧ 1 = 1 ∧ 1 ≤ 3) (vb 2 (Bk.mk [D.osl 3 0 (List.length c + 1) ((List.length c + 1) * 1) true, nl, nl] 30 0 false false (Bk.kd (Bk.mk [Uk, nl, nl] 30 0 false false Kd.plain))) (Bk.mk [D.osl 3 0 (List.length c + 1) (List.length c + 1) true, nl, nl] 30 0 false false Kd.plain) (by simp (disch := omega) only [Nat.mul_one]) ?_)))))))
   refine vnil (zE (zC (zD (zA rfl (vr 2 (i6 (↑i + 1)) (vnil (zC ?_)))))))
   rotate_left
   simp only [bne_eq_false_iff_eq] at hc
   refine zG (zE (zC (zD (zA rfl (vr 2 (i6 (↑i + 1)) (vnil (zC ?_)))))))
   rotate_left
  ·rw [if_pos (by simpa using hc)] at h4
   refine ⟨i + 1, c ++ [i], ⟨by omega, h4.symm⟩, by omega, ?_⟩
   rw [show nsD ((c ++ [i]).map fun j => A.getD j 0) = nsD (c.map fun j => A.getD j 0) ++ [iD (A.getD i 0 : Nat)] by simp, zKf, List.length_append]
   refine vk 5
  ·rw [if_neg (by simpa using hc), List.append_nil] at h4
   refine ⟨i + 1, c, ⟨by omega, h4.symm⟩, by omega, ?_⟩
   refine vk 5
 have ec : c = zB1 (fun u => decide ((u : Int) ≠ v)) A := by
  rw [List.take_of_length_le (by simpa using h3)] at h2
  exact h2
 rw [← ec]
 clear h1 h2
 focus
  refine zB (zA rfl (v0s (veT (zB (vF ((↑i : Int) < ↑(List.length A)) (zQ (zH (zH (zP rfl (zC (zD (zB (zA rfl ?_)))))))))))))
  refine vrT 2 (vnil (zC (vnn (fr 108 [(0, cntD), (2, iD v), (4, D.own 0 0), (6, D.own 1 0), (7, D.osl 4 0 (List.length c) (List.length c) true), (8, D.own 2 0), (11, D.mref 5), (20, (q4_ A)), (21, iD ↑(List.length A)), (22, iD ↑i), (23, bD (decide ((↑i : Int) < ↑(List.length A)))), (41, D.mref 5)]) [fB1 ((q4_ A)) ((q7_ l)) ((q8_ l)), fB1 nl nl nl, fB1 (D.osl 3 0 (List.length c) (List.length c) true) nl nl, intB (nsD (List.map (fun (j : Nat) => List.getD A j 0) c)), intB (nsD c), Bk.mk [] 112 0 true false (Kd.map [])] ?_)))
  rotate_left
 have hc0 := zH3 c _ rfl
 refine zBe (((Weak.nilC (j := 2) (i := 1) (rowB []) rfl rfl rfl rfl).trans (Weak.nilC (j := 2) (i := 2) (natB []) rfl rfl rfl rfl)).trans (Weak.osr (s := 7) (k := 4) (off := 0) (n := c.length) (m := c.length) (wh := true) (cs := nsD c) (by kernel_rfl) (show some (D.row (((nsD c).drop 0).take c.length) c.length, [4]) = _ by rw [List.drop_zero, hc0]))) ?_
 focus
  refine zB (zB (zA rfl (v0s (ve (True ∧ 0 < 2) (zF ?_)))))
  rotate_left
 obtain ⟨z, hz⟩ : ∃ z : Nat, z = 0 := ⟨0, rfl⟩
 have hcl : ∀ j ∈ c, j < A.length := fun j h => by
  rw [ec] at h
  simpa using (List.mem_filter.1 h).1
 generalize hL : (l.map fun p => (zAc p.1 c, p.2)) = L
 have hLl : L.length = l.length := by rw [← hL]; simp
 have hLs : (L.map (·.2)).sum = (l.map (·.2)).sum := by rw [← hL]; simp [Function.comp_def]
 have hLg : ∀ i, i < l.length → L.getD i default = (zAc ((l.map (·.1)).getD i []) c, (l.map (·.2)).getD i 0) := fun i hi => by
  rw [← hL]; simp [List.getD_eq_getElem?_getD, hi]
 have hbnd : ∀ i, ∀ x ∈ (sumT (· + ·) [] (L.take i)).map (·.2), x ≤ (l.map (·.2)).sum := fun i x hx => by
  have h1 : x ≤ ((L.take i).map (·.2)).sum := by
   have := zT5 hx
   rw [zRy] at this
   simpa using this
  have h2 : ((L.take i).map (·.2)).sum ≤ (L.map (·.2)).sum := by rw [List.map_take]; exact zV0 _ _
  omega
 refine zA4 (fun (i : Nat) (K : List Rw) (W : List Nat) => fr 108 [(0, cntD), (4, D.own 0 0), (6, D.own 1 0), (7, D.osr 4 0 (List.length c) (List.length c) true (nsD c)), (8, D.own 2 0), (11, D.mref 5), (43, (q7_ l)), (44, iD ↑(List.length l)), (45, iD ↑i)]) (fun (i : Nat) (K : List Rw) (W : List Nat) => [fB1 (.row (nsD A) A.length) (.row (rwsD l) l.length) (.row (vlsD l) l.length), fB1 nl nl nl, fB1 (.osl 3 0 c.length c.length true) (.osl 6 0 W.length W.length true) (.osl 7 0 W.length W.length true), intB (nsD (c.map fun j => A.getD j 0)), ⟨nsD c, 3, 1, true, true, .plain⟩, mapI K, rowB (K.map rowV), natB (W.map natD)]) (fun i K W => l.length - i) (fun (i : Nat) (K : List Rw) (W : List Nat) => i ≤ l.length ∧ K = (sumT (· + ·) [] (L.take i)).map (·.1) ∧ W = (sumT (· + ·) [] (L.take i)).map (·.2)) 0 [] [] ?_ ?_ ?_
 ·exact ⟨by omega, by simp [sumT], by simp [sumT]⟩
 ·refine vk 8
 rintro i K W ⟨g1, g2, g3⟩
 have hKW : W.length = K.length := by rw [g2, g3]; simp
 have hKl : K.length ≤ 1000000 := by
  have := zRz (· + ·) (L.take i) ([] : List (Rw × Nat))
  rw [g2, List.length_map]
  simp only [List.length_nil, List.length_take] at this
  omega
 rcases Nat.lt_or_ge i l.length with h4 | h4
 ·have hne : rwsD l ≠ [] := zY (by simp; omega)
  have hne2 : vlsD l ≠ [] := zY (by simp; omega)
  have hrow : (l.map (·.1)).getD i [] ∈ l.map (·.1) := by
   rw [List.getD_eq_getElem?_getD, List.getElem?_eq_getElem (by simpa using h4)]; exact List.getElem_mem _
  obtain ⟨p, hp, he⟩ := List.mem_map.1 hrow
  have hlen2 := hl p hp
  have hvs := hv p hp
  rw [he] at hlen2 hvs
  have hsu := zV1 (· + ·) L i (by omega)
  rw [hLg i h4] at hsu
  have hk1 := congrArg (List.map (·.1)) hsu
  have hw1 := congrArg (List.map (·.2)) hsu
  simp only [zFb, ← g2] at hk1
  simp only [zQm, ← g2, ← g3] at hw1
  have hb1 := hbnd (i + 1)
  have hx1 := zAh (l.map (·.1)) i (by simpa using h4)
  have hx2 := zB7 (l.map (·.2)) i (by simpa using h4)
  generalize (l.map (·.1)).getD i [] = row at *
  generalize (l.map (·.2)).getD i 0 = w at *
  have hk := zW8 row c _ _ rfl rfl (by omega) (by omega) (by rw [hlen2]; exact hcl) hvs
  have hpj := zLq row c _ _ rfl rfl (by omega) (by omega) (by rw [hlen2]; exact hcl)
  have hlk := look_i K (zAc row c)
  by_cases hm : zAc row c ∈ K
  ·rw [if_pos hm] at hk1 hw1 hlk
   have hid := List.idxOf_lt_length_iff.2 hm
   generalize K.idxOf (zAc row c) = d at *
   rw [hw1] at hb1
   have hs1 : Sm (W.getD d 0 + w) := hs.le (hb1 _ (List.mem_set (by omega) _))
   have hs2 := hs1.le (Nat.le_add_right _ w)
   have hs3 := hs1.le (Nat.le_add_left w _)
   focus
    refine zB (zA rfl (v0s (veT (zB (vT ((↑i : Int) < ↑(List.length l)) (zG (zC (zD (zB (zF (zB (zA rfl (vr 2 (ix ↑i ↑(List.length l) (rwsD l ≠ [])) ?_)))))))))))))
    refine vp 48 i (rwsD l) (vr 1 (0 < List.length (List.drop i (rwsD l))) (vsh 49 hx1 (veT (zB (zA rfl (vrT 2 (vc hk (veT (zB (zA rfl ?_))))))))))
    refine vwh 3 [] [] (zX (TypeInfo.desc (TypeInfo.mk TypeDesc.string "string" 1 16 true 8 8 (some (Value.string (ByteArray.mk #[]))) true #[])) (Value.string (bs (idR (zAc row c)))) = true ∧ List.all (List.map kyv K) (zX (TypeInfo.desc (TypeInfo.mk TypeDesc.string "string" 1 16 true 8 8 (some (Value.string (ByteArray.mk #[]))) true #[]))) = true) ?_ ?_
    rotate_left
    refine vsh 56 hlk (ve (0 < 2 ∧ 1 < 2) (zB (zB (zA rfl (veT (vf (zG (zC (zD (vd [0, 2, 3, 4, 6, 9, 11, 14, 15, 16, 1, 5, 7, 8, 10, 12, 13, 17, 18, 19] (vr 13 (True ∧ True ∧ True ∧ 0 < 1 ∧ 0 < 1 ∧ (0 : Int) ≤ (↑d : Int) ∧ (↑d : Int) < ↑(List.length W)) (vo 93 7 d (vr 1 (0 < List.length (List.drop d (Bk.cells (natB (List.map natD W))))) ?_)))))))))))))
    refine vs 94 (List.headD (List.drop d (Bk.cells (natB (List.map natD W)))) Uk) (natD (List.getD W d 0)) (by simp (disch := omega) only [zB7]) (vr 2 (0 < 1 ∧ ix ↑i ↑(List.length l) (vlsD l ≠ [])) (vp 98 i (vlsD l) (vr 1 (0 < List.length (List.drop i (vlsD l))) (vsh 99 hx2 (vc (cadd_c _ _ hs2 hs3) (vr 1 ((0 : Int) ≤ (↑d : Int) ∧ (↑d : Int) < ↑(List.length W)) (vo 104 7 d (vr 1 (Bk.fz (natB (List.map natD W)) = false ∧ true = true ∧ 1 = 1 ∧ d + 1 ≤ List.length (Bk.cells (natB (List.map natD W))) ∧ ¬7 ∈ []) (vnil (zE (zC (zD (zA rfl ?_)))))))))))))
    refine vr 2 (i6 (↑i + 1)) (vnil (zC ?_))
    rotate_left
   ·exact ⟨rfl, zE7 _⟩
   ·refine ⟨i + 1, K, W.set d (W.getD d 0 + w), ⟨by omega, hk1.symm, hw1.symm⟩, by omega, ?_⟩
    rw [show (W.set d (W.getD d 0 + w)).map natD = (W.map natD).set d (natD (W.getD d 0 + w)) by simp, show (W.set d (W.getD d 0 + w)).length = W.length by simp]
    refine vk 8
  ·rw [if_neg hm] at hk1 hw1 hlk
   have hs1 : Sm w := hs.le (hb1 _ (by rw [hw1]; simp))
   have hmp := mput_i K (zAc row c) hm
   rw [← hKW] at hmp
   have hzw : z + w = w := by omega
   have hca := cadd_c z w (hs1.le (by omega)) hs1
   rw [hzw] at hca
   have hla : ∀ d : D, ((W.map natD ++ [d]).drop W.length).headD .unk = d := fun d => by rw [List.drop_left' (by simp)]; rfl
   have hse : ∀ d e : D, (W.map natD ++ [d]).set W.length e = W.map natD ++ [e] := fun d e => by
    rw [List.set_append]; simp
   focus
    refine zB (zA rfl (v0s (veT (zB (vT ((↑i : Int) < ↑(List.length l)) (zG (zC (zD (zB (zF (zB (zA rfl (vr 2 (ix ↑i ↑(List.length l) (rwsD l ≠ [])) ?_)))))))))))))
    refine vp 48 i (rwsD l) (vr 1 (0 < List.length (List.drop i (rwsD l))) (vsh 49 hx1 (veT (zB (zA rfl (vrT 2 (vc hk (veT (zB (zA rfl ?_))))))))))
    refine vwh 3 [] [] (zX (TypeInfo.desc (TypeInfo.mk TypeDesc.string "string" 1 16 true 8 8 (some (Value.string (ByteArray.mk #[]))) true #[])) (Value.string (bs (idR (zAc row c)))) = true ∧ List.all (List.map kyv K) (zX (TypeInfo.desc (TypeInfo.mk TypeDesc.string "string" 1 16 true 8 8 (some (Value.string (ByteArray.mk #[]))) true #[]))) = true) ?_ ?_
    rotate_left
    refine vsh 56 hlk (ve (0 < 2 ∧ 1 < 2) (zB (zB (zA rfl (veT (vt (zB (zA rfl (ve (True ∧ 0 < 2) (zB (zA rfl ?_)))))))))))
    refine vwh 4 [] [] (Bk.fz (mapI K) = false ∧ zX (TypeInfo.desc (TypeInfo.mk TypeDesc.string "string" 1 16 true 8 8 (some (Value.string (ByteArray.mk #[]))) true #[])) (Value.string (bs (idR (zAc row c)))) = true ∧ List.all (List.map kyv K) (zX (TypeInfo.desc (TypeInfo.mk TypeDesc.string "string" 1 16 true 8 8 (some (Value.string (ByteArray.mk #[]))) true #[]))) = true ∧ ¬5 ∈ []) ?_ ?_
    rotate_left
    refine vb 5 (mput (mapI K) (List.map kyv K) (Value.string (bs (idR (zAc row c)))) (iD ↑(List.length W))) (mapI (K ++ [zAc row c])) (by simp (disch := omega) only [hmp]) (veT (zB (zA rfl (vrT 2 (vc hpj (ve (0 < 2 ∧ 1 < 2) (zB (zA rfl (vr 7 (True ∧ 0 < 2 ∧ ((1 = 1 ∧ 1 ≤ 1 ∧ True) ∧ 0 < 1 ∧ 1 = 1 ∧ 1 ≤ 16777216 ∧ 1 ≤ 9223372036854775807) ∧ (Bk.arr (rowB (List.map rowV K)) = true ∧ List.length (Bk.cells (rowB (List.map rowV K))) = List.length W * 1 ∧ List.length W = List.length W * 1 ∧ Bk.ty (rowB (List.map rowV K)) = 72 ∧ Bk.sz (rowB (List.map rowV K)) = 1 ∧ 1 = 1 ∧ 0 < 1 ∧ 0 < 24 ∧ 72 = 72 ∧ (List.length W + 1) * 24 ≤ 140737488355328 ∧ 1 = 1 ∧ Kd.isMap (Bk.kd (rowB (List.map rowV K))) = false ∧ (false = false ∨ Kd.isSh (Bk.kd (rowB (List.map rowV K))) = true)) ∧ True ∧ Bk.fz (Bk.mk [D.osl 3 0 (List.length c) (List.length c) true, Uk, D.osl 7 0 (List.length W) (List.length W) true] 30 0 false false Kd.plain) = false ∧ true = true ∧ 1 = 1 ∧ 2 ≤ 3) (vb 2 (Bk.mk [D.osl 3 0 (List.length c) (List.length c) true, D.osl 6 0 (List.length W + 1) ((List.length W + 1) * 1) true, D.osl 7 0 (List.length W) (List.length W) true] (Bk.ty (Bk.mk [D.osl 3 0 (List.length c) (List.length c) true, Uk, D.osl 7 0 (List.length W) (List.length W) true] 30 0 false false Kd.plain)) (Bk.sz (Bk.mk [D.osl 3 0 (List.length c) (List.length c) true, Uk, D.osl 7 0 (List.length W) (List.length W) true] 30 0 false false Kd.plain)) (Bk.arr (Bk.mk [D.osl 3 0 (List.length c) (List.length c) true, Uk, D.osl 7 0 (List.length W) (List.length W) true] 30 0 false false Kd.plain)) (Bk.fz (Bk.mk [D.osl 3 0 (List.length c) (List.length c) true, Uk, D.osl 7 0 (List.length W) (List.length W) true] 30 0 false false Kd.plain)) (Bk.kd (Bk.mk [D.osl 3 0 (List.length c) (List.length c) true, Uk, D.osl 7 0 (List.length W) (List.length W) true] 30 0 false false Kd.plain))) (Bk.mk [D.osl 3 0 (List.length c) (List.length c) true, D.osl 6 0 (List.length W + 1) (List.length W + 1) true, D.osl 7 0 (List.length W) (List.length W) true] 30 0 false false Kd.plain) (by simp (disch := omega) only [Nat.mul_one]) ?_))))))))))
    refine veT (vd [0, 2, 1, 3, 4, 5, 6, 7] (vr 3 (True ∧ 0 < 1) (vc (zXt z hz) (vr 4 (((1 = 1 ∧ 1 ≤ 1 ∧ True) ∧ 0 < 1 ∧ 1 = 1 ∧ 1 ≤ 16777216 ∧ 1 ≤ 9223372036854775807) ∧ (Bk.arr (Bk.mk (List.map natD W) 35 1 true false Kd.plain) = true ∧ List.length (List.map natD W) = List.length W * 1 ∧ List.length W = List.length W * 1 ∧ Bk.ty (Bk.mk (List.map natD W) 35 1 true false Kd.plain) = 35 ∧ Bk.sz (Bk.mk (List.map natD W) 35 1 true false Kd.plain) = 1 ∧ 1 = 1 ∧ 0 < 1 ∧ 0 < 24 ∧ 35 = 35 ∧ (List.length W + 1) * 24 ≤ 140737488355328 ∧ 1 = 1 ∧ Kd.isMap (Bk.kd (Bk.mk (List.map natD W) 35 1 true false Kd.plain)) = false ∧ (false = false ∨ Kd.isSh (Bk.kd (Bk.mk (List.map natD W) 35 1 true false Kd.plain)) = true)) ∧ True ∧ Bk.fz (Bk.mk [D.osl 3 0 (List.length c) (List.length c) true, D.osl 6 0 (List.length W + 1) (List.length W + 1) true, Uk] 30 0 false false Kd.plain) = false ∧ true = true ∧ 1 = 1 ∧ 3 ≤ 3) (vb 2 (Bk.mk [D.osl 3 0 (List.length c) (List.length c) true, D.osl 6 0 (List.length W + 1) (List.length W + 1) true, D.osl 7 0 (List.length W + 1) ((List.length W + 1) * 1) true] (Bk.ty (Bk.mk [D.osl 3 0 (List.length c) (List.length c) true, D.osl 6 0 (List.length W + 1) (List.length W + 1) true, Uk] 30 0 false false Kd.plain)) (Bk.sz (Bk.mk [D.osl 3 0 (List.length c) (List.length c) true, D.osl 6 0 (List.length W + 1) (List.length W + 1) true, Uk] 30 0 false false Kd.plain)) (Bk.arr (Bk.mk [D.osl 3 0 (List.length c) (List.length c) true, D.osl 6 0 (List.length W + 1) (List.length W + 1) true, Uk] 30 0 false false Kd.plain)) (Bk.fz (Bk.mk [D.osl 3 0 (List.length c) (List.length c) true, D.osl 6 0 (List.length W + 1) (List.length W + 1) true, Uk] 30 0 false false Kd.plain)) (Bk.kd (Bk.mk [D.osl 3 0 (List.length c) (List.length c) true, D.osl 6 0 (List.length W + 1) (List.length W + 1) true, Uk] 30 0 false false Kd.plain))) (Bk.mk [D.osl 3 0 (List.length c) (List.length c) true, D.osl 6 0 (List.length W + 1) (List.length W + 1) true, D.osl 7 0 (List.length W + 1) (List.length W + 1) true] 30 0 false false Kd.plain) (by simp (disch := omega) only [Nat.mul_one]) ?_)))))
    refine veT (vd [0, 2, 3, 4, 6, 9, 11, 14, 15, 16, 1, 5, 7, 8, 10, 12, 13, 17, 18, 19] (vr 13 (True ∧ True ∧ True ∧ 0 < 1 ∧ 0 < 1 ∧ (0 : Int) ≤ (↑(List.length W) : Int) ∧ (↑(List.length W) : Int) < (↑(List.length W + 1) : Int)) (vo 93 7 (List.length W) (vr 1 (0 < List.length (List.drop (List.length W) (List.map natD W ++ [natD z]))) (vs 94 (List.headD (List.drop (List.length W) (List.map natD W ++ [natD z])) Uk) (natD z) (by simp (disch := omega) only [hla]) (vr 2 (0 < 1 ∧ ix ↑i ↑(List.length l) (vlsD l ≠ [])) (vp 98 i (vlsD l) (vr 1 (0 < List.length (List.drop i (vlsD l))) (vsh 99 hx2 (vc hca (vr 1 ((0 : Int) ≤ (↑(List.length W) : Int) ∧ (↑(List.length W) : Int) < (↑(List.length W + 1) : Int)) (vo 104 7 (List.length W) (vr 1 (Bk.fz (Bk.mk (List.map natD W ++ [natD z]) 35 1 true false Kd.plain) = false ∧ true = true ∧ 1 = 1 ∧ List.length W + 1 ≤ List.length (List.map natD W ++ [natD z]) ∧ ¬7 ∈ []) ?_)))))))))))))
    refine vnil (zE (zC (zD (zA rfl (vr 2 (i6 (↑i + 1)) (vnil (zC ?_)))))))
    rotate_left
   ·exact ⟨rfl, zE7 _⟩
   ·exact ⟨rfl, rfl, zE7 _, by simp⟩
   ·refine ⟨i + 1, K ++ [zAc row c], W ++ [w], ⟨by omega, hk1.symm, hw1.symm⟩, by omega, ?_⟩
    refine wkn (fr 108 [(0, cntD), (4, D.own 0 0), (6, D.own 1 0), (7, D.osr 4 0 (List.length c) (List.length c) true (nsD c)), (8, D.own 2 0), (11, D.mref 5), (12, iD ↑i), (15, iD ↑(List.length W)), (43, (q7_ l)), (44, iD ↑(List.length l)), (45, iD ↑(i + 1)), (86, D.own 2 2), (87, D.osl 7 0 (List.length W + 1) (List.length W + 1) true), (88, iD ↑(List.length W)), (89, D.ifc 37 (D.agg [])), (90, D.own 2 2), (91, D.osl 7 0 (List.length W + 1) (List.length W + 1) true), (92, iD ↑(List.length W)), (93, D.own 7 (List.length W)), (94, natD z), (95, D.own 0 2), (96, (q8_ l)), (97, iD ↑i), (98, D.ptr (List.drop i (vlsD l))), (99, natD w), (100, D.clo (Fn.method "Add") [D.ifc 37 (D.agg [])] []), (101, D.clo (Fn.method "Add") [D.ifc 37 (D.agg [])] []), (102, D.ifc 37 (D.agg [])), (103, natD w), (104, D.own 7 (List.length W)), (105, iD ↑(i + 1))]) [Bk.mk [(q4_ A), (q7_ l), (q8_ l)] (30 : TypeId) 0 false false Kd.plain, Bk.mk [nl, nl, nl] (30 : TypeId) 0 false false Kd.plain, Bk.mk [D.osl 3 0 (List.length c) (List.length c) true, D.osl 6 0 (List.length W + 1) (List.length W + 1) true, D.osl 7 0 (List.length W + 1) (List.length W + 1) true] 30 0 false false Kd.plain, Bk.mk (nsD (List.map (fun (j : Nat) => List.getD A j 0) c)) (3 : TypeId) 1 true false Kd.plain, Bk.mk (nsD c) (3 : TypeId) 1 true true Kd.plain, Bk.mk (nsD (List.range (List.length (K ++ [zAc row c])))) (112 : TypeId) 0 true false (Kd.map (List.map kyv (K ++ [zAc row c]))), Bk.mk (List.map rowV K ++ [D.row (zK (zAc row c)) (List.length c)]) (72 : TypeId) 1 true false Kd.plain, Bk.mk (List.set (List.map natD W ++ [natD z]) (List.length W) (natD w)) 35 1 true false Kd.plain, Bk.mk [D.row (zK (zAc row c)) (List.length c)] 72 1 true false Kd.plain, Bk.mk [natD z] 35 1 true false Kd.plain] ?_
    rw [hse]
    have hpl : (zAc row c).length = c.length := by simp [zAc]
    rw [show (K ++ [zAc row c]).map rowV = K.map rowV ++ [.row (zK (zAc row c)) c.length] by rw [← hpl]; simp, show (W ++ [w]).map natD = W.map natD ++ [natD w] by simp, show (W ++ [w]).length = W.length + 1 by simp]
    refine vk 8
 have hn : Ndk (sumT (· + ·) [] L) := zJj _ L [] (by simp [Ndk])
 rw [List.take_of_length_le (by omega)] at g2 g3
 have hso := zR3 (c.map fun j => A.getD j 0) (sumT (· + ·) [] L) (by rw [← List.length_map (f := fun p : Rw × Nat => p.1), ← g2]; exact hKl) (fun p hp => by
  have := (zR0 _ L [] p hp).resolve_left (by simp)
  obtain ⟨q, hq, e⟩ := List.mem_map.1 this
  rw [← hL] at hq
  obtain ⟨q', _, rfl⟩ := List.mem_map.1 hq
  rw [← e]
  simp only [zAc, List.length_map]; omega) hn
 have hT : (sumT (· + ·) [] L).length = W.length := by rw [g3, List.length_map]
 have ht1 := zH3 (c.map fun j => A.getD j 0) c.length (by simp)
 have ht2 : (K.map rowV).take W.length = K.map rowV := List.take_of_length_le (by simp [hKW])
 have ht3 : (W.map natD).take W.length = W.map natD := List.take_of_length_le (by simp)
 simp only [fcD, rwsD, vlsD, ← g2, ← g3, hT] at hso
 rw [List.length_map] at hso
 focus
  refine zB (zA rfl (v0s (veT (zB (vF ((↑i : Int) < ↑(List.length l)) (zQ (zH (zH (zP rfl (zC (zD (zB (zA rfl ?_)))))))))))))
  refine vr 1 (3 ≤ 3) (vcl [D.agg [D.row (List.take (List.length c) (List.drop 0 (Bk.cells (intB (nsD (List.map (fun (j : Nat) => List.getD A j 0) c)))))) (List.length c), D.row (List.take (List.length W) (List.drop 0 (Bk.cells (rowB (List.map rowV K))))) (List.length W), D.row (List.take (List.length W) (List.drop 0 (Bk.cells (natB (List.map natD W))))) (List.length W)]] [D.agg [D.row (nsD (List.map (fun (j : Nat) => List.getD A j 0) c)) (List.length c), D.row (List.map rowV K) (List.length W), D.row (List.map natD W) (List.length W)]] (LeL.of_eq (by simp (disch := omega) only [List.drop_zero, ht1, ht3, ht2])) (by exact hso) (ve (false = false ∧ true = true ∧ 3 = 3 ∧ 3 ≤ 3) (zM ?_)))
  refine vre (3 ≤ 3) (D.agg [D.row (nsD (List.map (fun (j : Nat) => List.getD A j 0) c)) (List.length c), D.row (List.map rowV (List.map (fun (x : Rw × Nat) => Prod.fst x) (srtL (sumT (fun (x1 x2 : Nat) => x1 + x2) [] L)))) (List.length (srtL (sumT (fun (x1 x2 : Nat) => x1 + x2) [] L))), D.row (List.map natD (List.map (fun (x : Rw × Nat) => Prod.snd x) (srtL (sumT (fun (x1 x2 : Nat) => x1 + x2) [] L)))) (List.length (srtL (sumT (fun (x1 x2 : Nat) => x1 + x2) [] L)))]) (.inr rfl) (by simp)
end
end Go.Proofs.YtmfamhoopjeaiaaDoor

/- Package nat: divDigit, DivMod by one digit, Uint64, by the walk over data. -/
import Derived.Test.YtgbhoceamcomfaaDd
import Derived.Test.YtgbhoceamcomfaaDs
import Derived.Test.YtgbhoceamcomfaaFr
import Derived.Test.YtgbhoceamcomfaaDp
namespace Go.Proofs.Ytgbhoceamcomfaa
open Go.RowKit
attribute [local irreducible] seqW awp thenW nextW blockW Weak updS deadS retL Pure Acts
set_option linter.unusedVariables false
set_option linter.unusedSimpArgs false
set_option maxRecDepth 4096
abbrev digB (l : List Nat) : Bk := ⟨l.map dig, 60, 1, true, false⟩
def Te : Par := ⟨fun f => f == 58, fun _ _ => none, fun k => k == 0⟩
theorem Te_ok : MethOk Try.prog Te := by intro t n f h; cases h
def Tf : Par := ⟨fun f => f == 58, fun _ _ => none, fun _ => false⟩
theorem Tf_ok : MethOk Try.prog Tf := by intro t n f h; cases h
theorem keepE {b : Bk} : ∀ k, k < [b].length → Te.keep k = true := fun k hk => by
  obtain rfl : k = 0 := by simpa using hk
  rfl
theorem keepE' : ∀ k, 1 ≤ k → Te.keep k = false := fun k hk => by show (k == 0) = false; simp; omega
theorem or_32 (x a : Nat) (hx : x < 4294967296) (ha : a < 4294967296) : (BitVec.ofInt 64 ((x : Int) * 2 ^ 32) ||| BitVec.ofInt 64 (a : Int)).toNat = x * 4294967296 + a := by
  have := or_add 32 a x (by decide) (by omega) (by omega)
  rw [show ((x : Int) * 2 ^ 32) = ((x * 2 ^ 32 : Nat) : Int) by omega]
  omega
theorem nat_bd {q : Nat} (h : q < 4294967296) : (0 : Int) ≤ (q : Int) ∧ (q : Int) ≤ 18446744073709551615 := by omega
theorem toN1 (a : Nat) : ((a : Int) - 1).toNat = a - 1 := by omega
theorem tdiv_n (a b : Nat) : Int.tdiv (a : Int) (b : Int) = ((a / b : Nat) : Int) := (Int.ofNat_tdiv a b).symm
theorem tmod_n (a b : Nat) : Int.tmod (a : Int) (b : Int) = ((a % b : Nat) : Int) := (Int.ofNat_tmod a b).symm
set_option maxHeartbeats 2000000 in
theorem divdig_c (l : List Nat) (n d : Nat) (wh : Bool) (hn : l.length = n) (hl : n ≤ 1000000) (hd : Digs l) (h0 : 0 < d) (h1 : d < 4294967296) : Acts Try.prog 58 [.osl 0 0 n n wh, .val (.int .u32 d)] [digB l] [] (.val (.int .u32 (nval l % d : Nat))) [digB (dgn n (nval l / d))] := by
  subst hn
  refine acts_of_awp Te_ok mixed Try.func58 rfl keepE ?_
  focus
    refine awp_seq (awp_region rfl ?_)
    refine st_end0 [] [] [] (True) [(4, D.val (Value.int IntKind.u32 (0 : Int)))] (by kernel_rfl) trivial ?_
    refine awp_seq (awp_region rfl ?_)
    refine st_end0 [] [] [] (True) [(5, D.val (Value.int IntKind.u64 (0 : Int)))] (by kernel_rfl) trivial ?_
    refine awp_seq (awp_seq (awp_region rfl ?_))
    refine st_end0 [] [] [7, 8, 9] ((-9223372036854775808 : Int) ≤ (↑(List.length l) : Int) - (1 : Int) ∧ (↑(List.length l) : Int) - (1 : Int) ≤ (9223372036854775807 : Int)) [(6, iD ((↑(List.length l) : Int) - (1 : Int)))] (by kernel_rfl) (by omega) ?_
    refine awp_block ?_
    rotate_left
  refine awp_loop3 (fun (k r : Nat) (cur : List Nat) => [D.osl (0 : Nat) (0 : Nat) (List.length l) (List.length l) wh, D.val (Value.int IntKind.u32 (↑d : Int)), U, U, D.val (Value.int IntKind.u32 (0 : Int)), D.val (Value.int IntKind.u64 (↑r : Int)), iD ((↑k : Int) - (1 : Int)), U, U, U, U, U, U, U, U, U, U, U, U, U, U, U, U, U, U, U, U, U, U, U, U, U, U, U, U, U]) (fun k r cur => [digB cur]) (fun k r cur => k) (fun k r cur => k ≤ l.length ∧ r < d ∧ cur.length = l.length ∧ Digs cur ∧ cur.take k = l.take k ∧ nval (cur.drop k) * d + r = nval (l.drop k)) l.length 0 l ?_ ?_ ?_
  · exact ⟨Nat.le_refl _, h0, rfl, hd, rfl, by simp [nval]⟩
  · refine weak_run [(0, 1), (1, 1), (4, 1), (5, 1), (6, 1)] (D.osl (0 : Nat) (0 : Nat) (List.length l) (List.length l) wh = D.osl (0 : Nat) (0 : Nat) (List.length l) (List.length l) wh ∧ D.val (Value.int IntKind.u32 (↑d : Int)) = D.val (Value.int IntKind.u32 (↑d : Int)) ∧ D.val (Value.int IntKind.u32 (0 : Int)) = D.val (Value.int IntKind.u32 (0 : Int)) ∧ D.val (Value.int IntKind.u64 (0 : Int)) = D.val (Value.int IntKind.u64 (↑(0 : Nat) : Int)) ∧ iD ((↑(List.length l) : Int) - (1 : Int)) = iD ((↑(List.length l) : Int) - (1 : Int))) 1 [] (by kernel_rfl) ⟨rfl, rfl, rfl, (by kernel_rfl), rfl⟩ (by kernel_rfl) ?_ (by kernel_rfl)
    exact keepE'
  rintro k r cur ⟨k1, k2, k3, k4, k5, k6⟩
  rcases Nat.eq_zero_or_pos k with hk | hk
  · subst hk
    obtain ⟨e1, e2⟩ := div_end k2 (show nval cur * d + r = nval l by simpa using k6)
    focus
      refine awp_seq (awp_seq (awp_region rfl ?_))
      refine st_end0 [] [] [10] (True) [(11, bD false)] (by kernel_rfl) trivial ?_
      refine cond_f (t := false) (by kernel_rfl) rfl ?_
      refine awp_exit (then_exit (then_exit (block_hit rfl (then_normal (next_same (awp_seq (awp_region rfl ?_)))))))
      refine st_end0 [] [] [0, 1, 5, 6, 11, 34, 35] ((0 : Int) ≤ (↑r : Int) ∧ (↑r : Int) ≤ (4294967295 : Int)) [(4, D.val (Value.int IntKind.u32 (↑r : Int)))] (by kernel_rfl) (by omega) ?_
      refine awp_ret ?_
      refine ret_list (True) [D.val (Value.int IntKind.u32 (↑r : Int))] (.inr rfl) (by kernel_rfl) trivial ?_
      rotate_left
    exact ⟨by rw [← e2]; rfl, by rw [← e1, ← k3, dgn_nval cur k4]⟩
  · have q1 := hd (k - 1)
    have q2 := div_dig_lt k2 q1
    obtain ⟨q3, q4, q5⟩ := div_step (A := l) (cur := cur) (k := k - 1) (r := r) (d := d) (by omega) k3 h0 (by rw [show k - 1 + 1 = k by omega]; exact k5) (by rw [show k - 1 + 1 = k by omega]; exact k6) k2
    focus
      refine awp_seq (awp_seq (awp_region rfl ?_))
      refine st_end0 [] [] [10] (True) [(11, bD (decide ((↑k : Int) - (1 : Int) ≥ (0 : Int))))] (by kernel_rfl) trivial ?_
      refine cond_t (t := decide ((↑k : Int) - (1 : Int) ≥ (0 : Int))) (by kernel_rfl) (by exact decide_eq_true (by omega)) ?_
      refine awp_skip (then_normal (next_same (awp_seq (awp_block (awp_seq (awp_region rfl ?_))))))
      refine st_run0 2 [] [] ((0 : Int) ≤ (32 : Int)) [(14, D.val (Value.int IntKind.u64 (↑r : Int))), (15, D.val (Value.int IntKind.u64 (IntKind.wrap IntKind.u64 ((↑r : Int) * (2 : Int) ^ (32 : Nat)))))] (by kernel_rfl) (by omega) ?_
      refine st_slot 15 (D.val (Value.int IntKind.u64 (IntKind.wrap IntKind.u64 ((↑r : Int) * (2 : Int) ^ (32 : Nat))))) (D.val (Value.int IntKind.u64 ((↑r : Int) * (2 : Int) ^ (32 : Nat)))) (by kernel_rfl) (by simp (disch := omega) only [wrap_u64]) (by kernel_rfl) ?_
      refine st_run0 3 [] [] ((0 : Int) ≤ (↑k : Int) - (1 : Int) ∧ (↑k : Int) - (1 : Int) < (↑(List.length l) : Int)) [(16, D.osl (0 : Nat) (0 : Nat) (List.length l) (List.length l) wh), (17, iD ((↑k : Int) - (1 : Int))), (18, D.own (0 : Nat) ((0 : Nat) + Int.toNat ((↑k : Int) - (1 : Int)) * (1 : Nat)))] (by kernel_rfl) (by omega) ?_
      refine st_slot 18 (D.own (0 : Nat) ((0 : Nat) + Int.toNat ((↑k : Int) - (1 : Int)) * (1 : Nat))) (D.own (0 : Nat) (k - (1 : Nat))) (by kernel_rfl) (by simp (disch := omega) only [toN1, Nat.mul_one, Nat.zero_add]) (by kernel_rfl) ?_
      refine st_run0 1 [] [] ((0 : Nat) < List.length (List.drop (k - (1 : Nat)) (Bk.cells (digB cur)))) [(19, List.headD (List.drop (k - (1 : Nat)) (Bk.cells (digB cur))) U)] (by kernel_rfl) (by (simp; omega)) ?_
      refine st_slot 19 (List.headD (List.drop (k - (1 : Nat)) (Bk.cells (digB cur))) U) (dig (List.getD l (k - (1 : Nat)) (0 : Nat))) (by kernel_rfl) (by simp (disch := omega) only [headD_dig, q3]) (by kernel_rfl) ?_
      refine st_run0 2 [] [] (((0 : Int) ≤ (↑(List.getD l (k - (1 : Nat)) (0 : Nat)) : Int) ∧ (↑(List.getD l (k - (1 : Nat)) (0 : Nat)) : Int) ≤ (18446744073709551615 : Int)) ∧ True) [(20, D.val (Value.int IntKind.u64 (↑(List.getD l (k - (1 : Nat)) (0 : Nat)) : Int))), (21, D.val (Value.int IntKind.u64 (IntKind.wrap IntKind.u64 (↑(BitVec.toNat (BitVec.ofInt (64 : Nat) ((↑r : Int) * (2 : Int) ^ (32 : Nat)) ||| BitVec.ofInt (64 : Nat) (↑(List.getD l (k - (1 : Nat)) (0 : Nat)) : Int))) : Int))))] (by kernel_rfl) ⟨(by omega), trivial⟩ ?_
      refine st_slot 21 (D.val (Value.int IntKind.u64 (IntKind.wrap IntKind.u64 (↑(BitVec.toNat (BitVec.ofInt (64 : Nat) ((↑r : Int) * (2 : Int) ^ (32 : Nat)) ||| BitVec.ofInt (64 : Nat) (↑(List.getD l (k - (1 : Nat)) (0 : Nat)) : Int))) : Int)))) (D.val (Value.int IntKind.u64 (↑(r * (4294967296 : Nat) + List.getD l (k - (1 : Nat)) (0 : Nat)) : Int))) (by kernel_rfl) (by simp (disch := omega) only [or_32, wrap_u64]) (by kernel_rfl) ?_
      refine st_end0 [] [] [11, 14, 15, 16, 17, 18, 19, 20, 21] (True) [(5, D.val (Value.int IntKind.u64 (↑(r * (4294967296 : Nat) + List.getD l (k - (1 : Nat)) (0 : Nat)) : Int)))] (by kernel_rfl) trivial ?_
      refine awp_seq (awp_region rfl ?_)
      refine st_run0 6 [] [] (((0 : Int) ≤ (↑d : Int) ∧ (↑d : Int) ≤ (18446744073709551615 : Int)) ∧ (↑d : Int) ≠ (0 : Int) ∧ (0 : Int) ≤ Int.tdiv (↑(r * (4294967296 : Nat) + List.getD l (k - (1 : Nat)) (0 : Nat)) : Int) (↑d : Int) ∧ Int.tdiv (↑(r * (4294967296 : Nat) + List.getD l (k - (1 : Nat)) (0 : Nat)) : Int) (↑d : Int) ≤ (18446744073709551615 : Int)) [(22, D.osl (0 : Nat) (0 : Nat) (List.length l) (List.length l) wh), (23, iD ((↑k : Int) - (1 : Int))), (24, D.val (Value.int IntKind.u64 (↑(r * (4294967296 : Nat) + List.getD l (k - (1 : Nat)) (0 : Nat)) : Int))), (25, D.val (Value.int IntKind.u32 (↑d : Int))), (26, D.val (Value.int IntKind.u64 (↑d : Int))), (27, D.val (Value.int IntKind.u64 (Int.tdiv (↑(r * (4294967296 : Nat) + List.getD l (k - (1 : Nat)) (0 : Nat)) : Int) (↑d : Int))))] (by kernel_rfl) ⟨(by omega), ?_⟩ ?_
      rotate_left
      refine st_slot 27 (D.val (Value.int IntKind.u64 (Int.tdiv (↑(r * (4294967296 : Nat) + List.getD l (k - (1 : Nat)) (0 : Nat)) : Int) (↑d : Int)))) (D.val (Value.int IntKind.u64 (↑((r * (4294967296 : Nat) + List.getD l (k - (1 : Nat)) (0 : Nat)) / d) : Int))) (by kernel_rfl) (by simp (disch := omega) only [tdiv_n]) (by kernel_rfl) ?_
      refine st_run0 1 [28] [] (True) [(28, D.val (Value.int IntKind.u32 (IntKind.wrap IntKind.u32 (↑((r * (4294967296 : Nat) + List.getD l (k - (1 : Nat)) (0 : Nat)) / d) : Int))))] (by kernel_rfl) trivial ?_
      refine st_slot 28 (D.val (Value.int IntKind.u32 (IntKind.wrap IntKind.u32 (↑((r * (4294967296 : Nat) + List.getD l (k - (1 : Nat)) (0 : Nat)) / d) : Int)))) (D.val (Value.int IntKind.u32 (↑((r * (4294967296 : Nat) + List.getD l (k - (1 : Nat)) (0 : Nat)) / d % (4294967296 : Nat)) : Int))) (by kernel_rfl) (by simp (disch := omega) only [wrap_u32_cast]) (by kernel_rfl) ?_
      refine st_run0 1 [] [] ((0 : Int) ≤ (↑k : Int) - (1 : Int) ∧ (↑k : Int) - (1 : Int) < (↑(List.length l) : Int)) [(29, D.own (0 : Nat) ((0 : Nat) + Int.toNat ((↑k : Int) - (1 : Int)) * (1 : Nat)))] (by kernel_rfl) (by omega) ?_
      refine st_slot 29 (D.own (0 : Nat) ((0 : Nat) + Int.toNat ((↑k : Int) - (1 : Int)) * (1 : Nat))) (D.own (0 : Nat) (k - (1 : Nat))) (by kernel_rfl) (by simp (disch := omega) only [toN1, Nat.mul_one, Nat.zero_add]) (by kernel_rfl) ?_
      refine st_run 1 [] [] (Bk.fz (digB cur) = false ∧ isVar (D.val (Value.int IntKind.u32 (↑((r * (4294967296 : Nat) + List.getD l (k - (1 : Nat)) (0 : Nat)) / d % (4294967296 : Nat)) : Int))) = true ∧ List.length (cellsOf (D.val (Value.int IntKind.u32 (↑((r * (4294967296 : Nat) + List.getD l (k - (1 : Nat)) (0 : Nat)) / d % (4294967296 : Nat)) : Int)))) = (1 : Nat) ∧ k - (1 : Nat) + (1 : Nat) ≤ List.length (Bk.cells (digB cur)) ∧ ¬(0 : Nat) ∈ []) [] [Bk.mk (setAt (Bk.cells (digB cur)) (k - (1 : Nat)) (cellsOf (D.val (Value.int IntKind.u32 (↑((r * (4294967296 : Nat) + List.getD l (k - (1 : Nat)) (0 : Nat)) / d % (4294967296 : Nat)) : Int))))) (Bk.ty (digB cur)) (Bk.sz (digB cur)) (Bk.arr (digB cur)) (Bk.fz (digB cur))] (by kernel_rfl) ⟨(by kernel_rfl), ⟨(by kernel_rfl), ⟨(by kernel_rfl), ⟨(by (simp; omega)), (by decide)⟩⟩⟩⟩ ?_
      refine st_blk 0 (Bk.mk (setAt (Bk.cells (digB cur)) (k - (1 : Nat)) (cellsOf (D.val (Value.int IntKind.u32 (↑((r * (4294967296 : Nat) + List.getD l (k - (1 : Nat)) (0 : Nat)) / d % (4294967296 : Nat)) : Int))))) (Bk.ty (digB cur)) (Bk.sz (digB cur)) (Bk.arr (digB cur)) (Bk.fz (digB cur))) (Bk.mk (List.map dig (List.set cur (k - (1 : Nat)) ((r * (4294967296 : Nat) + List.getD l (k - (1 : Nat)) (0 : Nat)) / d % (4294967296 : Nat)))) (60 : TypeId) (1 : Nat) true false) (by kernel_rfl) (by simp (disch := omega) only [cellsOf, setAt, set_dig]) ?_
      refine st_end0 [] [] [22, 23, 24, 25, 26, 27, 28, 29] (True) [] (by kernel_rfl) trivial ?_
      refine awp_region rfl ?_
      refine st_run0 4 [] [] (((0 : Int) ≤ (↑d : Int) ∧ (↑d : Int) ≤ (18446744073709551615 : Int)) ∧ (↑d : Int) ≠ (0 : Int)) [(30, D.val (Value.int IntKind.u64 (↑(r * (4294967296 : Nat) + List.getD l (k - (1 : Nat)) (0 : Nat)) : Int))), (31, D.val (Value.int IntKind.u32 (↑d : Int))), (32, D.val (Value.int IntKind.u64 (↑d : Int))), (33, D.val (Value.int IntKind.u64 (Int.tmod (↑(r * (4294967296 : Nat) + List.getD l (k - (1 : Nat)) (0 : Nat)) : Int) (↑d : Int))))] (by kernel_rfl) (by omega) ?_
      refine st_slot 33 (D.val (Value.int IntKind.u64 (Int.tmod (↑(r * (4294967296 : Nat) + List.getD l (k - (1 : Nat)) (0 : Nat)) : Int) (↑d : Int)))) (D.val (Value.int IntKind.u64 (↑((r * (4294967296 : Nat) + List.getD l (k - (1 : Nat)) (0 : Nat)) % d) : Int))) (by kernel_rfl) (by simp (disch := omega) only [tmod_n]) (by kernel_rfl) ?_
      refine st_run0 1 [] [] (True) [(5, D.val (Value.int IntKind.u64 (↑((r * (4294967296 : Nat) + List.getD l (k - (1 : Nat)) (0 : Nat)) % d) : Int)))] (by kernel_rfl) trivial ?_
      refine st_nil ?_ (by kernel_rfl)
      refine block_normal (then_normal (next_same (awp_region rfl ?_)))
      refine st_run0 3 [] [] ((-9223372036854775808 : Int) ≤ (↑k : Int) - (1 : Int) - (1 : Int) ∧ (↑k : Int) - (1 : Int) - (1 : Int) ≤ (9223372036854775807 : Int)) [(6, iD ((↑k : Int) - (1 : Int) - (1 : Int))), (12, iD ((↑k : Int) - (1 : Int))), (13, iD ((↑k : Int) - (1 : Int) - (1 : Int)))] (by kernel_rfl) (by omega) ?_
      refine st_nil ?_ (by kernel_rfl)
      refine then_normal ?_
      rotate_left
    · have q6 : (0 : Int) ≤ ((r * 4294967296 + l.getD (k - 1) 0 : Nat) : Int).tdiv (d : Int) ∧ ((r * 4294967296 + l.getD (k - 1) 0 : Nat) : Int).tdiv (d : Int) ≤ 18446744073709551615 := by
        rw [tdiv_n]; exact nat_bd q2
      exact ⟨by omega, q6.1, q6.2⟩
    refine ⟨k - 1, (r * 4294967296 + l.getD (k - 1) 0) % d, cur.set (k - 1) ((r * 4294967296 + l.getD (k - 1) 0) / d), ⟨by omega, Nat.mod_lt _ h0, by simpa using k3, k4.set _ _ (by omega) q2, q4, q5⟩, by omega, ?_⟩
    rw [Nat.mod_eq_of_lt q2]
    refine weak_run [(0, 1), (1, 1), (4, 1), (5, 1), (6, 1)] (D.osl (0 : Nat) (0 : Nat) (List.length l) (List.length l) wh = D.osl (0 : Nat) (0 : Nat) (List.length l) (List.length l) wh ∧ D.val (Value.int IntKind.u32 (↑d : Int)) = D.val (Value.int IntKind.u32 (↑d : Int)) ∧ D.val (Value.int IntKind.u32 (0 : Int)) = D.val (Value.int IntKind.u32 (0 : Int)) ∧ D.val (Value.int IntKind.u64 (↑((r * (4294967296 : Nat) + List.getD l (k - (1 : Nat)) (0 : Nat)) % d) : Int)) = D.val (Value.int IntKind.u64 (↑((r * (4294967296 : Nat) + List.getD l (k - (1 : Nat)) (0 : Nat)) % d) : Int)) ∧ iD ((↑k : Int) - (1 : Int) - (1 : Int)) = iD ((↑(k - (1 : Nat)) : Int) - (1 : Int))) 1 [] (by kernel_rfl) ⟨rfl, rfl, rfl, rfl, (by (simp; omega))⟩ (by kernel_rfl) ?_ (by kernel_rfl)
    exact keepE'
set_option maxHeartbeats 1000000 in
theorem divmod_c (a b : Nat) (la : (dg a).length ≤ 100000) (h0 : 0 < b) (h1 : b < 4294967296) : Pure Try.prog 42 [natD a, natD b] [] (.tup [natD (a / b), natD (a % b), iD 0]) := by
  have eb := dg_one b (by omega) h1
  have lb : (dg b).length = 1 := by rw [eb]; rfl
  have gb : (List.map dig (dg b)).headD D.unk = dig b := by rw [eb]; rfl
  have z0 : natD 0 = .row [] 0 := by simp [natD, dg]
  have na := nval_dg a
  have nb' := nval_dg b
  have hm : a % b < 4294967296 := Nat.lt_trans (Nat.mod_lt _ h0) h1
  have hq : a / b ≤ a := Nat.div_le_self _ _
  have hv := nval_lt (dg a) (digs_dg a)
  have hn := nval_dgn (dg a).length (a / b) (by omega)
  have hl := dgn_len (dg a).length (a / b)
  have hd := dgn_digs (dg a).length (a / b)
  have tk : List.take (dg a).length (List.map dig (dgn (dg a).length (a / b))) = List.map dig (dgn (dg a).length (a / b)) := List.take_of_length_le (by rw [List.length_map, hl]; exact Nat.le_refl _)
  have c1 := trim_c (dg a) _ rfl (by omega) (digs_dg _)
  have c2 := trim_c (dg b) _ rfl (by omega) (digs_dg _)
  have c3 := cmp_c (dg a) (dg b) _ _ rfl rfl (by omega) (by omega) (digs_dg _) (digs_dg _)
  rw [na] at c1 c3
  rw [nb'] at c2 c3
  by_cases hab : a < b
  · have e1 : a / b = 0 := Nat.div_eq_of_lt hab
    have e2 : a % b = a := Nat.mod_eq_of_lt hab
    have hc : cmpD (a : Nat) (b : Nat) = -1 := by unfold cmpD; rw [if_pos (by omega)]
    rw [hc] at c3
    rw [e1, e2]
    refine pure_of_awp Tf_ok mixed Try.func42 rfl ?_
    focus
      refine awp_seq (awp_region rfl ?_)
      refine st_end0 [] [] [] (True) [(4, D.val (Value.slice none (0 : Nat) (0 : Nat))), (5, D.val (Value.slice none (0 : Nat) (0 : Nat))), (6, iD (0 : Int))] (by kernel_rfl) trivial ?_
      refine awp_seq (awp_region rfl ?_)
      refine st_run0 1 [] [] (True) [(11, D.row (List.map dig (dg a)) (List.length (dg a)))] (by kernel_rfl) trivial ?_
      refine st_call0 [D.row (List.map dig (dg a)) (List.length (dg a))] [D.row (List.map dig (dg a)) (List.length (dg a))] (by kernel_rfl) (LeL.refl _) (by exact c1) ?_
      refine st_run0 1 [] [] (True) [(13, D.row (List.map dig (dg b)) (List.length (dg b)))] (by kernel_rfl) trivial ?_
      refine st_call0 [D.row (List.map dig (dg b)) (List.length (dg b))] [D.row (List.map dig (dg b)) (List.length (dg b))] (by kernel_rfl) (LeL.refl _) (by exact c2) ?_
      refine st_end0 [] [] [11, 12, 13, 14] (True) [(0, D.row (List.map dig (dg a)) (List.length (dg a))), (1, D.row (List.map dig (dg b)) (List.length (dg b)))] (by kernel_rfl) trivial ?_
      refine awp_seq (awp_seq (awp_region rfl ?_))
      refine st_end0 [] [] [15, 16] (True) [(17, bD ((↑(List.length (dg b)) : Int) == (0 : Int)))] (by kernel_rfl) trivial ?_
      refine cond_f (t := (↑(List.length (dg b)) : Int) == (0 : Int)) (by kernel_rfl) (by exact decide_eq_false (by omega)) ?_
      refine awp_skip (then_normal (next_same (awp_seq (awp_seq (awp_region rfl ?_)))))
      refine st_run0 2 [] [] (True) [(18, D.row (List.map dig (dg a)) (List.length (dg a))), (19, D.row (List.map dig (dg b)) (List.length (dg b)))] (by kernel_rfl) trivial ?_
      refine st_call0 [D.row (List.map dig (dg a)) (List.length (dg a)), D.row (List.map dig (dg b)) (List.length (dg b))] [D.row (List.map dig (dg a)) (List.length (dg a)), D.row (List.map dig (dg b)) (List.length (dg b))] (by kernel_rfl) (LeL.refl _) (by exact c3) ?_
      refine st_end0 [] [] [17, 18, 19, 20] (True) [(21, bD true)] (by kernel_rfl) trivial ?_
      refine cond_t (t := true) (by kernel_rfl) rfl ?_
      refine awp_seq (awp_region rfl ?_)
      refine st_run0 1 [] [] (True) [(22, D.row (List.map dig (dg a)) (List.length (dg a)))] (by kernel_rfl) trivial ?_
      refine st_call0 [D.row (List.map dig (dg a)) (List.length (dg a))] [D.row (List.map dig (dg a)) (List.length (dg a))] (by kernel_rfl) (LeL.refl _) (by exact clone_nat ((dg a).map dig) _ (by simp) (by omega)) ?_
      refine st_end0 [] [] [21, 22, 23] (True) [(5, D.row (List.map dig (dg a)) (List.length (dg a)))] (by kernel_rfl) trivial ?_
      refine awp_ret (then_ret ?_)
      refine ret_run (True) (D.tup [D.row [] (0 : Nat), D.row (List.map dig (dg a)) (List.length (dg a)), iD (0 : Int)]) (D.tup [D.row [] (0 : Nat), D.row (List.map dig (dg a)) (List.length (dg a)), D.val (Value.int IntKind.i64 (0 : Int))]) (.inr rfl) (by kernel_rfl) trivial rfl ?_
      rotate_left
    rw [z0]
  · have hc : cmpD (a : Nat) (b : Nat) = 0 ∨ cmpD (a : Nat) (b : Nat) = 1 := by
      unfold cmpD; rw [if_neg (by omega)]; split <;> simp
    have c4 := divdig_c (dg a) (dg a).length b true rfl (by omega) (digs_dg _) h0 h1
    rw [na] at c4
    generalize cmpD (a : Nat) (b : Nat) = cc at *
    refine pure_of_awp Tf_ok mixed Try.func42 rfl ?_
    focus
      refine awp_seq (awp_region rfl ?_)
      refine st_end0 [] [] [] (True) [(4, D.val (Value.slice none (0 : Nat) (0 : Nat))), (5, D.val (Value.slice none (0 : Nat) (0 : Nat))), (6, iD (0 : Int))] (by kernel_rfl) trivial ?_
      refine awp_seq (awp_region rfl ?_)
      refine st_run0 1 [] [] (True) [(11, D.row (List.map dig (dg a)) (List.length (dg a)))] (by kernel_rfl) trivial ?_
      refine st_call0 [D.row (List.map dig (dg a)) (List.length (dg a))] [D.row (List.map dig (dg a)) (List.length (dg a))] (by kernel_rfl) (LeL.refl _) (by exact c1) ?_
      refine st_run0 1 [] [] (True) [(13, D.row (List.map dig (dg b)) (List.length (dg b)))] (by kernel_rfl) trivial ?_
      refine st_call0 [D.row (List.map dig (dg b)) (List.length (dg b))] [D.row (List.map dig (dg b)) (List.length (dg b))] (by kernel_rfl) (LeL.refl _) (by exact c2) ?_
      refine st_end0 [] [] [11, 12, 13, 14] (True) [(0, D.row (List.map dig (dg a)) (List.length (dg a))), (1, D.row (List.map dig (dg b)) (List.length (dg b)))] (by kernel_rfl) trivial ?_
      refine awp_seq (awp_seq (awp_region rfl ?_))
      refine st_end0 [] [] [15, 16] (True) [(17, bD ((↑(List.length (dg b)) : Int) == (0 : Int)))] (by kernel_rfl) trivial ?_
      refine cond_f (t := (↑(List.length (dg b)) : Int) == (0 : Int)) (by kernel_rfl) (by exact decide_eq_false (by omega)) ?_
      refine awp_skip (then_normal (next_same (awp_seq (awp_seq (awp_region rfl ?_)))))
      refine st_run0 2 [] [] (True) [(18, D.row (List.map dig (dg a)) (List.length (dg a))), (19, D.row (List.map dig (dg b)) (List.length (dg b)))] (by kernel_rfl) trivial ?_
      refine st_call0 [D.row (List.map dig (dg a)) (List.length (dg a)), D.row (List.map dig (dg b)) (List.length (dg b))] [D.row (List.map dig (dg a)) (List.length (dg a)), D.row (List.map dig (dg b)) (List.length (dg b))] (by kernel_rfl) (LeL.refl _) (by exact c3) ?_
      refine st_end0 [] [] [17, 18, 19, 20] (True) [(21, bD (decide (cc < (0 : Int))))] (by kernel_rfl) trivial ?_
      refine cond_f (t := decide (cc < (0 : Int))) (by kernel_rfl) (by exact decide_eq_false (by omega)) ?_
      refine awp_skip (then_normal (next_same (awp_seq (awp_seq (awp_region rfl ?_)))))
      refine st_end0 [] [] [21, 24, 25] (True) [(26, bD ((↑(List.length (dg b)) : Int) == (1 : Int)))] (by kernel_rfl) trivial ?_
      refine cond_t (t := (↑(List.length (dg b)) : Int) == (1 : Int)) (by kernel_rfl) (by exact decide_eq_true (by omega)) ?_
      refine awp_seq (awp_region rfl ?_)
      refine st_run0 1 [] [] (True) [(27, D.row (List.map dig (dg a)) (List.length (dg a)))] (by kernel_rfl) trivial ?_
      refine st_callN [] [] [D.row (List.map dig (dg a)) (List.length (dg a))] [] [D.row (List.map dig (dg a)) (List.length (dg a))] (by kernel_rfl) trivial (LeL.refl _) (by exact cloneO_nat ((dg a).map dig) _ (by simp) (by omega)) ?_
      refine st_run0 1 [] [] (True) [(7, D.osl (0 : Nat) (0 : Nat) (List.length (dg a)) (List.length (dg a) * (1 : Nat)) true)] (by kernel_rfl) trivial ?_
      refine st_slot 7 (D.osl (0 : Nat) (0 : Nat) (List.length (dg a)) (List.length (dg a) * (1 : Nat)) true) (D.osl (0 : Nat) (0 : Nat) (List.length (dg a)) (List.length (dg a)) true) (by kernel_rfl) (by simp (disch := omega) only [Nat.mul_one]) (by kernel_rfl) ?_
      refine st_end0 [] [] [26, 27, 28] (True) [] (by kernel_rfl) trivial ?_
      refine awp_seq (awp_region rfl ?_)
      refine st_run0 3 [] [] ((0 : Int) ≤ (0 : Int) ∧ (0 : Int) < (↑(List.length (dg b)) : Int) ∧ List.map dig (dg b) ≠ []) [(29, D.osl (0 : Nat) (0 : Nat) (List.length (dg a)) (List.length (dg a)) true), (30, D.row (List.map dig (dg b)) (List.length (dg b))), (31, D.ptr (List.drop (0 : Nat) (List.map dig (dg b))))] (by kernel_rfl) ⟨(by omega), ⟨(by omega), (by exact map_ne (by omega))⟩⟩ ?_
      refine st_slot 31 (D.ptr (List.drop (0 : Nat) (List.map dig (dg b)))) (D.ptr (List.map dig (dg b))) (by kernel_rfl) (by simp (disch := omega) only [List.drop_zero]) (by kernel_rfl) ?_
      refine st_run0 1 [] [] ((0 : Nat) < List.length (List.map dig (dg b))) [(32, List.headD (List.map dig (dg b)) U)] (by kernel_rfl) (by (simp; omega)) ?_
      refine st_slot 32 (List.headD (List.map dig (dg b)) U) (dig b) (by kernel_rfl) (by simp (disch := omega) only [gb]) (by kernel_rfl) ?_
      refine st_act [] [] [D.osl (0 : Nat) (0 : Nat) (List.length (dg a)) (List.length (dg a)) true, D.val (Value.int IntKind.u32 (↑b : Int))] [D.osl (0 : Nat) (0 : Nat) (List.length (dg a)) (List.length (dg a)) true, D.val (Value.int IntKind.u32 (↑b : Int))] (by kernel_rfl) trivial (LeL.refl _) (by exact c4) ?_
      refine st_end0 [] [] [29, 30, 31, 32, 33] (True) [(8, D.val (Value.int IntKind.u32 (↑(a % b) : Int)))] (by kernel_rfl) trivial ?_
      refine awp_seq (awp_region rfl ?_)
      refine st_run0 1 [] [] (True) [(34, D.osl (0 : Nat) (0 : Nat) (List.length (dg a)) (List.length (dg a)) true)] (by kernel_rfl) trivial ?_
      refine st_call [] [] [D.row (List.take (List.length (dg a)) (List.drop (0 : Nat) (Bk.cells (Bk.mk (List.map dig (dgn (List.length (dg a)) (a / b))) (60 : Nat) (1 : Nat) true false)))) (List.length (dg a))] [Bk.mk (List.map dig (dgn (List.length (dg a)) (a / b))) (60 : Nat) (1 : Nat) true true] [D.row (List.map dig (dgn (List.length (dg a)) (a / b))) (List.length (dg a))] (by kernel_rfl) trivial (LeL.of_eq (by simp (disch := omega) only [List.drop_zero, tk])) (by exact trim_c (dgn (dg a).length (a / b)) _ hl (by omega) hd) ?_
      refine st_run0 2 [] [] ((0 : Int) ≤ (↑(a % b) : Int) ∧ (↑(a % b) : Int) ≤ (18446744073709551615 : Int)) [(36, D.val (Value.int IntKind.u32 (↑(a % b) : Int))), (37, D.val (Value.int IntKind.u64 (↑(a % b) : Int)))] (by kernel_rfl) (by omega) ?_
      refine st_call0 [D.val (Value.int IntKind.u64 (↑(a % b) : Int))] [D.val (Value.int IntKind.u64 (↑(a % b) : Int))] (by kernel_rfl) (LeL.refl _) (by exact of_c (a % b) (by omega)) ?_
      refine st_run0 1 [] [] (True) [(4, D.row (List.map dig (dg (nval (dgn (List.length (dg a)) (a / b))))) (List.length (dg (nval (dgn (List.length (dg a)) (a / b))))))] (by kernel_rfl) trivial ?_
      refine st_slot 4 (D.row (List.map dig (dg (nval (dgn (List.length (dg a)) (a / b))))) (List.length (dg (nval (dgn (List.length (dg a)) (a / b)))))) (D.row (List.map dig (dg (a / b))) (List.length (dg (a / b)))) (by kernel_rfl) (by simp (disch := omega) only [hn]) (by kernel_rfl) ?_
      refine st_end0 [] [] [7, 8, 34, 35, 36, 37, 38] (True) [(5, D.row (List.map dig (dg (a % b))) (List.length (dg (a % b))))] (by kernel_rfl) trivial ?_
      refine awp_ret (then_ret ?_)
      refine ret_run (True) (D.tup [D.row (List.map dig (dg (a / b))) (List.length (dg (a / b))), D.row (List.map dig (dg (a % b))) (List.length (dg (a % b))), iD (0 : Int)]) (D.tup [D.row (List.map dig (dg (a / b))) (List.length (dg (a / b))), D.row (List.map dig (dg (a % b))) (List.length (dg (a % b))), D.val (Value.int IntKind.i64 (0 : Int))]) (.inr rfl) (by kernel_rfl) trivial rfl rfl
end Go.Proofs.Ytgbhoceamcomfaa

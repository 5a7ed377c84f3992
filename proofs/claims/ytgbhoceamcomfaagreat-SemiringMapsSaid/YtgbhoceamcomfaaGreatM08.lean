/- Texts of this claim, joined: Fr Ddv Dg RaP Dr Dra Dm Dam Dpr Dpw Dmo Dfw Dtc -/
import Derived.Test.YtgbhoceamcomfaaGreatM07
namespace Go.Proofs.YtgbhoceamcomfaaGreat
open Go.RowKit
set_option linter.unusedVariables false
set_option linter.unusedSimpArgs false
def only (β : Be) (k : Nat) : Be := fun j => if j = 0 then β k else none
theorem Acts.at {P : Program} {f : FuncId} {args1 args : List D} {e e' : Bk} {x : D} {st : List Bk} (k : Nat) (h : Acts P f args1 [e] [] x [e']) (he : st[k]? = some e) (ha : e.arr = true) (ha' : e'.arr = true)
    (hargs : ∀ I w β vs, RelT I w β args vs → RelT I w (only β k) args1 vs) : Acts P f args st [] (shiftD k x) (st.set k e') := by
  intro β I w vs hr hsr hinj hfz hdom hi
  have o0 : ∀ {j : Nat} {y : Nat × Nat}, only β k j = some y → j = 0 ∧ β k = some y := fun {j y} hj => by
    simp only [only] at hj
    split at hj
    · rename_i h0; exact ⟨h0, hj⟩
    · cases hj
  have hk : k < st.length := (List.getElem?_eq_some_iff.1 he).1
  have hsr1 : SR (only β k) I w [e] := fun j b c hj => by
    obtain ⟨rfl, hb⟩ := o0 hj
    obtain ⟨e0, h1, cur, h2, h3, h4, h5⟩ := hsr k b c hb
    rw [he] at h1; cases h1
    exact ⟨e, rfl, cur, h2, h3, by rw [ha] at h4 ⊢; simpa using h4, h5⟩
  have hinj1 : Inj (only β k) := fun j j' b c c' h1 h2 => by rw [(o0 h1).1, (o0 h2).1]
  have hfz1 : FZ (only β k) I [e] := fun j b c i e0 h1 h2 h3 => by
    obtain ⟨rfl, hb⟩ := o0 h1
    simp only [List.getElem?_cons_zero, Option.some.injEq] at h2
    subst h2
    exact hfz k b c i e hb he h3
  refine (h (only β k) I w vs (hargs I w β vs hr) hsr1 hinj1 hfz1 (fun j y hj => by rw [(o0 hj).1]; simp) hi).mono ?_
  rintro en w' ⟨v, β1, I', rfl, p1, p2, p3, p4, p5, p6, p7, p8⟩
  have d0 : ∀ {j : Nat} {y : Nat × Nat}, β1 j = some y → j = 0 := fun {j y} hj => by have := p7 j y hj; simpa using this
  have old : ∀ {b c : Nat}, β1 0 = some (b, c) → (∃ c', β k = some (b, c')) ∨ w.heap.size ≤ b := fun {b c} hb => by
    rcases p2.be 0 b c hb with ⟨k', c', hk'⟩ | hh
    · exact .inl ⟨c', (o0 hk').2⟩
    · exact .inr hh
  have hlt : ∀ {j b c : Nat}, β j = some (b, c) → b < w.heap.size := fun {j b c} hj => by
    obtain ⟨e0, _, h1⟩ := hsr j b c hj
    exact h1.lt
  have keepk : ∀ y, β k = some y → β1 0 = some y := fun y hy => p3 0 y (by simp) (by simp only [only, if_true]; exact hy)
  have hle : BeLe β (fun j => if j = k then β1 0 else β j) := fun j y hj => by
    simp only
    split
    · rename_i e0; subst e0; exact keepk y hj
    · exact hj
  have heap : ∀ {j b c : Nat}, j ≠ k → β j = some (b, c) → w'.heap[b]? = w.heap[b]? := fun {j b c} hne hj => p2.out b (hlt hj) fun j' c' hj' => by
    have := (o0 hj').2
    exact hne (hinj j k b c c' hj this)
  refine ⟨v, fun j => if j = k then β1 0 else β j, I', rfl, p1, ⟨p2.fix, p2.size, fun b hb hn => p2.out b hb fun j c hj => hn k c (o0 hj).2, p2.os, p2.tape, p2.output, fun j b c hj => ?_, fun b o hb => ?_⟩, fun j y _ hj => hle j y hj, fun j b c hj => ?_, fun j j' b c c' hj hj' => ?_, fun j b c i e0 hj h2 h3 => ?_, fun j y hj => ?_, ?_⟩
  · try simp only at hj
    split at hj
    · rcases old hj with ⟨c', h1⟩ | h1
      · exact .inl ⟨k, c', h1⟩
      · exact .inr h1
    · exact .inl ⟨j, c, hj⟩
  · rcases p2.im b o hb with h1 | h1 | ⟨j, c, h1⟩
    · exact .inl h1
    · exact .inr (.inl h1)
    · exact .inr (.inr ⟨k, c, (o0 h1).2⟩)
  · try simp only at hj
    split at hj
    · rename_i ej
      subst ej
      obtain ⟨e0, h1, cur, h2, h3, h4, h5⟩ := p4 0 b c hj
      simp only [List.getElem?_cons_zero, Option.some.injEq] at h1
      subst h1
      exact ⟨e', List.getElem?_set_self hk, cur, h2, h3, by rw [ha'] at h4 ⊢; simpa using h4, h5⟩
    · rename_i ej
      obtain ⟨e0, h1, h2⟩ := hsr j b c hj
      exact ⟨e0, by rw [List.getElem?_set_ne (fun h => ej h.symm)]; exact h1, h2.mono (heap ej hj) p2.fix hle⟩
  · try simp only at hj hj'
    split at hj <;> split at hj'
    · rename_i a b; rw [a, b]
    · rename_i a a'
      exfalso
      rcases old hj with ⟨c2, h1⟩ | h1
      · exact a' (hinj j' k b c' c2 hj' h1)
      · have := hlt hj'; omega
    · rename_i a a'
      exfalso
      rcases old hj' with ⟨c2, h1⟩ | h1
      · exact a (hinj j k b c c2 hj h1)
      · have := hlt hj; omega
    · exact hinj j j' b c c' hj hj'
  · try simp only at hj
    split at hj
    · rename_i ej
      subst ej
      rw [List.getElem?_set_self hk] at h2
      cases h2
      exact p6 0 b c i e' hj rfl h3
    · rename_i ej
      rw [List.getElem?_set_ne (fun h => ej h.symm)] at h2
      rcases p2.im b i h3 with h4 | h4 | ⟨j', c', h4⟩
      · exact hfz j b c i e0 hj h2 h4
      · have := hlt hj; omega
      · exact absurd (hinj j k b c c' hj (o0 h4).2) ej
  · try simp only at hj
    rw [List.length_set]
    split at hj
    · rename_i ej; omega
    · exact hdom j y hj
  · refine shift_rel (fun j y hj => ?_) x v p8
    obtain rfl := d0 hj
    simp only [Nat.add_zero, if_true]
    exact hj
end Go.Proofs.YtgbhoceamcomfaaGreat
namespace Go.Proofs.YtgbhoceamcomfaaGreat
open Go.RowKit
attribute [local irreducible] seqW awp thenW nextW blockW Weak updS deadS retL Pure Acts
set_option linter.unusedVariables false
set_option linter.unusedSimpArgs false
set_option maxRecDepth 4096
abbrev digB (l : List Nat) : Bk := ⟨l.map dig, 144, 1, true, false⟩
def Te : Par := ⟨fun f => f == 132, fun _ _ => none, fun k => k == 0⟩
theorem Te_ok : MethOk Tryz.prog Te := by intro t n f h; cases h
def Tf : Par := ⟨fun f => f == 132, fun _ _ => none, fun _ => false⟩
theorem Tf_ok : MethOk Tryz.prog Tf := by intro t n f h; cases h
theorem keepE {b : Bk} : ∀ k, k < [b].length → Te.keep k = true := fun k hk => by
  obtain rfl : k = 0 := by simpa using hk
  rfl
theorem keepE' : ∀ k, 1 ≤ k → Te.keep k = false := fun k hk => by show (k == 0) = false; simp; omega
theorem or_32 (x a : Nat) (hx : x < 4294967296) (ha : a < 4294967296) : (BitVec.ofInt 64 ((x : Int) * 2 ^ 32) ||| BitVec.ofInt 64 (a : Int)).toNat = x * 4294967296 + a := by
  have := or_add 32 a x (by decide) (by omega) (by omega)
  rw [show ((x : Int) * 2 ^ 32) = ((x * 2 ^ 32 : Nat) : Int) by omega]
  omega
theorem nat_bd {q : Nat} (h : q < 4294967296) : (0 : Int) ≤ (q : Int) ∧ (q : Int) ≤ 18446744073709551615 := by omega
theorem toN1 (a : Nat) : ((a : Int) - 1).toNat = a - 1 := by omega
theorem tdiv_n (a b : Nat) : Int.tdiv (a : Int) (b : Int) = ((a / b : Nat) : Int) := (Int.ofNat_tdiv a b).symm
theorem tmod_n (a b : Nat) : Int.tmod (a : Int) (b : Int) = ((a % b : Nat) : Int) := (Int.ofNat_tmod a b).symm
set_option maxHeartbeats 2000000 in
theorem divdig_c (l : List Nat) (n d : Nat) (wh : Bool) (hn : l.length = n) (hl : n ≤ 1000000) (hd : Digs l) (h0 : 0 < d) (h1 : d < 4294967296) : Acts Tryz.prog 132 [.osl 0 0 n n wh, .val (.int .u32 d)] [digB l] [] (.val (.int .u32 (nval l % d : Nat))) [digB (dgn n (nval l / d))] := by
  subst hn
  refine acts_of_awp Te_ok mixed Tryz.func132 rfl keepE ?_
  focus
    refine awp_seq (awp_region rfl ?_)
    refine st_end0 [] [] [] (True) [(4, D.val (Value.int IntKind.u32 (0 : Int)))] (by kernel_rfl) trivial ?_
    refine awp_seq (awp_region rfl ?_)
    refine st_end0 [] [] [] (True) [(5, D.val (Value.int IntKind.u64 (0 : Int)))] (by kernel_rfl) trivial ?_
    refine awp_seq (awp_seq (awp_region rfl ?_))
    refine st_end0 [] [] [7, 8, 9] (-9223372036854775808 ≤ (↑(List.length l) : Int) - (1 : Int) ∧ (↑(List.length l) : Int) - (1 : Int) ≤ 9223372036854775807) [(6, iD ((↑(List.length l) : Int) - (1 : Int)))] (by kernel_rfl) (by omega) ?_
    refine awp_block ?_
    rotate_left
  refine awp_loop3 (fun (k r : Nat) (cur : List Nat) => [D.osl 0 0 (List.length l) (List.length l) wh, dig d, U, U, D.val (Value.int IntKind.u32 (0 : Int)), D.val (Value.int IntKind.u64 (↑r : Int)), iD ((↑k : Int) - (1 : Int)), U, U, U, U, U, U, U, U, U, U, U, U, U, U, U, U, U, U, U, U, U, U, U, U, U, U, U, U, U]) (fun k r cur => [digB cur]) (fun k r cur => k) (fun k r cur => k ≤ l.length ∧ r < d ∧ cur.length = l.length ∧ Digs cur ∧ cur.take k = l.take k ∧ nval (cur.drop k) * d + r = nval (l.drop k)) l.length 0 l ?_ ?_ ?_
  · exact ⟨Nat.le_refl _, h0, rfl, hd, rfl, by simp [nval]⟩
  · refine weak_run [(0, 1), (1, 1), (4, 1), (5, 1), (6, 1)] (D.osl 0 0 (List.length l) (List.length l) wh = D.osl 0 0 (List.length l) (List.length l) wh ∧ dig d = dig d ∧ D.val (Value.int IntKind.u32 (0 : Int)) = D.val (Value.int IntKind.u32 (0 : Int)) ∧ D.val (Value.int IntKind.u64 (0 : Int)) = D.val (Value.int IntKind.u64 (↑(0 : Nat) : Int)) ∧ iD ((↑(List.length l) : Int) - (1 : Int)) = iD ((↑(List.length l) : Int) - (1 : Int))) 1 [] (by kernel_rfl) ⟨rfl, rfl, rfl, (by kernel_rfl), rfl⟩ (by kernel_rfl) ?_ (by kernel_rfl)
    exact keepE'
  rintro k r cur ⟨k1, k2, k3, k4, k5, k6⟩
  rcases Nat.eq_zero_or_pos k with hk | hk
  · subst hk
    obtain ⟨e1, e2⟩ := div_end k2 (show nval cur * d + r = nval l by simpa using k6)
    focus
      refine awp_seq (awp_seq (awp_region rfl ?_))
      refine st_end0 [] [] [10] (True) [(11, bD false)] (by kernel_rfl) trivial ?_
      refine cond_f (t := false) (by kernel_rfl) rfl ?_
      refine awp_exit (then_exit (then_exit (block_hit rfl (then_normal (next_same (awp_seq (awp_region rfl ?_)))))))
      refine st_end0 [] [] [0, 1, 5, 6, 11, 34, 35] ((0 : Int) ≤ (↑r : Int) ∧ (↑r : Int) ≤ (4294967295 : Int)) [(4, dig r)] (by kernel_rfl) (by omega) ?_
      refine awp_ret ?_
      refine ret_list (True) [dig r] (.inr rfl) (by kernel_rfl) trivial ?_
      rotate_left
    exact ⟨by rw [← e2]; rfl, by rw [← e1, ← k3, dgn_nval cur k4]⟩
  · have q1 := hd (k - 1)
    have q2 := div_dig_lt k2 q1
    obtain ⟨q3, q4, q5⟩ := div_step (A := l) (cur := cur) (k := k - 1) (r := r) (d := d) (by omega) k3 h0 (by rw [show k - 1 + 1 = k by omega]; exact k5) (by rw [show k - 1 + 1 = k by omega]; exact k6) k2
    focus
      refine awp_seq (awp_seq (awp_region rfl ?_))
      refine st_end0 [] [] [10] (True) [(11, bD (decide ((↑k : Int) - (1 : Int) ≥ (0 : Int))))] (by kernel_rfl) trivial ?_
      refine cond_t (t := decide ((↑k : Int) - (1 : Int) ≥ (0 : Int))) (by kernel_rfl) (by exact decide_eq_true (by omega)) ?_
      refine awp_skip (then_normal (next_same (awp_seq (awp_block (awp_seq (awp_region rfl ?_))))))
      refine st_run0 2 [] [] ((0 : Int) ≤ (32 : Int)) [(14, D.val (Value.int IntKind.u64 (↑r : Int))), (15, D.val (Value.int IntKind.u64 (IntKind.wrap IntKind.u64 ((↑r : Int) * (2 : Int) ^ 32))))] (by kernel_rfl) (by omega) ?_
      refine st_slot 15 (D.val (Value.int IntKind.u64 (IntKind.wrap IntKind.u64 ((↑r : Int) * (2 : Int) ^ 32)))) (D.val (Value.int IntKind.u64 ((↑r : Int) * (2 : Int) ^ 32))) (by kernel_rfl) (by simp (disch := omega) only [wrap_u64]) (by kernel_rfl) ?_
      refine st_run0 3 [] [] ((0 : Int) ≤ (↑k : Int) - (1 : Int) ∧ (↑k : Int) - (1 : Int) < (↑(List.length l) : Int)) [(16, D.osl 0 0 (List.length l) (List.length l) wh), (17, iD ((↑k : Int) - (1 : Int))), (18, D.own 0 (0 + Int.toNat ((↑k : Int) - (1 : Int)) * 1))] (by kernel_rfl) (by omega) ?_
      refine st_slot 18 (D.own 0 (0 + Int.toNat ((↑k : Int) - (1 : Int)) * 1)) (D.own 0 (k - 1)) (by kernel_rfl) (by simp (disch := omega) only [toN1, Nat.mul_one, Nat.zero_add]) (by kernel_rfl) ?_
      refine st_run0 1 [] [] (0 < List.length (List.drop (k - 1) (Bk.cells (digB cur)))) [(19, List.headD (List.drop (k - 1) (Bk.cells (digB cur))) U)] (by kernel_rfl) (by (simp; omega)) ?_
      refine st_slot 19 (List.headD (List.drop (k - 1) (Bk.cells (digB cur))) U) (dig (List.getD l (k - 1) 0)) (by kernel_rfl) (by simp (disch := omega) only [headD_dig, q3]) (by kernel_rfl) ?_
      refine st_run0 2 [] [] (((0 : Int) ≤ (↑(List.getD l (k - 1) 0) : Int) ∧ (↑(List.getD l (k - 1) 0) : Int) ≤ (18446744073709551615 : Int)) ∧ True) [(20, D.val (Value.int IntKind.u64 (↑(List.getD l (k - 1) 0) : Int))), (21, D.val (Value.int IntKind.u64 (IntKind.wrap IntKind.u64 (↑(BitVec.toNat (BitVec.ofInt 64 ((↑r : Int) * (2 : Int) ^ 32) ||| BitVec.ofInt 64 (↑(List.getD l (k - 1) 0) : Int))) : Int))))] (by kernel_rfl) ⟨(by omega), trivial⟩ ?_
      refine st_slot 21 (D.val (Value.int IntKind.u64 (IntKind.wrap IntKind.u64 (↑(BitVec.toNat (BitVec.ofInt 64 ((↑r : Int) * (2 : Int) ^ 32) ||| BitVec.ofInt 64 (↑(List.getD l (k - 1) 0) : Int))) : Int)))) (D.val (Value.int IntKind.u64 (↑(r * 4294967296 + List.getD l (k - 1) 0) : Int))) (by kernel_rfl) (by simp (disch := omega) only [or_32, wrap_u64]) (by kernel_rfl) ?_
      refine st_end0 [] [] [11, 14, 15, 16, 17, 18, 19, 20, 21] (True) [(5, D.val (Value.int IntKind.u64 (↑(r * 4294967296 + List.getD l (k - 1) 0) : Int)))] (by kernel_rfl) trivial ?_
      refine awp_seq (awp_region rfl ?_)
      refine st_run0 6 [] [] (((0 : Int) ≤ (↑d : Int) ∧ (↑d : Int) ≤ (18446744073709551615 : Int)) ∧ (↑d : Int) ≠ (0 : Int) ∧ (0 : Int) ≤ Int.tdiv (↑(r * 4294967296 + List.getD l (k - 1) 0) : Int) (↑d : Int) ∧ Int.tdiv (↑(r * 4294967296 + List.getD l (k - 1) 0) : Int) (↑d : Int) ≤ (18446744073709551615 : Int)) [(22, D.osl 0 0 (List.length l) (List.length l) wh), (23, iD ((↑k : Int) - (1 : Int))), (24, D.val (Value.int IntKind.u64 (↑(r * 4294967296 + List.getD l (k - 1) 0) : Int))), (25, dig d), (26, D.val (Value.int IntKind.u64 (↑d : Int))), (27, D.val (Value.int IntKind.u64 (Int.tdiv (↑(r * 4294967296 + List.getD l (k - 1) 0) : Int) (↑d : Int))))] (by kernel_rfl) ⟨(by omega), ?_⟩ ?_
      rotate_left
      refine st_slot 27 (D.val (Value.int IntKind.u64 (Int.tdiv (↑(r * 4294967296 + List.getD l (k - 1) 0) : Int) (↑d : Int)))) (D.val (Value.int IntKind.u64 (↑((r * 4294967296 + List.getD l (k - 1) 0) / d) : Int))) (by kernel_rfl) (by simp (disch := omega) only [tdiv_n]) (by kernel_rfl) ?_
      refine st_run0 1 [28] [] (True) [(28, D.val (Value.int IntKind.u32 (IntKind.wrap IntKind.u32 (↑((r * 4294967296 + List.getD l (k - 1) 0) / d) : Int))))] (by kernel_rfl) trivial ?_
      refine st_slot 28 (D.val (Value.int IntKind.u32 (IntKind.wrap IntKind.u32 (↑((r * 4294967296 + List.getD l (k - 1) 0) / d) : Int)))) (dig ((r * 4294967296 + List.getD l (k - 1) 0) / d % 4294967296)) (by kernel_rfl) (by simp (disch := omega) only [wrap_u32_cast]) (by kernel_rfl) ?_
      refine st_run0 1 [] [] ((0 : Int) ≤ (↑k : Int) - (1 : Int) ∧ (↑k : Int) - (1 : Int) < (↑(List.length l) : Int)) [(29, D.own 0 (0 + Int.toNat ((↑k : Int) - (1 : Int)) * 1))] (by kernel_rfl) (by omega) ?_
      refine st_slot 29 (D.own 0 (0 + Int.toNat ((↑k : Int) - (1 : Int)) * 1)) (D.own 0 (k - 1)) (by kernel_rfl) (by simp (disch := omega) only [toN1, Nat.mul_one, Nat.zero_add]) (by kernel_rfl) ?_
      refine st_run 1 [] [] (Bk.fz (digB cur) = false ∧ true = true ∧ 1 = 1 ∧ k - 1 + 1 ≤ List.length (Bk.cells (digB cur)) ∧ ¬0 ∈ []) [] [Bk.mk (setAt (Bk.cells (digB cur)) (k - 1) (cellsOf (dig ((r * 4294967296 + List.getD l (k - 1) 0) / d % 4294967296)))) (Bk.ty (digB cur)) (Bk.sz (digB cur)) (Bk.arr (digB cur)) (Bk.fz (digB cur))] (by kernel_rfl) ⟨(by kernel_rfl), ⟨(by kernel_rfl), ⟨(by kernel_rfl), ⟨(by (simp; omega)), (by decide)⟩⟩⟩⟩ ?_
      refine st_blk 0 (Bk.mk (setAt (Bk.cells (digB cur)) (k - 1) (cellsOf (dig ((r * 4294967296 + List.getD l (k - 1) 0) / d % 4294967296)))) (Bk.ty (digB cur)) (Bk.sz (digB cur)) (Bk.arr (digB cur)) (Bk.fz (digB cur))) (Bk.mk (List.map dig (List.set cur (k - 1) ((r * 4294967296 + List.getD l (k - 1) 0) / d % 4294967296))) (144 : TypeId) 1 true false) (by kernel_rfl) (by simp (disch := omega) only [cellsOf, setAt, set_dig]) ?_
      refine st_end0 [] [] [22, 23, 24, 25, 26, 27, 28, 29] (True) [] (by kernel_rfl) trivial ?_
      refine awp_region rfl ?_
      refine st_run0 4 [] [] (((0 : Int) ≤ (↑d : Int) ∧ (↑d : Int) ≤ (18446744073709551615 : Int)) ∧ (↑d : Int) ≠ (0 : Int)) [(30, D.val (Value.int IntKind.u64 (↑(r * 4294967296 + List.getD l (k - 1) 0) : Int))), (31, dig d), (32, D.val (Value.int IntKind.u64 (↑d : Int))), (33, D.val (Value.int IntKind.u64 (Int.tmod (↑(r * 4294967296 + List.getD l (k - 1) 0) : Int) (↑d : Int))))] (by kernel_rfl) (by omega) ?_
      refine st_slot 33 (D.val (Value.int IntKind.u64 (Int.tmod (↑(r * 4294967296 + List.getD l (k - 1) 0) : Int) (↑d : Int)))) (D.val (Value.int IntKind.u64 (↑((r * 4294967296 + List.getD l (k - 1) 0) % d) : Int))) (by kernel_rfl) (by simp (disch := omega) only [tmod_n]) (by kernel_rfl) ?_
      refine st_run0 1 [] [] (True) [(5, D.val (Value.int IntKind.u64 (↑((r * 4294967296 + List.getD l (k - 1) 0) % d) : Int)))] (by kernel_rfl) trivial ?_
      refine st_nil ?_ (by kernel_rfl)
      refine block_normal (then_normal (next_same (awp_region rfl ?_)))
      refine st_run0 3 [] [] (-9223372036854775808 ≤ (↑k : Int) - (1 : Int) - (1 : Int) ∧ (↑k : Int) - (1 : Int) - (1 : Int) ≤ 9223372036854775807) [(6, iD ((↑k : Int) - (1 : Int) - (1 : Int))), (12, iD ((↑k : Int) - (1 : Int))), (13, iD ((↑k : Int) - (1 : Int) - (1 : Int)))] (by kernel_rfl) (by omega) ?_
      refine st_nil ?_ (by kernel_rfl)
      refine then_normal ?_
      rotate_left
    · have q6 : (0 : Int) ≤ ((r * 4294967296 + l.getD (k - 1) 0 : Nat) : Int).tdiv (d : Int) ∧ ((r * 4294967296 + l.getD (k - 1) 0 : Nat) : Int).tdiv (d : Int) ≤ 18446744073709551615 := by
        rw [tdiv_n]; exact nat_bd q2
      exact ⟨by omega, q6.1, q6.2⟩
    refine ⟨k - 1, (r * 4294967296 + l.getD (k - 1) 0) % d, cur.set (k - 1) ((r * 4294967296 + l.getD (k - 1) 0) / d), ⟨by omega, Nat.mod_lt _ h0, by simpa using k3, k4.set _ _ (by omega) q2, q4, q5⟩, by omega, ?_⟩
    rw [Nat.mod_eq_of_lt q2]
    refine weak_run [(0, 1), (1, 1), (4, 1), (5, 1), (6, 1)] (D.osl 0 0 (List.length l) (List.length l) wh = D.osl 0 0 (List.length l) (List.length l) wh ∧ dig d = dig d ∧ D.val (Value.int IntKind.u32 (0 : Int)) = D.val (Value.int IntKind.u32 (0 : Int)) ∧ D.val (Value.int IntKind.u64 (↑((r * 4294967296 + List.getD l (k - 1) 0) % d) : Int)) = D.val (Value.int IntKind.u64 (↑((r * 4294967296 + List.getD l (k - 1) 0) % d) : Int)) ∧ iD ((↑k : Int) - (1 : Int) - (1 : Int)) = iD ((↑(k - 1) : Int) - (1 : Int))) 1 [] (by kernel_rfl) ⟨rfl, rfl, rfl, rfl, (by (simp; omega))⟩ (by kernel_rfl) ?_ (by kernel_rfl)
    exact keepE'
set_option maxHeartbeats 1000000 in
theorem divmod_c (a b : Nat) (la : (dg a).length ≤ 100000) (h0 : 0 < b) (h1 : b < 4294967296) : Pure Tryz.prog 119 [natD a, natD b] [] (.tup [natD (a / b), natD (a % b), iD 0]) := by
  have eb := dg_one b (by omega) h1
  have lb : (dg b).length = 1 := by rw [eb]; rfl
  have gb : (List.map dig (dg b)).headD D.unk = dig b := by rw [eb]; rfl
  have z0 : natD 0 = .row [] 0 := by simp [natD, dg]
  have na := nval_dg a
  have nb' := nval_dg b
  have hm : a % b < 4294967296 := Nat.lt_trans (Nat.mod_lt _ h0) h1
  have hq : a / b ≤ a := Nat.div_le_self _ _
  have hv := nval_lt (dg a) (digs_dg a)
  have hn := nval_dgn (dg a).length (a / b) (by omega)
  have hl := dgn_len (dg a).length (a / b)
  have hd := dgn_digs (dg a).length (a / b)
  have tk : List.take (dg a).length (List.map dig (dgn (dg a).length (a / b))) = List.map dig (dgn (dg a).length (a / b)) := List.take_of_length_le (by rw [List.length_map, hl]; exact Nat.le_refl _)
  have c1 := trim_c (dg a) _ rfl (by omega) (digs_dg _)
  have c2 := trim_c (dg b) _ rfl (by omega) (digs_dg _)
  have c3 := cmp_c (dg a) (dg b) _ _ rfl rfl (by omega) (by omega) (digs_dg _) (digs_dg _)
  rw [na] at c1 c3
  rw [nb'] at c2 c3
  by_cases hab : a < b
  · have e1 : a / b = 0 := Nat.div_eq_of_lt hab
    have e2 : a % b = a := Nat.mod_eq_of_lt hab
    have hc : cmpD (a : Nat) (b : Nat) = -1 := by unfold cmpD; rw [if_pos (by omega)]
    rw [hc] at c3
    rw [e1, e2]
    refine pure_of_awp Tf_ok mixed Tryz.func119 rfl ?_
    focus
      refine awp_seq (awp_region rfl ?_)
      refine st_end0 [] [] [] (True) [(4, nl), (5, nl), (6, iD 0)] (by kernel_rfl) trivial ?_
      refine awp_seq (awp_region rfl ?_)
      refine st_run0 1 [] [] (True) [(11, natD a)] (by kernel_rfl) trivial ?_
      refine st_callr [natD a] (by kernel_rfl) (by exact c1) ?_
      refine st_run0 1 [] [] (True) [(13, natD b)] (by kernel_rfl) trivial ?_
      refine st_callr [natD b] (by kernel_rfl) (by exact c2) ?_
      refine st_end0 [] [] [11, 12, 13, 14] (True) [(0, natD a), (1, natD b)] (by kernel_rfl) trivial ?_
      refine awp_seq (awp_seq (awp_region rfl ?_))
      refine st_end0 [] [] [15, 16] (True) [(17, bD ((↑(List.length (dg b)) : Int) == (0 : Int)))] (by kernel_rfl) trivial ?_
      refine cond_f (t := (↑(List.length (dg b)) : Int) == (0 : Int)) (by kernel_rfl) (by exact decide_eq_false (by omega)) ?_
      refine awp_skip (then_normal (next_same (awp_seq (awp_seq (awp_region rfl ?_)))))
      refine st_run0 2 [] [] (True) [(18, natD a), (19, natD b)] (by kernel_rfl) trivial ?_
      refine st_callr [natD a, natD b] (by kernel_rfl) (by exact c3) ?_
      refine st_end0 [] [] [17, 18, 19, 20] (True) [(21, bD true)] (by kernel_rfl) trivial ?_
      refine cond_t (t := true) (by kernel_rfl) rfl ?_
      refine awp_seq (awp_region rfl ?_)
      refine st_run0 1 [] [] (True) [(22, natD a)] (by kernel_rfl) trivial ?_
      refine st_callr [natD a] (by kernel_rfl) (by exact clone_nat ((dg a).map dig) _ (by simp) (by omega)) ?_
      refine st_end0 [] [] [21, 22, 23] (True) [(5, natD a)] (by kernel_rfl) trivial ?_
      refine awp_ret (then_ret ?_)
      refine ret_run (True) (D.tup [D.row [] 0, natD a, iD 0]) (D.tup [D.row [] 0, natD a, D.val (Value.int IntKind.i64 (0 : Int))]) (.inr rfl) (by kernel_rfl) trivial rfl ?_
      rotate_left
    rw [z0]
  · have hc : cmpD (a : Nat) (b : Nat) = 0 ∨ cmpD (a : Nat) (b : Nat) = 1 := by
      unfold cmpD; rw [if_neg (by omega)]; split <;> simp
    have c4 := divdig_c (dg a) (dg a).length b true rfl (by omega) (digs_dg _) h0 h1
    rw [na] at c4
    generalize cmpD (a : Nat) (b : Nat) = cc at *
    refine pure_of_awp Tf_ok mixed Tryz.func119 rfl ?_
    focus
      refine awp_seq (awp_region rfl ?_)
      refine st_end0 [] [] [] (True) [(4, nl), (5, nl), (6, iD 0)] (by kernel_rfl) trivial ?_
      refine awp_seq (awp_region rfl ?_)
      refine st_run0 1 [] [] (True) [(11, natD a)] (by kernel_rfl) trivial ?_
      refine st_callr [natD a] (by kernel_rfl) (by exact c1) ?_
      refine st_run0 1 [] [] (True) [(13, natD b)] (by kernel_rfl) trivial ?_
      refine st_callr [natD b] (by kernel_rfl) (by exact c2) ?_
      refine st_end0 [] [] [11, 12, 13, 14] (True) [(0, natD a), (1, natD b)] (by kernel_rfl) trivial ?_
      refine awp_seq (awp_seq (awp_region rfl ?_))
      refine st_end0 [] [] [15, 16] (True) [(17, bD ((↑(List.length (dg b)) : Int) == (0 : Int)))] (by kernel_rfl) trivial ?_
      refine cond_f (t := (↑(List.length (dg b)) : Int) == (0 : Int)) (by kernel_rfl) (by exact decide_eq_false (by omega)) ?_
      refine awp_skip (then_normal (next_same (awp_seq (awp_seq (awp_region rfl ?_)))))
      refine st_run0 2 [] [] (True) [(18, natD a), (19, natD b)] (by kernel_rfl) trivial ?_
      refine st_callr [natD a, natD b] (by kernel_rfl) (by exact c3) ?_
      refine st_end0 [] [] [17, 18, 19, 20] (True) [(21, bD (decide (cc < 0)))] (by kernel_rfl) trivial ?_
      refine cond_f (t := decide (cc < 0)) (by kernel_rfl) (by exact decide_eq_false (by omega)) ?_
      refine awp_skip (then_normal (next_same (awp_seq (awp_seq (awp_region rfl ?_)))))
      refine st_end0 [] [] [21, 24, 25] (True) [(26, bD ((↑(List.length (dg b)) : Int) == (1 : Int)))] (by kernel_rfl) trivial ?_
      refine cond_t (t := (↑(List.length (dg b)) : Int) == (1 : Int)) (by kernel_rfl) (by exact decide_eq_true (by omega)) ?_
      refine awp_seq (awp_region rfl ?_)
      refine st_run0 1 [] [] (True) [(27, natD a)] (by kernel_rfl) trivial ?_
      refine st_callN [] [] [natD a] [] [natD a] (by kernel_rfl) trivial (LeL.refl _) (by exact cloneO_nat ((dg a).map dig) _ (by simp) (by omega)) ?_
      refine st_run0 1 [] [] (True) [(7, D.osl 0 0 (List.length (dg a)) (List.length (dg a) * 1) true)] (by kernel_rfl) trivial ?_
      refine st_slot 7 (D.osl 0 0 (List.length (dg a)) (List.length (dg a) * 1) true) (D.osl 0 0 (List.length (dg a)) (List.length (dg a)) true) (by kernel_rfl) (by simp (disch := omega) only [Nat.mul_one]) (by kernel_rfl) ?_
      refine st_end0 [] [] [26, 27, 28] (True) [] (by kernel_rfl) trivial ?_
      refine awp_seq (awp_region rfl ?_)
      refine st_run0 3 [] [] ((0 : Int) ≤ (0 : Int) ∧ (0 : Int) < (↑(List.length (dg b)) : Int) ∧ List.map dig (dg b) ≠ []) [(29, D.osl 0 0 (List.length (dg a)) (List.length (dg a)) true), (30, natD b), (31, D.ptr (List.drop 0 (List.map dig (dg b))))] (by kernel_rfl) ⟨(by omega), ⟨(by omega), (by exact map_ne (by omega))⟩⟩ ?_
      refine st_slot 31 (D.ptr (List.drop 0 (List.map dig (dg b)))) (D.ptr (List.map dig (dg b))) (by kernel_rfl) (by simp (disch := omega) only [List.drop_zero]) (by kernel_rfl) ?_
      refine st_run0 1 [] [] (0 < List.length (List.map dig (dg b))) [(32, List.headD (List.map dig (dg b)) U)] (by kernel_rfl) (by (simp; omega)) ?_
      refine st_slot 32 (List.headD (List.map dig (dg b)) U) (dig b) (by kernel_rfl) (by simp (disch := omega) only [gb]) (by kernel_rfl) ?_
      refine st_act [] [] [D.osl 0 0 (List.length (dg a)) (List.length (dg a)) true, dig b] [D.osl 0 0 (List.length (dg a)) (List.length (dg a)) true, dig b] (by kernel_rfl) trivial (LeL.refl _) (by exact c4) ?_
      refine st_end0 [] [] [29, 30, 31, 32, 33] (True) [(8, dig (a % b))] (by kernel_rfl) trivial ?_
      refine awp_seq (awp_region rfl ?_)
      refine st_run0 1 [] [] (True) [(34, D.osl 0 0 (List.length (dg a)) (List.length (dg a)) true)] (by kernel_rfl) trivial ?_
      refine st_call [] [] [D.row (List.take (List.length (dg a)) (List.drop 0 (List.map dig (dgn (List.length (dg a)) (a / b))))) (List.length (dg a))] [Bk.mk (List.map dig (dgn (List.length (dg a)) (a / b))) 144 1 true true] [D.row (List.map dig (dgn (List.length (dg a)) (a / b))) (List.length (dg a))] (by kernel_rfl) trivial (LeL.of_eq (by simp (disch := omega) only [List.drop_zero, tk])) (by exact trim_c (dgn (dg a).length (a / b)) _ hl (by omega) hd) ?_
      refine st_run0 2 [] [] ((0 : Int) ≤ (↑(a % b) : Int) ∧ (↑(a % b) : Int) ≤ (18446744073709551615 : Int)) [(36, dig (a % b)), (37, D.val (Value.int IntKind.u64 (↑(a % b) : Int)))] (by kernel_rfl) (by omega) ?_
      refine st_callr [D.val (Value.int IntKind.u64 (↑(a % b) : Int))] (by kernel_rfl) (by exact of_c (a % b) (by omega)) ?_
      refine st_run0 1 [] [] (True) [(4, natD (nval (dgn (List.length (dg a)) (a / b))))] (by kernel_rfl) trivial ?_
      refine st_slot 4 (natD (nval (dgn (List.length (dg a)) (a / b)))) (natD (a / b)) (by kernel_rfl) (by simp (disch := omega) only [hn]) (by kernel_rfl) ?_
      refine st_end0 [] [] [7, 8, 34, 35, 36, 37, 38] (True) [(5, natD (a % b))] (by kernel_rfl) trivial ?_
      refine awp_ret (then_ret ?_)
      refine ret_run (True) (D.tup [natD (a / b), natD (a % b), iD 0]) (D.tup [natD (a / b), natD (a % b), D.val (Value.int IntKind.i64 (0 : Int))]) (.inr rfl) (by kernel_rfl) trivial rfl rfl
end Go.Proofs.YtgbhoceamcomfaaGreat
namespace Go.Proofs.YtgbhoceamcomfaaGreat
open Go.RowKit
attribute [local irreducible] seqW awp thenW nextW blockW Weak updS deadS retL Pure Acts
set_option linter.unusedVariables false
set_option linter.unusedSimpArgs false
set_option maxRecDepth 4096
theorem or_0 (n x : Nat) (hn : n = 0) (hx : x < 4294967296) : (BitVec.ofInt 64 (n : Int) ||| BitVec.ofInt 64 (x : Int)).toNat = x := by
  subst hn
  rw [BitVec.ofInt_natCast, BitVec.ofInt_natCast, BitVec.toNat_or, BitVec.toNat_ofNat, BitVec.toNat_ofNat]
  simp; omega
theorem or_0' (x : Nat) (hx : x < 4294967296) : (BitVec.ofInt 64 ((0 : Nat) : Int) ||| BitVec.ofInt 64 ((x : Int) * 2 ^ 0)).toNat = x := by
  rw [show ((x : Int) * 2 ^ 0) = (x : Int) by omega]
  exact or_0 0 x rfl hx
theorem or_1 (n x : Nat) (hn : n < 4294967296) (hx : x < 4294967296) : (BitVec.ofInt 64 (n : Int) ||| BitVec.ofInt 64 ((x : Int) * 2 ^ 32)).toNat = n + 4294967296 * x := by
  have := or_add' 32 n x (by decide) (by omega) (by omega)
  rw [show ((x : Int) * 2 ^ 32) = ((x * 2 ^ 32 : Nat) : Int) by omega]
  omega
theorem val_two {a : List Nat} (ha : Digs a) (h : a.length ≤ 2) : nval a < 18446744073709551616 := by
  have := nval_lt a ha
  have h2 : (4294967296 : Nat) ^ a.length ≤ 4294967296 ^ 2 := Nat.pow_le_pow_right (by decide) h
  omega
theorem val_three {n : Nat} (h : 2 < (dg n).length) : 18446744073709551616 ≤ n := by
  have := (normal_dg n).ge (fun e => by rw [e] at h; simp at h)
  rw [nval_dg] at this
  have h2 : (4294967296 : Nat) ^ 2 ≤ 4294967296 ^ ((dg n).length - 1) := Nat.pow_le_pow_right (by decide) (by omega)
  omega
set_option maxHeartbeats 1000000 in
theorem u64_c (v : Nat) (hl : (dg v).length ≤ 100000) : Pure Tryz.prog 131 [natD v] [] (.tup [.val (.int .u64 (if v < 18446744073709551616 then v else 0 : Nat)), bD (decide (v < 18446744073709551616))]) := by
  have c1 := trim_c (dg v) _ rfl (by omega) (digs_dg _)
  rw [nval_dg] at c1
  have e3 := @val_three v
  have e2 := @val_two (dg v) (digs_dg v)
  have ev := nval_dg v
  have dA := digs_dg v
  rw [ev] at e2
  refine pure_of_awp Tz_ok mixed Tryz.func131 rfl ?_
  focus
    refine awp_seq (awp_region rfl ?_)
    refine st_end0 [] [] [] (True) [(2, D.val (Value.int IntKind.u64 (0 : Int))), (3, bD false)] (by kernel_rfl) trivial ?_
    refine awp_seq (awp_region rfl ?_)
    refine st_run0 1 [] [] (True) [(6, natD v)] (by kernel_rfl) trivial ?_
    refine st_callr [natD v] (by kernel_rfl) (by exact c1) ?_
    refine st_end0 [] [] [6, 7] (True) [(0, natD v)] (by kernel_rfl) trivial ?_
    refine awp_seq (awp_seq (awp_region rfl ?_))
    refine st_end0 [] [] [8, 9] (True) [(10, bD (decide ((↑(List.length (dg v)) : Int) > (2 : Int))))] (by kernel_rfl) trivial ?_
    refine awp_cond (t := decide ((↑(List.length (dg v)) : Int) > (2 : Int))) (by kernel_rfl) (fun hc => ?_) (fun hc => ?_)
    simp only [decide_eq_true_eq] at hc
    refine awp_seq (awp_region rfl ?_)
    refine st_end0 [] [] [10] (True) [] (by kernel_rfl) trivial ?_
    refine awp_ret (then_ret ?_)
    refine ret_run (True) (D.tup [D.val (Value.int IntKind.u64 (0 : Int)), bD false]) (D.tup [D.val (Value.int IntKind.u64 (0 : Int)), D.val (Value.bool false)]) (.inr rfl) (by kernel_rfl) trivial rfl ?_
    rotate_left
    simp only [decide_eq_false_iff_not] at hc
    refine awp_skip (then_normal (next_same (awp_seq (awp_region rfl ?_))))
    refine st_end0 [] [] [10] (True) [(4, D.val (Value.int IntKind.u64 (0 : Int)))] (by kernel_rfl) trivial ?_
    refine awp_seq (awp_seq (awp_region rfl ?_))
    refine st_end0 [] [] [11] (True) [(12, iD (↑(List.length (dg v)) : Int)), (13, iD 0)] (by kernel_rfl) trivial ?_
    refine awp_block ?_
    rotate_left
  · have h := e3 (by omega)
    rw [if_neg (by omega), decide_eq_false (by omega)]; rfl
  · rw [if_pos (e2 (by omega)), decide_eq_true (e2 (by omega))]
    clear c1 e3 e2
    generalize dg v = A at *
    refine awp_loop1 (fun (i : Nat) => [digR A, U, D.val (Value.int IntKind.u64 (0 : Int)), bD false, D.val (Value.int IntKind.u64 (↑(nval (List.take i A)) : Int)), U, U, U, U, U, U, U, iD (↑(List.length A) : Int), iD (↑i : Int), U, U, U, U, U, U, U, U, U, U, U, U, U, U]) (fun i => []) (fun i => A.length - i) (fun i => i ≤ A.length) 0 ?_ ?_ ?_
    · omega
    · refine weak_run [(0, 1), (2, 1), (3, 1), (4, 1), (12, 1), (13, 1)] (digR A = digR A ∧ D.val (Value.int IntKind.u64 (0 : Int)) = D.val (Value.int IntKind.u64 (0 : Int)) ∧ bD false = bD false ∧ D.val (Value.int IntKind.u64 (0 : Int)) = D.val (Value.int IntKind.u64 (↑(nval (List.take 0 A)) : Int)) ∧ iD (↑(List.length A) : Int) = iD (↑(List.length A) : Int) ∧ iD 0 = iD (↑(0 : Nat) : Int)) 0 [] (by kernel_rfl) ⟨rfl, rfl, rfl, (by kernel_rfl), rfl, (by kernel_rfl)⟩ (by kernel_rfl) (fun _ _ => rfl) (by kernel_rfl)
    rintro i h1
    have hx := dA i
    rcases Nat.lt_or_ge i A.length with hi | hi
    · have sn := nval_take_succ A i
      obtain rfl | rfl : i = 0 ∨ i = 1 := by omega
      · have n0 : nval (A.take 0) = 0 := by simp [nval]
        have g0 : (List.map dig A).headD D.unk = dig (A.getD 0 0) := headD_dig A 0 hi
        have m1 : nval (A.take 1) = A.getD 0 0 := by rw [sn, n0]; simp
        rw [n0]
        focus
          refine awp_seq (awp_region rfl ?_)
          refine st_end0 [] [] [] (True) [(14, bD (decide ((↑(0 : Nat) : Int) < (↑(List.length A) : Int))))] (by kernel_rfl) trivial ?_
          refine awp_seq ?_
          refine cond_t (t := decide ((↑(0 : Nat) : Int) < (↑(List.length A) : Int))) (by kernel_rfl) (by exact decide_eq_true (by omega)) ?_
          refine awp_skip (then_normal (next_same (awp_seq (awp_block (awp_seq (awp_region rfl ?_))))))
          refine st_end0 [] [] [14, 15] (True) [(5, iD (↑(0 : Nat) : Int))] (by kernel_rfl) trivial ?_
          refine awp_region rfl ?_
          refine st_run0 4 [] [] ((0 : Int) ≤ (↑(0 : Nat) : Int) ∧ (↑(0 : Nat) : Int) < (↑(List.length A) : Int) ∧ List.map dig A ≠ []) [(16, D.val (Value.int IntKind.u64 (↑(0 : Nat) : Int))), (17, digR A), (18, iD (↑(0 : Nat) : Int)), (19, D.ptr (List.drop 0 (List.map dig A)))] (by kernel_rfl) ⟨(by omega), ⟨(by omega), (by exact map_ne (by omega))⟩⟩ ?_
          refine st_slot 19 (D.ptr (List.drop 0 (List.map dig A))) (D.ptr (List.map dig A)) (by kernel_rfl) (by simp (disch := omega) only [List.drop_zero]) (by kernel_rfl) ?_
          refine st_run0 1 [] [] (0 < List.length (List.map dig A)) [(20, List.headD (List.map dig A) U)] (by kernel_rfl) (by (simp; omega)) ?_
          refine st_slot 20 (List.headD (List.map dig A) U) (dig (List.getD A 0 0)) (by kernel_rfl) (by simp (disch := omega) only [g0]) (by kernel_rfl) ?_
          refine st_run0 4 [] [] (((0 : Int) ≤ (↑(List.getD A 0 0) : Int) ∧ (↑(List.getD A 0 0) : Int) ≤ (18446744073709551615 : Int)) ∧ (-9223372036854775808 ≤ (32 : Int) * (↑(0 : Nat) : Int) ∧ (32 : Int) * (↑(0 : Nat) : Int) ≤ 9223372036854775807) ∧ (0 : Int) ≤ (32 : Int) * (↑(0 : Nat) : Int)) [(21, D.val (Value.int IntKind.u64 (↑(List.getD A 0 0) : Int))), (22, iD (↑(0 : Nat) : Int)), (23, iD ((32 : Int) * (↑(0 : Nat) : Int))), (24, D.val (Value.int IntKind.u64 (IntKind.wrap IntKind.u64 ((↑(List.getD A 0 0) : Int) * (2 : Int) ^ 0))))] (by kernel_rfl) (by omega) ?_
          refine st_slot 24 (D.val (Value.int IntKind.u64 (IntKind.wrap IntKind.u64 ((↑(List.getD A 0 0) : Int) * (2 : Int) ^ 0)))) (D.val (Value.int IntKind.u64 ((↑(List.getD A 0 0) : Int) * (2 : Int) ^ 0))) (by kernel_rfl) (by simp (disch := omega) only [wrap_u64]) (by kernel_rfl) ?_
          refine st_run0 1 [] [] (True) [(25, D.val (Value.int IntKind.u64 (IntKind.wrap IntKind.u64 (↑(BitVec.toNat (BitVec.ofInt 64 (↑(0 : Nat) : Int) ||| BitVec.ofInt 64 ((↑(List.getD A 0 0) : Int) * (2 : Int) ^ 0))) : Int))))] (by kernel_rfl) trivial ?_
          refine st_slot 25 (D.val (Value.int IntKind.u64 (IntKind.wrap IntKind.u64 (↑(BitVec.toNat (BitVec.ofInt 64 (↑(0 : Nat) : Int) ||| BitVec.ofInt 64 ((↑(List.getD A 0 0) : Int) * (2 : Int) ^ 0))) : Int)))) (D.val (Value.int IntKind.u64 (↑(BitVec.toNat (BitVec.ofInt 64 (↑(0 : Nat) : Int) ||| BitVec.ofInt 64 ((↑(List.getD A 0 0) : Int) * (2 : Int) ^ 0))) : Int))) (by kernel_rfl) (by simp (disch := omega) only [wrap_u64]) (by kernel_rfl) ?_
          refine st_run0 1 [] [] (True) [(4, D.val (Value.int IntKind.u64 (↑(BitVec.toNat (BitVec.ofInt 64 (↑(0 : Nat) : Int) ||| BitVec.ofInt 64 ((↑(List.getD A 0 0) : Int) * (2 : Int) ^ 0))) : Int)))] (by kernel_rfl) trivial ?_
          refine st_nil ?_ (by kernel_rfl)
          refine block_normal (then_normal (next_same (awp_region rfl ?_)))
          refine st_run0 2 [] [] (-9223372036854775808 ≤ (↑(0 : Nat) : Int) + (1 : Int) ∧ (↑(0 : Nat) : Int) + (1 : Int) ≤ 9223372036854775807) [(13, iD ((↑(0 : Nat) : Int) + (1 : Int))), (26, iD ((↑(0 : Nat) : Int) + (1 : Int)))] (by kernel_rfl) (by omega) ?_
          refine st_nil ?_ (by kernel_rfl)
          refine then_normal ?_
          rotate_left
        refine ⟨1, by omega, by omega, ?_⟩
        rw [m1, ← or_0' _ (dA 0)]
        refine weak_run [(0, 1), (2, 1), (3, 1), (4, 1), (12, 1), (13, 1)] (digR A = digR A ∧ D.val (Value.int IntKind.u64 (0 : Int)) = D.val (Value.int IntKind.u64 (0 : Int)) ∧ bD false = bD false ∧ D.val (Value.int IntKind.u64 (↑(BitVec.toNat (BitVec.ofInt 64 (↑(0 : Nat) : Int) ||| BitVec.ofInt 64 ((↑(BitVec.toNat (BitVec.ofInt 64 (↑(0 : Nat) : Int) ||| BitVec.ofInt 64 ((↑(List.getD A 0 0) : Int) * (2 : Int) ^ 0))) : Int) * (2 : Int) ^ 0))) : Int)) = D.val (Value.int IntKind.u64 (↑(BitVec.toNat (BitVec.ofInt 64 (↑(0 : Nat) : Int) ||| BitVec.ofInt 64 ((↑(List.getD A 0 0) : Int) * (2 : Int) ^ 0))) : Int)) ∧ iD (↑(List.length A) : Int) = iD (↑(List.length A) : Int) ∧ iD ((↑(0 : Nat) : Int) + (1 : Int)) = iD (↑(1 : Nat) : Int)) 0 [] (by kernel_rfl) ⟨rfl, rfl, rfl, (by (simp; omega)), rfl, (by kernel_rfl)⟩ (by kernel_rfl) (fun _ _ => rfl) (by kernel_rfl)
      · have n1 : nval (A.take 1) < 4294967296 := by
          have := nval_lt (A.take 1) (dA.take 1)
          have h2 : (4294967296 : Nat) ^ (A.take 1).length ≤ 4294967296 ^ 1 := Nat.pow_le_pow_right (by decide) (by rw [List.length_take]; omega)
          omega
        have m2 : nval (A.take 2) = nval (A.take 1) + 4294967296 * A.getD 1 0 := by rw [sn, Nat.pow_one]
        focus
          refine awp_seq (awp_region rfl ?_)
          refine st_end0 [] [] [] (True) [(14, bD (decide ((↑(1 : Nat) : Int) < (↑(List.length A) : Int))))] (by kernel_rfl) trivial ?_
          refine awp_seq ?_
          refine cond_t (t := decide ((↑(1 : Nat) : Int) < (↑(List.length A) : Int))) (by kernel_rfl) (by exact decide_eq_true (by omega)) ?_
          refine awp_skip (then_normal (next_same (awp_seq (awp_block (awp_seq (awp_region rfl ?_))))))
          refine st_end0 [] [] [14, 15] (True) [(5, iD (↑(1 : Nat) : Int))] (by kernel_rfl) trivial ?_
          refine awp_region rfl ?_
          refine st_run0 5 [] [] (((0 : Int) ≤ (↑(1 : Nat) : Int) ∧ (↑(1 : Nat) : Int) < (↑(List.length A) : Int) ∧ List.map dig A ≠ []) ∧ 0 < List.length (List.drop 1 (List.map dig A))) [(16, D.val (Value.int IntKind.u64 (↑(nval (List.take 1 A)) : Int))), (17, digR A), (18, iD (↑(1 : Nat) : Int)), (19, D.ptr (List.drop 1 (List.map dig A))), (20, List.headD (List.drop 1 (List.map dig A)) U)] (by kernel_rfl) ⟨⟨(by omega), ⟨(by omega), (by exact map_ne (by omega))⟩⟩, (by (simp; omega))⟩ ?_
          refine st_slot 20 (List.headD (List.drop 1 (List.map dig A)) U) (dig (List.getD A 1 0)) (by kernel_rfl) (by simp (disch := omega) only [headD_dig]) (by kernel_rfl) ?_
          refine st_run0 4 [] [] (((0 : Int) ≤ (↑(List.getD A 1 0) : Int) ∧ (↑(List.getD A 1 0) : Int) ≤ (18446744073709551615 : Int)) ∧ (-9223372036854775808 ≤ (32 : Int) * (↑(1 : Nat) : Int) ∧ (32 : Int) * (↑(1 : Nat) : Int) ≤ 9223372036854775807) ∧ (0 : Int) ≤ (32 : Int) * (↑(1 : Nat) : Int)) [(21, D.val (Value.int IntKind.u64 (↑(List.getD A 1 0) : Int))), (22, iD (↑(1 : Nat) : Int)), (23, iD ((32 : Int) * (↑(1 : Nat) : Int))), (24, D.val (Value.int IntKind.u64 (IntKind.wrap IntKind.u64 ((↑(List.getD A 1 0) : Int) * (2 : Int) ^ 32))))] (by kernel_rfl) (by omega) ?_
          refine st_slot 24 (D.val (Value.int IntKind.u64 (IntKind.wrap IntKind.u64 ((↑(List.getD A 1 0) : Int) * (2 : Int) ^ 32)))) (D.val (Value.int IntKind.u64 ((↑(List.getD A 1 0) : Int) * (2 : Int) ^ 32))) (by kernel_rfl) (by simp (disch := omega) only [wrap_u64]) (by kernel_rfl) ?_
          refine st_run0 1 [] [] (True) [(25, D.val (Value.int IntKind.u64 (IntKind.wrap IntKind.u64 (↑(BitVec.toNat (BitVec.ofInt 64 (↑(nval (List.take 1 A)) : Int) ||| BitVec.ofInt 64 ((↑(List.getD A 1 0) : Int) * (2 : Int) ^ 32))) : Int))))] (by kernel_rfl) trivial ?_
          refine st_slot 25 (D.val (Value.int IntKind.u64 (IntKind.wrap IntKind.u64 (↑(BitVec.toNat (BitVec.ofInt 64 (↑(nval (List.take 1 A)) : Int) ||| BitVec.ofInt 64 ((↑(List.getD A 1 0) : Int) * (2 : Int) ^ 32))) : Int)))) (D.val (Value.int IntKind.u64 (↑(nval (List.take 1 A) + 4294967296 * List.getD A 1 0) : Int))) (by kernel_rfl) (by simp (disch := omega) only [or_1, wrap_u64]) (by kernel_rfl) ?_
          refine st_run0 1 [] [] (True) [(4, D.val (Value.int IntKind.u64 (↑(nval (List.take 1 A) + 4294967296 * List.getD A 1 0) : Int)))] (by kernel_rfl) trivial ?_
          refine st_nil ?_ (by kernel_rfl)
          refine block_normal (then_normal (next_same (awp_region rfl ?_)))
          refine st_run0 2 [] [] (-9223372036854775808 ≤ (↑(1 : Nat) : Int) + (1 : Int) ∧ (↑(1 : Nat) : Int) + (1 : Int) ≤ 9223372036854775807) [(13, iD ((↑(1 : Nat) : Int) + (1 : Int))), (26, iD ((↑(1 : Nat) : Int) + (1 : Int)))] (by kernel_rfl) (by omega) ?_
          refine st_nil ?_ (by kernel_rfl)
          refine then_normal ?_
          rotate_left
        refine ⟨2, by omega, by omega, ?_⟩
        rw [m2]
        refine weak_run [(0, 1), (2, 1), (3, 1), (4, 1), (12, 1), (13, 1)] (digR A = digR A ∧ D.val (Value.int IntKind.u64 (0 : Int)) = D.val (Value.int IntKind.u64 (0 : Int)) ∧ bD false = bD false ∧ D.val (Value.int IntKind.u64 (↑(nval (List.take 1 A) + 4294967296 * List.getD A 1 0) : Int)) = D.val (Value.int IntKind.u64 (↑(nval (List.take 1 A) + 4294967296 * List.getD A 1 0) : Int)) ∧ iD (↑(List.length A) : Int) = iD (↑(List.length A) : Int) ∧ iD ((↑(1 : Nat) : Int) + (1 : Int)) = iD (↑(2 : Nat) : Int)) 0 [] (by kernel_rfl) ⟨rfl, rfl, rfl, rfl, rfl, (by kernel_rfl)⟩ (by kernel_rfl) (fun _ _ => rfl) (by kernel_rfl)
    · obtain rfl : i = A.length := by omega
      focus
        refine awp_seq (awp_region rfl ?_)
        refine st_end0 [] [] [] (True) [(14, bD (decide ((↑(List.length A) : Int) < (↑(List.length A) : Int))))] (by kernel_rfl) trivial ?_
        refine awp_seq ?_
        refine cond_f (t := decide ((↑(List.length A) : Int) < (↑(List.length A) : Int))) (by kernel_rfl) (by exact decide_eq_false (by omega)) ?_
        refine awp_exit (then_exit (then_exit (block_hit rfl (then_normal (next_same (awp_seq (awp_region rfl ?_)))))))
        refine st_end0 [] [] [0, 4, 12, 13, 14, 27] (True) [(2, D.val (Value.int IntKind.u64 (↑(nval (List.take (List.length A) A)) : Int))), (3, bD true)] (by kernel_rfl) trivial ?_
        refine awp_ret ?_
        refine ret_run (True) (D.tup [D.val (Value.int IntKind.u64 (↑(nval (List.take (List.length A) A)) : Int)), bD true]) (D.tup [D.val (Value.int IntKind.u64 (↑(nval (List.take (List.length A) A)) : Int)), D.val (Value.bool true)]) (.inr rfl) (by kernel_rfl) trivial rfl ?_
        rotate_left
      rw [List.take_length, ev]
set_option maxHeartbeats 1000000 in
theorem gcd1_c (a b : Nat) (ha : a < 18446744073709551616) (hb : b < 18446744073709551616) : Pure Tryz.prog 130 [natD a, natD b, .unk] [] (natD (Nat.gcd a b)) := by
  have la := dg_len_pow a 2 (by omega)
  have lb := dg_len_pow b 2 (by omega)
  have hz := nb_zero b
  have ea := nval_dg a
  have eb := nval_dg b
  have ta : decide (a < 18446744073709551616) = true := decide_eq_true ha
  have tb : decide (b < 18446744073709551616) = true := decide_eq_true hb
  refine pure_of_awp Tz_ok mixed Tryz.func130 rfl ?_
  have e1 : (if a < 18446744073709551616 then a else 0) = a := if_pos ha
  have e2 : (if b < 18446744073709551616 then b else 0) = b := if_pos hb
  focus
    refine awp_seq (awp_region rfl ?_)
    refine st_end0 [] [] [] (True) [(5, nl)] (by kernel_rfl) trivial ?_
    refine awp_seq (awp_seq (awp_region rfl ?_))
    refine st_run0 1 [] [] (True) [(13, natD b)] (by kernel_rfl) trivial ?_
    refine st_callr [natD b] (by kernel_rfl) (by exact bits_c (dg b) _ rfl (by omega) (digs_dg _)) ?_
    refine st_run0 1 [] [] (True) [(15, bD ((↑(nb (nval (dg b))) : Int) == (0 : Int)))] (by kernel_rfl) trivial ?_
    refine st_slot 15 (bD ((↑(nb (nval (dg b))) : Int) == (0 : Int))) (bD ((↑(nb b) : Int) == (0 : Int))) (by kernel_rfl) (by simp (disch := omega) only [eb]) (by kernel_rfl) ?_
    refine st_end0 [] [] [13, 14] (True) [] (by kernel_rfl) trivial ?_
    refine awp_cond (t := (↑(nb b) : Int) == (0 : Int)) (by kernel_rfl) (fun hc => ?_) (fun hc => ?_)
    simp only [beq_iff_eq] at hc
    refine awp_seq (awp_region rfl ?_)
    refine st_end0 [] [] [15, 16] (True) [(5, natD a)] (by kernel_rfl) trivial ?_
    refine awp_ret (then_ret ?_)
    refine ret_run (True) (natD a) (natD a) (.inr rfl) (by kernel_rfl) trivial rfl ?_
    rotate_left
    simp only [beq_eq_false_iff_ne] at hc
    refine awp_skip (then_normal (next_same (awp_seq (awp_region rfl ?_))))
    refine st_run0 1 [] [] (True) [(18, natD a)] (by kernel_rfl) trivial ?_
    refine st_callr [natD a] (by kernel_rfl) (by exact u64_c a (by omega)) ?_
    refine st_run0 1 [] [] (True) [(17, D.tup [D.val (Value.int IntKind.u64 (↑(if a < 18446744073709551616 then a else 0) : Int)), bD (decide (a < 18446744073709551616))])] (by kernel_rfl) trivial ?_
    refine st_slot 17 (D.tup [D.val (Value.int IntKind.u64 (↑(if a < 18446744073709551616 then a else 0) : Int)), bD (decide (a < 18446744073709551616))]) (D.tup [D.val (Value.int IntKind.u64 (↑a : Int)), bD true]) (by kernel_rfl) (by simp (disch := omega) only [e1, ta]) (by kernel_rfl) ?_
    refine st_end0 [] [] [15, 17, 18, 19, 20, 21] (0 < 2 ∧ 1 < 2) [(6, D.val (Value.int IntKind.u64 (↑a : Int))), (7, bD true)] (by kernel_rfl) ⟨(Nat.le_of_ble_eq_true (by kernel_rfl)), (Nat.le_of_ble_eq_true (by kernel_rfl))⟩ ?_
    refine awp_seq (awp_seq (awp_region rfl ?_))
    refine st_run0 1 [] [] (True) [(23, natD b)] (by kernel_rfl) trivial ?_
    refine st_callr [natD b] (by kernel_rfl) (by exact u64_c b (by omega)) ?_
    refine st_run0 1 [] [] (True) [(22, D.tup [D.val (Value.int IntKind.u64 (↑(if b < 18446744073709551616 then b else 0) : Int)), bD (decide (b < 18446744073709551616))])] (by kernel_rfl) trivial ?_
    refine st_slot 22 (D.tup [D.val (Value.int IntKind.u64 (↑(if b < 18446744073709551616 then b else 0) : Int)), bD (decide (b < 18446744073709551616))]) (D.tup [D.val (Value.int IntKind.u64 (↑b : Int)), bD true]) (by kernel_rfl) (by simp (disch := omega) only [e2, tb]) (by kernel_rfl) ?_
    refine st_end0 [] [] [22, 23, 24, 25, 26] (0 < 2 ∧ 1 < 2) [(8, D.val (Value.int IntKind.u64 (↑b : Int))), (9, bD true)] (by kernel_rfl) ⟨(Nat.le_of_ble_eq_true (by kernel_rfl)), (Nat.le_of_ble_eq_true (by kernel_rfl))⟩ ?_
    refine awp_seq (awp_region rfl ?_)
    refine st_end0 [] [] [7, 9, 27, 28, 29] (True) [(30, bD true)] (by kernel_rfl) trivial ?_
    refine cond_t (t := true) (by kernel_rfl) rfl ?_
    refine awp_seq (awp_block ?_)
    rotate_left
  · rw [(nb_zero b).1 (by omega), Nat.gcd_zero_right]
  · refine awp_loop2 (fun (x y : Nat) => [natD a, natD b, U, U, U, nl, D.val (Value.int IntKind.u64 (↑x : Int)), U, D.val (Value.int IntKind.u64 (↑y : Int)), U, U, U, U, U, U, U, U, U, U, U, U, U, U, U, U, U, U, U, U, U, bD true, U, U, U, U, U, U, U, U, U, U, U, U, U, U, U, U, U, U, U]) (fun x y => []) (fun x y => y) (fun x y => x < 18446744073709551616 ∧ y < 18446744073709551616 ∧ Nat.gcd x y = Nat.gcd a b) a b ?_ ?_ ?_
    · exact ⟨ha, hb, rfl⟩
    · refine weak_run [(0, 1), (1, 1), (5, 1), (6, 1), (8, 1), (30, 1)] (natD a = natD a ∧ natD b = natD b ∧ nl = nl ∧ D.val (Value.int IntKind.u64 (↑a : Int)) = D.val (Value.int IntKind.u64 (↑a : Int)) ∧ D.val (Value.int IntKind.u64 (↑b : Int)) = D.val (Value.int IntKind.u64 (↑b : Int)) ∧ bD true = bD true) 0 [] (by kernel_rfl) ⟨rfl, rfl, rfl, rfl, rfl, rfl⟩ (by kernel_rfl) (fun _ _ => rfl) (by kernel_rfl)
    rintro x y ⟨h1, h2, h3⟩
    focus
      refine awp_seq (awp_seq (awp_region rfl ?_))
      refine st_end0 [] [] [31] (True) [(32, bD ((↑y : Int) != (0 : Int)))] (by kernel_rfl) trivial ?_
      refine awp_cond (t := (↑y : Int) != (0 : Int)) (by kernel_rfl) (fun hc => ?_) (fun hc => ?_)
      simp only [bne_iff_ne] at hc
      refine awp_skip (then_normal (next_same (awp_block ?_)))
      refine awp_drawn [0, 1, 2, 3, 4, 5] (by kernel_rfl) rfl ?_
      refine st_run0 4 [] [] ((↑y : Int) ≠ (0 : Int)) [(33, D.val (Value.int IntKind.u64 (↑y : Int))), (34, D.val (Value.int IntKind.u64 (↑x : Int))), (35, D.val (Value.int IntKind.u64 (↑y : Int))), (36, D.val (Value.int IntKind.u64 (Int.tmod (↑x : Int) (↑y : Int))))] (by kernel_rfl) (by omega) ?_
      refine st_slot 36 (D.val (Value.int IntKind.u64 (Int.tmod (↑x : Int) (↑y : Int)))) (D.val (Value.int IntKind.u64 (↑(x % y) : Int))) (by kernel_rfl) (by simp (disch := omega) only [tmod_n]) (by kernel_rfl) ?_
      refine st_run0 2 [] [] (True) [(6, D.val (Value.int IntKind.u64 (↑y : Int))), (8, D.val (Value.int IntKind.u64 (↑(x % y) : Int)))] (by kernel_rfl) trivial ?_
      refine st_nil ?_ (by kernel_rfl)
      refine block_normal (then_normal ?_)
      rotate_left
      simp only [bne_eq_false_iff_eq] at hc
      refine awp_exit (then_exit (then_exit (block_hit rfl (then_normal (next_same (awp_seq (awp_region rfl ?_)))))))
      refine st_run0 1 [] [] (True) [(37, D.val (Value.int IntKind.u64 (↑x : Int)))] (by kernel_rfl) trivial ?_
      refine st_callr [D.val (Value.int IntKind.u64 (↑x : Int))] (by kernel_rfl) (by exact of_c x h1) ?_
      refine st_end0 [] [] [6, 8, 30, 32, 37, 38] (True) [(5, natD x)] (by kernel_rfl) trivial ?_
      refine awp_ret (then_ret ?_)
      refine ret_run (True) (natD x) (natD x) (.inr rfl) (by kernel_rfl) trivial rfl ?_
      rotate_left
    · refine ⟨y, x % y, ⟨h2, Nat.lt_trans (Nat.mod_lt _ (by omega)) h2, by rw [← h3, Nat.gcd_comm x y, Nat.gcd_rec y x, Nat.gcd_comm]⟩, Nat.mod_lt _ (by omega), ?_⟩
      refine weak_run [(0, 1), (1, 1), (5, 1), (6, 1), (8, 1), (30, 1)] (natD a = natD a ∧ natD b = natD b ∧ nl = nl ∧ D.val (Value.int IntKind.u64 (↑y : Int)) = D.val (Value.int IntKind.u64 (↑y : Int)) ∧ D.val (Value.int IntKind.u64 (↑(x % y) : Int)) = D.val (Value.int IntKind.u64 (↑(x % y) : Int)) ∧ bD true = bD true) 0 [] (by kernel_rfl) ⟨rfl, rfl, rfl, rfl, rfl, rfl⟩ (by kernel_rfl) (fun _ _ => rfl) (by kernel_rfl)
    · obtain rfl : y = 0 := by omega
      rw [← h3, Nat.gcd_zero_right]
abbrev gcdD (d : D) : D := .ptr [.clo (.func 130) [] [d]]
theorem natD_le {d d' : D} {a b : D} (h : LeD d d') : LeL [a, b, d] [a, b, d'] := .cons (.refl _) (.cons (.refl _) (.cons h .nil))
set_option maxHeartbeats 1000000 in
theorem gcd2_c (a b : Nat) (la : (dg a).length ≤ 100000) (h0 : 0 < b) (hb : b < 4294967296) : Pure Tryz.prog 130 [natD a, natD b, gcdD (gcdD (gcdD (gcdD (.ptr [.unk]))))] [] (natD (Nat.gcd a b)) := by
  rcases Nat.lt_or_ge a 18446744073709551616 with ha | ha
  · exact Pure.le (gcd1_c a b ha (by omega)) (natD_le (.unk _))
  · have lb := dg_len_pow b 1 (by omega)
    have hz := nb_zero b
    have eb := nval_dg b
    have ta : decide (a < 18446744073709551616) = false := decide_eq_false (by omega)
    have tb : decide (b < 18446744073709551616) = true := decide_eq_true (by omega)
    have e1 : (if a < 18446744073709551616 then a else 0) = 0 := if_neg (by omega)
    have e2 : (if b < 18446744073709551616 then b else 0) = b := if_pos (by omega)
    have hr : a % b < b := Nat.mod_lt _ h0
    have c1 := u64_c a la
    have c2 := u64_c b (by omega)
    rw [ta, e1] at c1
    rw [tb, e2] at c2
    refine pure_of_awp Tz_ok mixed Tryz.func130 rfl ?_
    focus
      refine awp_seq (awp_region rfl ?_)
      refine st_end0 [] [] [] (True) [(5, nl)] (by kernel_rfl) trivial ?_
      refine awp_seq (awp_seq (awp_region rfl ?_))
      refine st_run0 1 [] [] (True) [(13, natD b)] (by kernel_rfl) trivial ?_
      refine st_callr [natD b] (by kernel_rfl) (by exact bits_c (dg b) _ rfl (by omega) (digs_dg _)) ?_
      refine st_run0 1 [] [] (True) [(15, bD ((↑(nb (nval (dg b))) : Int) == (0 : Int)))] (by kernel_rfl) trivial ?_
      refine st_slot 15 (bD ((↑(nb (nval (dg b))) : Int) == (0 : Int))) (bD ((↑(nb b) : Int) == (0 : Int))) (by kernel_rfl) (by simp (disch := omega) only [eb]) (by kernel_rfl) ?_
      refine st_end0 [] [] [13, 14] (True) [] (by kernel_rfl) trivial ?_
      refine cond_f (t := (↑(nb b) : Int) == (0 : Int)) (by kernel_rfl) (by exact decide_eq_false (by omega)) ?_
      refine awp_skip (then_normal (next_same (awp_seq (awp_region rfl ?_))))
      refine st_run0 1 [] [] (True) [(18, natD a)] (by kernel_rfl) trivial ?_
      refine st_callr [natD a] (by kernel_rfl) (by exact c1) ?_
      refine st_end0 [] [] [15, 17, 18, 19, 20, 21] (0 < 2 ∧ 1 < 2) [(6, D.val (Value.int IntKind.u64 (↑(0 : Nat) : Int))), (7, bD false)] (by kernel_rfl) (by omega) ?_
      refine awp_seq (awp_seq (awp_region rfl ?_))
      refine st_run0 1 [] [] (True) [(23, natD b)] (by kernel_rfl) trivial ?_
      refine st_callr [natD b] (by kernel_rfl) (by exact c2) ?_
      refine st_end0 [] [] [22, 23, 24, 25, 26] (0 < 2 ∧ 1 < 2) [(8, D.val (Value.int IntKind.u64 (↑b : Int))), (9, bD true)] (by kernel_rfl) ⟨(Nat.le_of_ble_eq_true (by kernel_rfl)), (Nat.le_of_ble_eq_true (by kernel_rfl))⟩ ?_
      refine awp_seq (awp_region rfl ?_)
      refine st_end0 [] [] [7, 9, 27, 28, 29] (True) [(30, bD false)] (by kernel_rfl) trivial ?_
      refine cond_f (t := false) (by kernel_rfl) rfl ?_
      refine awp_skip (then_normal (next_same (awp_seq (awp_region rfl ?_))))
      refine st_run0 2 [] [] (True) [(40, natD a), (41, natD b)] (by kernel_rfl) trivial ?_
      refine st_callr [natD a, natD b] (by kernel_rfl) (by exact divmod_c a b la h0 hb) ?_
      refine st_end0 [] [] [0, 6, 8, 10, 12, 30, 39, 40, 41, 42, 43, 44, 45] (0 < 3 ∧ 1 < 3 ∧ 2 < 3) [(11, natD (a % b))] (by kernel_rfl) ⟨(Nat.le_of_ble_eq_true (by kernel_rfl)), (Nat.le_of_ble_eq_true (by kernel_rfl)), (Nat.le_of_ble_eq_true (by kernel_rfl))⟩ ?_
      refine awp_seq (awp_region rfl ?_)
      refine st_run0 3 [] [] (0 < 1) [(46, D.clo (Fn.func 130) [] [D.ptr [D.clo (Fn.func 130) [] [D.ptr [D.clo (Fn.func 130) [] [D.ptr [D.clo (Fn.func 130) [] [D.ptr [U]]]]]]]]), (47, natD b), (48, natD (a % b))] (by kernel_rfl) (by omega) ?_
      refine st_callr [natD b, natD (a % b), D.ptr [D.clo (Fn.func 130) [] [D.ptr [D.clo (Fn.func 130) [] [D.ptr [D.clo (Fn.func 130) [] [D.ptr [U]]]]]]]] (by kernel_rfl) (by exact Pure.le (gcd1_c b (a % b) (by omega) (by omega)) (natD_le (.unk (gcdD (gcdD (gcdD (.ptr [.unk]))))))) ?_
      refine st_end0 [] [] [1, 2, 11, 46, 47, 48, 49] (True) [(5, natD (Nat.gcd b (a % b)))] (by kernel_rfl) trivial ?_
      refine awp_ret ?_
      refine ret_run (True) (natD (Nat.gcd b (a % b))) (natD (Nat.gcd b (a % b))) (.inr rfl) (by kernel_rfl) trivial rfl ?_
      rotate_left
    rw [Nat.gcd_comm a b, Nat.gcd_rec b a, Nat.gcd_comm]
set_option maxHeartbeats 1000000 in
theorem common_c (a b : Nat) (la : (dg a).length ≤ 100000) (h0 : 0 < b) (hb : b < 4294967296) : Pure Tryz.prog 118 [natD a, natD b] [] (natD (Nat.gcd a b)) := by
  have lb := dg_small b hb
  have hz := nb_le b
  have eb := nval_dg b
  refine pure_of_awp Tz_ok mixed Tryz.func118 rfl ?_
  focus
    refine awp_seq (awp_region rfl ?_)
    refine st_end0 [] [] [] (True) [(4, nl)] (by kernel_rfl) trivial ?_
    refine awp_seq (awp_region rfl ?_)
    refine st_end [] [] [] (True) [(5, D.own 0 0)] [Bk.mk [D.val Value.nilFunc] 68 0 false false] (by kernel_rfl) trivial ?_
    refine awp_seq (awp_region rfl ?_)
    refine st_end [] [] [9] (false = false ∧ isVar (D.clo (Fn.func 130) [] [D.own 0 0]) = true ∧ List.length (cellsOf (D.clo (Fn.func 130) [] [D.own 0 0])) = 1 ∧ 1 ≤ 1) [] [Bk.mk [D.clo (Fn.func 130) [] [D.own 0 0]] 68 0 false false] (by kernel_rfl) ⟨(by kernel_rfl), ⟨(by kernel_rfl), ⟨(by kernel_rfl), (by omega)⟩⟩⟩ ?_
    refine awp_seq (awp_block ?_)
    rotate_left
  refine awp_loop1 (fun (u : Nat) => [natD a, natD b, U, U, nl, D.own 0 0, U, U, U, U, U, U, U, U, U, U, U, U, U, U, U, U, U, U, U, U]) (fun u => [⟨[.clo (.func 130) [] [.own 0 0]], 68, 0, false, false⟩]) (fun u => 0) (fun u => True) 0 ?_ ?_ ?_
  · trivial
  · refine weak_run [(0, 1), (1, 1), (4, 1), (5, 1)] (natD a = natD a ∧ natD b = natD b ∧ nl = nl ∧ D.own 0 0 = D.own 0 0) 1 [] (by kernel_rfl) ⟨rfl, rfl, rfl, rfl⟩ (by kernel_rfl) (fun _ _ => rfl) (by kernel_rfl)
  rintro u _
  focus
    refine awp_seq (awp_seq (awp_region rfl ?_))
    refine st_run0 1 [] [] (True) [(10, natD b)] (by kernel_rfl) trivial ?_
    refine st_callr [natD b] (by kernel_rfl) (by exact bits_c (dg b) _ rfl (by omega) (digs_dg _)) ?_
    refine st_run0 1 [] [] (True) [(12, bD (decide ((↑(nb (nval (dg b))) : Int) > (4096 : Int))))] (by kernel_rfl) trivial ?_
    refine st_slot 12 (bD (decide ((↑(nb (nval (dg b))) : Int) > (4096 : Int)))) (bD (decide ((↑(nb b) : Int) > (4096 : Int)))) (by kernel_rfl) (by simp (disch := omega) only [eb]) (by kernel_rfl) ?_
    refine st_end0 [] [] [10, 11] (True) [] (by kernel_rfl) trivial ?_
    refine cond_f (t := decide ((↑(nb b) : Int) > (4096 : Int))) (by kernel_rfl) (by exact decide_eq_false (by omega)) ?_
    refine awp_exit (then_exit (then_exit (block_hit rfl (then_normal (next_same (awp_seq (awp_region rfl ?_)))))))
    refine st_run0 3 [] [] (0 < 1) [(22, D.clo (Fn.func 130) [] [D.own 0 0]), (23, natD a), (24, natD b)] (by kernel_rfl) (by omega) ?_
    refine st_call [] [] [natD a, natD b, D.ptr [D.clo (Fn.func 130) [] [D.ptr [D.clo (Fn.func 130) [] [D.ptr [D.clo (Fn.func 130) [] [D.ptr [D.clo (Fn.func 130) [] [D.ptr [U]]]]]]]]]] [Bk.mk [D.clo (Fn.func (130 : FuncId)) [] [D.own 0 0]] (68 : TypeId) 0 false true] [natD a, natD b, D.ptr [D.clo (Fn.func 130) [] [D.ptr [D.clo (Fn.func 130) [] [D.ptr [D.clo (Fn.func 130) [] [D.ptr [D.clo (Fn.func 130) [] [D.ptr [U]]]]]]]]]] (by kernel_rfl) trivial (LeL.refl _) (by exact gcd2_c a b la h0 hb) ?_
    refine st_end0 [] [] [0, 1, 5, 12, 22, 23, 24, 25] (True) [(4, natD (Nat.gcd a b))] (by kernel_rfl) trivial ?_
    refine awp_ret ?_
    refine ret_run (True) (natD (Nat.gcd a b)) (natD (Nat.gcd a b)) (.inr rfl) (by kernel_rfl) trivial rfl rfl
end Go.Proofs.YtgbhoceamcomfaaGreat
namespace Go.Proofs.YtgbhoceamcomfaaGreat
open Go.RowKit
set_option linter.unusedVariables false
set_option linter.unusedSimpArgs false
def sg (neg : Bool) (n : Nat) : Int := if neg then -(n : Int) else n
theorem sg_abs (neg : Bool) (n : Nat) : (sg neg n).natAbs = n := by cases neg <;> simp [sg]
theorem sg_neg (neg : Bool) (n : Nat) : decide (sg neg n < 0) = (neg && !decide (n = 0)) := by
  cases neg
  · simp [sg]
  · rw [Bool.eq_iff_iff]; simp [sg]; omega
theorem sg_self (z : Int) : sg (decide (z < 0)) z.natAbs = z := by
  unfold sg
  by_cases h : z < 0
  · rw [decide_eq_true h, if_pos rfl]; omega
  · rw [decide_eq_false h, if_neg (by decide)]; omega
abbrev d1 (d : Nat) : Nat := if d = 0 then 1 else d
abbrev ratL (q : Rat) : List D := [.val (.bool (decide (q.num < 0))), natD q.num.natAbs, natD q.den]
abbrev ratD (q : Rat) : D := .agg [.val (.bool (decide (q.num < 0))), natD q.num.natAbs, natD q.den]
theorem mk_num (z : Int) (d : Nat) (hd : d ≠ 0) : (mkRat z d).num = z / (z.natAbs.gcd d : Nat) := by
  rw [Rat.mkRat_def, dif_neg hd, Rat.normalize_eq]
theorem mk_den (z : Int) (d : Nat) (hd : d ≠ 0) : (mkRat z d).den = d / z.natAbs.gcd d := by
  rw [Rat.mkRat_def, dif_neg hd, Rat.normalize_eq]
theorem mk_abs (neg : Bool) (n d : Nat) (hd : d ≠ 0) : (mkRat (sg neg n) d).num.natAbs = n / n.gcd d := by
  rw [mk_num _ _ hd, sg_abs, Int.natAbs_ediv, sg_abs]
  have h : ((n.gcd d : Nat) : Int) ∣ sg neg n := by
    have := Int.natCast_dvd_natCast.2 (Nat.gcd_dvd_left n d)
    cases neg
    · simpa [sg] using this
    · simp only [sg, if_true]; exact Int.dvd_neg.2 this
  simp [h]
theorem mk_neg (neg : Bool) (n d : Nat) (hd : d ≠ 0) : decide ((mkRat (sg neg n) d).num < 0) = (neg && !decide (n = 0)) := by
  rw [← sg_neg, mk_num _ _ hd, sg_abs]
  have hg : 0 < n.gcd d := Nat.gcd_pos_of_pos_right _ (by omega)
  have hg' : (0 : Int) < (n.gcd d : Nat) := by omega
  rw [Bool.eq_iff_iff, decide_eq_true_eq, decide_eq_true_eq]
  constructor
  · intro h
    refine Decidable.byContradiction fun k => ?_
    have := Int.ediv_nonneg (a := sg neg n) (by omega) (Int.le_of_lt hg')
    omega
  · intro h
    exact Int.ediv_neg_of_neg_of_pos h hg'
theorem ratD_mk (neg : Bool) (n d : Nat) (hd : d ≠ 0) : ratD (mkRat (sg neg n) d) = .agg [.val (.bool (neg && !decide (n = 0))), natD (n / n.gcd d), natD (d / n.gcd d)] := by
  unfold ratD
  rw [mk_abs _ _ _ hd, mk_neg _ _ _ hd, mk_den _ _ hd, sg_abs]
theorem ratD_self (q : Rat) : mkRat (sg (decide (q.num < 0)) q.num.natAbs) q.den = q := by
  rw [sg_self, Rat.mkRat_self]
theorem add_den_le (a b : Rat) : (a + b).den ≤ a.den * b.den := by
  rw [Rat.add_def', mk_den _ _ (by have := a.den_nz; have := b.den_nz; exact Nat.mul_ne_zero a.den_nz b.den_nz)]
  exact Nat.div_le_self _ _
theorem mul_den_le (a b : Rat) : (a * b).den ≤ a.den * b.den := by
  rw [Rat.mul_def', mk_den _ _ (Nat.mul_ne_zero a.den_nz b.den_nz)]
  exact Nat.div_le_self _ _
theorem add_same (a b : Rat) (h : decide (a.num < 0) = decide (b.num < 0)) : mkRat (sg (decide (a.num < 0)) (a.num.natAbs * b.den + b.num.natAbs * a.den)) (a.den * b.den) = a + b := by
  rw [Rat.add_def']
  congr 1
  unfold sg
  by_cases k : a.num < 0
  · rw [decide_eq_true k] at h
    have k' : b.num < 0 := by simpa using h.symm
    rw [decide_eq_true k, if_pos rfl, Int.natCast_add, Int.natCast_mul, Int.natCast_mul, Int.ofNat_natAbs_of_nonpos (by omega), Int.ofNat_natAbs_of_nonpos (by omega)]
    grind
  · rw [decide_eq_false k] at h
    have k' : ¬ b.num < 0 := by simpa using h.symm
    rw [decide_eq_false k, if_neg (by decide), Int.natCast_add, Int.natCast_mul, Int.natCast_mul, Int.natAbs_of_nonneg (by omega), Int.natAbs_of_nonneg (by omega)]
theorem add_left (a b : Rat) (h : decide (a.num < 0) ≠ decide (b.num < 0)) (hl : b.num.natAbs * a.den ≤ a.num.natAbs * b.den) : mkRat (sg (decide (a.num < 0)) (a.num.natAbs * b.den - b.num.natAbs * a.den)) (a.den * b.den) = a + b := by
  rw [Rat.add_def']
  congr 1
  unfold sg
  by_cases k : a.num < 0
  · have k' : ¬ b.num < 0 := fun k' => h (by rw [decide_eq_true k, decide_eq_true k'])
    rw [decide_eq_true k, if_pos rfl, Int.natCast_sub hl, Int.natCast_mul, Int.natCast_mul, Int.ofNat_natAbs_of_nonpos (by omega), Int.natAbs_of_nonneg (by omega)]
    grind
  · have k' : b.num < 0 := Decidable.byContradiction fun k' => h (by rw [decide_eq_false k, decide_eq_false k'])
    rw [decide_eq_false k, if_neg (by decide), Int.natCast_sub hl, Int.natCast_mul, Int.natCast_mul, Int.natAbs_of_nonneg (by omega), Int.ofNat_natAbs_of_nonpos (by omega)]
    grind
theorem add_right (a b : Rat) (h : decide (a.num < 0) ≠ decide (b.num < 0)) (hl : a.num.natAbs * b.den ≤ b.num.natAbs * a.den) : mkRat (sg (decide (b.num < 0)) (b.num.natAbs * a.den - a.num.natAbs * b.den)) (a.den * b.den) = a + b := by
  have := add_left b a (Ne.symm h) hl
  rw [Nat.mul_comm b.den, Rat.add_comm] at this
  exact this
theorem mul_sg (a b : Rat) : mkRat (sg (decide (a.num < 0) != decide (b.num < 0)) (a.num.natAbs * b.num.natAbs)) (a.den * b.den) = a * b := by
  rw [Rat.mul_def']
  congr 1
  unfold sg
  by_cases k : a.num < 0 <;> by_cases k' : b.num < 0
  · rw [decide_eq_true k, decide_eq_true k', if_neg (by decide), Int.natCast_mul, Int.ofNat_natAbs_of_nonpos (by omega), Int.ofNat_natAbs_of_nonpos (by omega)]
    grind
  · rw [decide_eq_true k, decide_eq_false k', if_pos (by decide), Int.natCast_mul, Int.ofNat_natAbs_of_nonpos (by omega), Int.natAbs_of_nonneg (by omega)]
    grind
  · rw [decide_eq_false k, decide_eq_true k', if_pos (by decide), Int.natCast_mul, Int.natAbs_of_nonneg (by omega), Int.ofNat_natAbs_of_nonpos (by omega)]
    grind
  · rw [decide_eq_false k, decide_eq_false k', if_neg (by decide), Int.natCast_mul, Int.natAbs_of_nonneg (by omega), Int.natAbs_of_nonneg (by omega)]
def cmpQ (a b : Rat) : Int := cmpD (a.num * b.den) (b.num * a.den)
theorem cmpQ_zero (a b : Rat) : (cmpQ a b == 0) = decide (a = b) := by
  rw [Bool.eq_iff_iff, decide_eq_true_eq, Rat.eq_iff_mul_eq_mul]
  unfold cmpQ cmpD
  (repeat' split) <;> simp <;> omega
def sgnQ (a : Rat) : Int := if a.num = 0 then 0 else if a.num < 0 then -1 else 1
theorem cmp_signs (a b : Rat) (h : sgnQ a ≠ sgnQ b) : cmpD (sgnQ a) (sgnQ b) = cmpQ a b := by
  have ha : (0 : Int) < a.den := by have := a.den_pos; omega
  have hb : (0 : Int) < b.den := by have := b.den_pos; omega
  unfold sgnQ at *
  have key : ∀ (x : Int) (d : Int), 0 < d → (x = 0 → x * d = 0) ∧ (x < 0 → x * d < 0) ∧ (0 < x → 0 < x * d) := fun x d hd => ⟨fun h => by simp [h], fun h => Int.mul_neg_of_neg_of_pos h hd, fun h => Int.mul_pos h hd⟩
  obtain ⟨a1, a2, a3⟩ := key a.num b.den hb
  obtain ⟨b1, b2, b3⟩ := key b.num a.den ha
  unfold cmpQ cmpD
  generalize a.num * b.den = x at *
  generalize b.num * a.den = y at *
  (repeat' split at h) <;> (try (exact absurd rfl h)) <;> (repeat' split) <;> first | rfl | omega
theorem cmp_same (a b : Rat) (h : sgnQ a = sgnQ b) : sgnQ a * cmpD (a.num.natAbs * b.den : Nat) (b.num.natAbs * a.den : Nat) = cmpQ a b := by
  have ha : (0 : Int) < a.den := by have := a.den_pos; omega
  have hb : (0 : Int) < b.den := by have := b.den_pos; omega
  unfold sgnQ at *
  unfold cmpQ
  rw [Int.natCast_mul, Int.natCast_mul]
  by_cases k : a.num = 0
  · rw [if_pos k] at h
    have k' : b.num = 0 := by (repeat' split at h) <;> first | assumption | omega
    simp [k, k', cmpD]
  · by_cases m : a.num < 0
    · rw [if_neg k, if_pos m] at h
      have m' : b.num < 0 := by (repeat' split at h) <;> first | assumption | omega
      rw [if_neg k, if_pos m, Int.ofNat_natAbs_of_nonpos (by omega), Int.ofNat_natAbs_of_nonpos (by omega), Int.neg_mul a.num, Int.neg_mul b.num]
      generalize a.num * b.den = x at *
      generalize b.num * a.den = y at *
      unfold cmpD
      (repeat' split) <;> omega
    · rw [if_neg k, if_neg m] at h
      have m' : ¬ b.num < 0 := by (repeat' split at h) <;> first | assumption | omega
      rw [if_neg k, if_neg m, Int.natAbs_of_nonneg (by omega), Int.natAbs_of_nonneg (by omega), Int.one_mul]
end Go.Proofs.YtgbhoceamcomfaaGreat
namespace Go.Proofs.YtgbhoceamcomfaaGreat
open Go.RowKit
attribute [local irreducible] seqW awp thenW nextW blockW Weak updS deadS retL Pure Acts
set_option linter.unusedVariables false
set_option linter.unusedSimpArgs false
set_option maxRecDepth 4096
set_option maxHeartbeats 2000000 in
theorem qnormR_c (neg : Bool) (l : List Nat) (n d : Nat) (hl : l.length ≤ 10000) (hdl : Digs l) (en0 : nval l = n) (hd : d < 4294967296) : Pure Tryz.prog 97 [.agg [bD neg, digR l, natD d]] [] (ratD (mkRat (sg neg n) (d1 d))) := by
  have hn : (dg n).length ≤ 10000 := by rw [← en0]; exact Nat.le_trans (dg_len hdl) hl
  have ln := dg_len0 n
  have ld := dg_len0 d
  have lds := dg_small d hd
  have e1 := nb_one d
  have e2 := nb_one (n.gcd d)
  have ed := nval_dg d
  have eg := nval_dg (n.gcd d)
  have lg : (dg (n.gcd d)).length ≤ 10000 := by
    rcases Nat.eq_zero_or_pos d with h | h
    · subst h; rw [Nat.gcd_zero_right]; exact hn
    · have := dg_small (n.gcd d) (Nat.lt_of_le_of_lt (Nat.le_of_dvd h (Nat.gcd_dvd_right n d)) hd)
      omega
  have hg : 0 < d → n.gcd d ≤ d := fun h => Nat.le_of_dvd h (Nat.gcd_dvd_right _ _)
  have hg0 : 0 < d → 0 < n.gcd d := fun h => Nat.gcd_pos_of_pos_right _ h
  rw [ratD_mk _ _ _ (show d1 d ≠ 0 by unfold d1; split <;> omega)]
  have z1 : (.row [.val (.int .u32 ((1 : Nat) : Int))] 1 : D) = natD 1 := by simp [natD, dg]
  have hd1 : d1 d ≠ 0 := by unfold d1; split <;> omega
  refine pure_of_awp Tz_ok mixed Tryz.func97 rfl ?_
  focus
    refine awp_seq (awp_region rfl ?_)
    refine st_end [] [] [0] (True) [(1, D.own 0 0), (2, D.own (1) 0)] [Bk.mk [bD neg, digR l, natD d] 95 0 false false, Bk.mk [bD false, nl, nl] 95 0 false false] (by kernel_rfl) trivial ?_
    refine awp_seq ?_
    refine awp_drawn [0, 3, 1, 2, 4, 5, 6, 7] (by kernel_rfl) rfl ?_
    refine st_run0 3 [] [] (True ∧ True ∧ 0 < 2) [(6, D.own 0 1), (7, digR l), (9, D.own 0 2)] (by kernel_rfl) ⟨trivial, trivial, (lb (by kernel_rfl))⟩ ?_
    refine st_callr [digR l] (by kernel_rfl) (by exact norm_c l _ rfl (by omega) hdl) ?_
    refine st_run0 1 [] [] (0 < 1) [(10, natD d)] (by kernel_rfl) (lb (by kernel_rfl)) ?_
    refine st_callr [natD d] (by kernel_rfl) (by exact norm_c (dg d) _ rfl (by omega) (digs_dg _)) ?_
    refine st_run0 1 [] [] (True) [(3, natD (nval l))] (by kernel_rfl) trivial ?_
    refine st_slot 3 (natD (nval l)) (natD n) (by kernel_rfl) (by simp (disch := omega) only [en0]) (by kernel_rfl) ?_
    refine st_run0 1 [] [] (True) [(4, natD (nval (dg d)))] (by kernel_rfl) trivial ?_
    refine st_slot 4 (natD (nval (dg d))) (natD d) (by kernel_rfl) (by simp (disch := omega) only [ed]) (by kernel_rfl) ?_
    refine st_end0 [] [] [6, 7, 8, 9, 10, 11] (True) [] (by kernel_rfl) trivial ?_
    refine awp_seq (awp_seq (awp_region rfl ?_))
    refine st_run0 4 [] [] (True) [(12, natD n), (13, iD (↑(List.length (dg n)) : Int)), (14, bD ((↑(List.length (dg n)) : Int) == (0 : Int))), (15, bD ((↑(List.length (dg n)) : Int) == (0 : Int)))] (by kernel_rfl) trivial ?_
    refine st_split 15 ((↑(List.length (dg n)) : Int) == (0 : Int)) (by kernel_rfl) (fun hc => ?_) (fun hc => ?_)
    simp only [beq_iff_eq] at hc
    refine st_end0 [] [] [12, 13, 14, 15, 16, 17, 18] (True) [(19, bD true)] (by kernel_rfl) trivial ?_
    refine cond_t (t := true) (by kernel_rfl) rfl ?_
    refine awp_seq (awp_region rfl ?_)
    refine st_run0 3 [] [] (True ∧ 0 < 3) [(20, D.own 0 0), (21, bD neg), (22, bD neg)] (by kernel_rfl) ⟨trivial, (lb (by kernel_rfl))⟩ ?_
    refine st_split 22 (neg) (by kernel_rfl) (fun hc => ?_) (fun hc => ?_)
    subst hc
    refine st_run0 5 [] [] (True) [(23, natD n), (24, iD (↑(List.length (dg n)) : Int)), (25, bD (decide ((↑(List.length (dg n)) : Int) > (0 : Int)))), (26, bD (decide ((↑(List.length (dg n)) : Int) > (0 : Int)))), (27, natD n)] (by kernel_rfl) trivial ?_
    refine st_callr [D.val (Value.int IntKind.u64 (1 : Int))] (by kernel_rfl) (by exact of_c 1 (by decide)) ?_
    refine st_end [] [] [19, 20, 21, 22, 23, 24, 25, 26, 27, 28, 29] (((1 = 1 ∧ 1 ≤ 3 ∧ 1 = 1 ∧ 2 ≤ List.length (setAt [bD false, nl, nl] 0 (cellsOf (bD (decide ((↑(List.length (dg n)) : Int) > (0 : Int)))))) ∧ 1 = 1 ∧ 3 ≤ List.length (setAt (setAt [bD false, nl, nl] 0 (cellsOf (bD (decide ((↑(List.length (dg n)) : Int) > (0 : Int)))))) 1 (cellsOf (natD n))) ∧ True) ∧ true = true) ∧ false = false ∧ true = true ∧ 3 = 3 ∧ 3 ≤ 3) [] [Bk.mk [bD true, digR l, natD d] 95 0 false false, Bk.mk [bD (decide ((↑(List.length (dg n)) : Int) > (0 : Int))), natD n, D.row [dig (1 : Nat)] 1] 95 0 false false] (by kernel_rfl) ⟨⟨⟨(by kernel_rfl), ⟨(by omega), ⟨(by kernel_rfl), ⟨(lb (by kernel_rfl)), ⟨(by kernel_rfl), ⟨(lb (by kernel_rfl)), trivial⟩⟩⟩⟩⟩⟩, (by kernel_rfl)⟩, ⟨(by kernel_rfl), ⟨(by kernel_rfl), ⟨(by kernel_rfl), (by omega)⟩⟩⟩⟩ ?_
    refine awp_ret (then_ret ?_)
    refine ret_run (3 ≤ 3) (D.agg [bD (decide ((↑(List.length (dg n)) : Int) > (0 : Int))), natD n, D.row [dig (1 : Nat)] 1]) (D.agg [D.val (Value.bool (decide ((↑(List.length (dg n)) : Int) > (0 : Int)))), natD n, D.row [dig (1 : Nat)] 1]) (.inr rfl) (by kernel_rfl) (lb (by kernel_rfl)) rfl ?_
    rotate_left
    subst hc
    refine st_run0 5 [] [] (True) [(23, D.val undef), (24, D.val undef), (25, D.val undef), (26, bD false), (27, natD n)] (by kernel_rfl) trivial ?_
    refine st_callr [D.val (Value.int IntKind.u64 (1 : Int))] (by kernel_rfl) (by exact of_c 1 (by decide)) ?_
    refine st_end [] [] [19, 20, 21, 22, 23, 24, 25, 26, 27, 28, 29] (((1 = 1 ∧ 1 ≤ 3 ∧ 1 = 1 ∧ 2 ≤ List.length (setAt [bD false, nl, nl] 0 (cellsOf (bD false))) ∧ 1 = 1 ∧ 3 ≤ List.length (setAt (setAt [bD false, nl, nl] 0 (cellsOf (bD false))) 1 (cellsOf (natD n))) ∧ True) ∧ true = true) ∧ false = false ∧ true = true ∧ 3 = 3 ∧ 3 ≤ 3) [] [Bk.mk [bD false, digR l, natD d] 95 0 false false, Bk.mk [bD false, natD n, D.row [dig (1 : Nat)] 1] 95 0 false false] (by kernel_rfl) ⟨⟨⟨(by kernel_rfl), ⟨(by omega), ⟨(by kernel_rfl), ⟨(lb (by kernel_rfl)), ⟨(by kernel_rfl), ⟨(lb (by kernel_rfl)), trivial⟩⟩⟩⟩⟩⟩, (by kernel_rfl)⟩, ⟨(by kernel_rfl), ⟨(by kernel_rfl), ⟨(by kernel_rfl), (by omega)⟩⟩⟩⟩ ?_
    refine awp_ret (then_ret ?_)
    refine ret_run (3 ≤ 3) (D.agg [bD false, natD n, D.row [dig (1 : Nat)] 1]) (D.agg [D.val (Value.bool false), natD n, D.row [dig (1 : Nat)] 1]) (.inr rfl) (by kernel_rfl) (lb (by kernel_rfl)) rfl ?_
    rotate_left
    simp only [beq_eq_false_iff_ne] at hc
    refine st_end0 [] [] [12, 13, 14, 15, 16, 17, 18] (True) [(19, bD ((↑(List.length (dg d)) : Int) == (0 : Int)))] (by kernel_rfl) trivial ?_
    refine awp_cond (t := (↑(List.length (dg d)) : Int) == (0 : Int)) (by kernel_rfl) (fun hc => ?_) (fun hc => ?_)
    simp only [beq_iff_eq] at hc
    refine awp_seq (awp_region rfl ?_)
    refine st_run0 3 [] [] (True ∧ 0 < 3) [(20, D.own 0 0), (21, bD neg), (22, bD neg)] (by kernel_rfl) ⟨trivial, (lb (by kernel_rfl))⟩ ?_
    refine st_split 22 (neg) (by kernel_rfl) (fun hc => ?_) (fun hc => ?_)
    subst hc
    refine st_run0 5 [] [] (True) [(23, natD n), (24, iD (↑(List.length (dg n)) : Int)), (25, bD (decide ((↑(List.length (dg n)) : Int) > (0 : Int)))), (26, bD (decide ((↑(List.length (dg n)) : Int) > (0 : Int)))), (27, natD n)] (by kernel_rfl) trivial ?_
    refine st_callr [D.val (Value.int IntKind.u64 (1 : Int))] (by kernel_rfl) (by exact of_c 1 (by decide)) ?_
    refine st_end [] [] [19, 20, 21, 22, 23, 24, 25, 26, 27, 28, 29] (((1 = 1 ∧ 1 ≤ 3 ∧ 1 = 1 ∧ 2 ≤ List.length (setAt [bD false, nl, nl] 0 (cellsOf (bD (decide ((↑(List.length (dg n)) : Int) > (0 : Int)))))) ∧ 1 = 1 ∧ 3 ≤ List.length (setAt (setAt [bD false, nl, nl] 0 (cellsOf (bD (decide ((↑(List.length (dg n)) : Int) > (0 : Int)))))) 1 (cellsOf (natD n))) ∧ True) ∧ true = true) ∧ false = false ∧ true = true ∧ 3 = 3 ∧ 3 ≤ 3) [] [Bk.mk [bD true, digR l, natD d] 95 0 false false, Bk.mk [bD (decide ((↑(List.length (dg n)) : Int) > (0 : Int))), natD n, D.row [dig (1 : Nat)] 1] 95 0 false false] (by kernel_rfl) ⟨⟨⟨(by kernel_rfl), ⟨(by omega), ⟨(by kernel_rfl), ⟨(lb (by kernel_rfl)), ⟨(by kernel_rfl), ⟨(lb (by kernel_rfl)), trivial⟩⟩⟩⟩⟩⟩, (by kernel_rfl)⟩, ⟨(by kernel_rfl), ⟨(by kernel_rfl), ⟨(by kernel_rfl), (by omega)⟩⟩⟩⟩ ?_
    refine awp_ret (then_ret ?_)
    refine ret_run (3 ≤ 3) (D.agg [bD (decide ((↑(List.length (dg n)) : Int) > (0 : Int))), natD n, D.row [dig (1 : Nat)] 1]) (D.agg [D.val (Value.bool (decide ((↑(List.length (dg n)) : Int) > (0 : Int)))), natD n, D.row [dig (1 : Nat)] 1]) (.inr rfl) (by kernel_rfl) (lb (by kernel_rfl)) rfl ?_
    rotate_left
    subst hc
    refine st_run0 5 [] [] (True) [(23, D.val undef), (24, D.val undef), (25, D.val undef), (26, bD false), (27, natD n)] (by kernel_rfl) trivial ?_
    refine st_callr [D.val (Value.int IntKind.u64 (1 : Int))] (by kernel_rfl) (by exact of_c 1 (by decide)) ?_
    refine st_end [] [] [19, 20, 21, 22, 23, 24, 25, 26, 27, 28, 29] (((1 = 1 ∧ 1 ≤ 3 ∧ 1 = 1 ∧ 2 ≤ List.length (setAt [bD false, nl, nl] 0 (cellsOf (bD false))) ∧ 1 = 1 ∧ 3 ≤ List.length (setAt (setAt [bD false, nl, nl] 0 (cellsOf (bD false))) 1 (cellsOf (natD n))) ∧ True) ∧ true = true) ∧ false = false ∧ true = true ∧ 3 = 3 ∧ 3 ≤ 3) [] [Bk.mk [bD false, digR l, natD d] 95 0 false false, Bk.mk [bD false, natD n, D.row [dig (1 : Nat)] 1] 95 0 false false] (by kernel_rfl) ⟨⟨⟨(by kernel_rfl), ⟨(by omega), ⟨(by kernel_rfl), ⟨(lb (by kernel_rfl)), ⟨(by kernel_rfl), ⟨(lb (by kernel_rfl)), trivial⟩⟩⟩⟩⟩⟩, (by kernel_rfl)⟩, ⟨(by kernel_rfl), ⟨(by kernel_rfl), ⟨(by kernel_rfl), (by omega)⟩⟩⟩⟩ ?_
    refine awp_ret (then_ret ?_)
    refine ret_run (3 ≤ 3) (D.agg [bD false, natD n, D.row [dig (1 : Nat)] 1]) (D.agg [D.val (Value.bool false), natD n, D.row [dig (1 : Nat)] 1]) (.inr rfl) (by kernel_rfl) (lb (by kernel_rfl)) rfl ?_
    rotate_left
    simp only [beq_eq_false_iff_ne] at hc
    refine awp_skip (then_normal (next_same (awp_seq (awp_seq (awp_region rfl ?_)))))
    refine st_run0 1 [] [] (True) [(30, natD d)] (by kernel_rfl) trivial ?_
    refine st_callr [natD d] (by kernel_rfl) (by exact bits_c (dg d) _ rfl (by omega) (digs_dg _)) ?_
    refine st_run0 1 [] [] (True) [(32, bD (decide ((↑(nb (nval (dg d))) : Int) > (1 : Int))))] (by kernel_rfl) trivial ?_
    refine st_slot 32 (bD (decide ((↑(nb (nval (dg d))) : Int) > (1 : Int)))) (bD (decide ((↑(nb d) : Int) > (1 : Int)))) (by kernel_rfl) (by simp (disch := omega) only [ed]) (by kernel_rfl) ?_
    refine st_end0 [] [] [19, 30, 31] (True) [] (by kernel_rfl) trivial ?_
    refine awp_cond (t := decide ((↑(nb d) : Int) > (1 : Int))) (by kernel_rfl) (fun hc => ?_) (fun hc => ?_)
    simp only [decide_eq_true_eq] at hc
    refine awp_seq (awp_region rfl ?_)
    refine st_run0 2 [] [] (True) [(33, natD n), (34, natD d)] (by kernel_rfl) trivial ?_
    refine st_callr [natD n, natD d] (by kernel_rfl) (by exact common_c n d (by omega) (by omega) hd) ?_
    refine st_end0 [] [] [32, 33, 34, 35] (True) [(5, natD (Nat.gcd n d))] (by kernel_rfl) trivial ?_
    refine awp_seq (awp_region rfl ?_)
    refine st_run0 1 [] [] (True) [(36, natD (Nat.gcd n d))] (by kernel_rfl) trivial ?_
    refine st_callr [natD (Nat.gcd n d)] (by kernel_rfl) (by exact bits_c (dg (n.gcd d)) _ rfl (by omega) (digs_dg _)) ?_
    refine st_run0 1 [] [] (True) [(38, bD (decide ((↑(nb (nval (dg (Nat.gcd n d)))) : Int) > (1 : Int))))] (by kernel_rfl) trivial ?_
    refine st_slot 38 (bD (decide ((↑(nb (nval (dg (Nat.gcd n d)))) : Int) > (1 : Int)))) (bD (decide ((↑(nb (Nat.gcd n d)) : Int) > (1 : Int)))) (by kernel_rfl) (by simp (disch := omega) only [eg]) (by kernel_rfl) ?_
    refine st_end0 [] [] [36, 37] (True) [] (by kernel_rfl) trivial ?_
    refine awp_cond (t := decide ((↑(nb (Nat.gcd n d)) : Int) > (1 : Int))) (by kernel_rfl) (fun hc => ?_) (fun hc => ?_)
    simp only [decide_eq_true_eq] at hc
    refine awp_seq (awp_region rfl ?_)
    refine st_run0 2 [] [] (True) [(40, natD n), (41, natD (Nat.gcd n d))] (by kernel_rfl) trivial ?_
    refine st_callr [natD n, natD (Nat.gcd n d)] (by kernel_rfl) (by exact divmod_c n (n.gcd d) (by omega) (by omega) (by omega)) ?_
    refine st_end0 [] [] [38, 39, 40, 41, 42, 43, 44, 45] (0 < 3 ∧ 1 < 3 ∧ 2 < 3) [(3, natD (n / Nat.gcd n d))] (by kernel_rfl) ⟨(lb (by kernel_rfl)), (lb (by kernel_rfl)), (lb (by kernel_rfl))⟩ ?_
    refine awp_region rfl ?_
    refine st_run0 2 [] [] (True) [(47, natD d), (48, natD (Nat.gcd n d))] (by kernel_rfl) trivial ?_
    refine st_callr [natD d, natD (Nat.gcd n d)] (by kernel_rfl) (by exact divmod_c d (n.gcd d) (by omega) (by omega) (by omega)) ?_
    refine st_end0 [] [] [5, 46, 47, 48, 49, 50, 51, 52] (0 < 3 ∧ 1 < 3 ∧ 2 < 3) [(4, natD (d / Nat.gcd n d))] (by kernel_rfl) ⟨(lb (by kernel_rfl)), (lb (by kernel_rfl)), (lb (by kernel_rfl))⟩ ?_
    refine awp_seq (awp_region rfl ?_)
    refine st_end [] [] [1, 3, 4, 53, 54, 55, 56, 57] (True ∧ 0 < 3 ∧ ((1 = 1 ∧ 1 ≤ 3 ∧ 1 = 1 ∧ 2 ≤ List.length (setAt [bD false, nl, nl] 0 (cellsOf (bD neg))) ∧ 1 = 1 ∧ 3 ≤ List.length (setAt (setAt [bD false, nl, nl] 0 (cellsOf (bD neg))) 1 (cellsOf (natD (n / Nat.gcd n d)))) ∧ True) ∧ true = true) ∧ false = false ∧ true = true ∧ 3 = 3 ∧ 3 ≤ 3) [] [Bk.mk [bD neg, digR l, natD d] 95 0 false false, Bk.mk [bD neg, natD (n / Nat.gcd n d), natD (d / Nat.gcd n d)] 95 0 false false] (by kernel_rfl) ⟨trivial, (lb (by kernel_rfl)), ⟨⟨(by kernel_rfl), ⟨(by omega), ⟨(by kernel_rfl), ⟨(lb (by kernel_rfl)), ⟨(by kernel_rfl), ⟨(lb (by kernel_rfl)), trivial⟩⟩⟩⟩⟩⟩, (by kernel_rfl)⟩, ⟨(by kernel_rfl), ⟨(by kernel_rfl), ⟨(by kernel_rfl), (by omega)⟩⟩⟩⟩ ?_
    refine awp_ret ?_
    refine ret_run (3 ≤ 3) (D.agg [bD neg, natD (n / Nat.gcd n d), natD (d / Nat.gcd n d)]) (D.agg [D.val (Value.bool neg), natD (n / Nat.gcd n d), natD (d / Nat.gcd n d)]) (.inr rfl) (by kernel_rfl) (lb (by kernel_rfl)) rfl ?_
    rotate_left
    simp only [decide_eq_false_iff_not] at hc
    refine awp_skip (then_normal (next_same (awp_seq (awp_region rfl ?_))))
    refine st_end [] [] [1, 3, 4, 5, 38, 53, 54, 55, 56, 57] (True ∧ 0 < 3 ∧ ((1 = 1 ∧ 1 ≤ 3 ∧ 1 = 1 ∧ 2 ≤ List.length (setAt [bD false, nl, nl] 0 (cellsOf (bD neg))) ∧ 1 = 1 ∧ 3 ≤ List.length (setAt (setAt [bD false, nl, nl] 0 (cellsOf (bD neg))) 1 (cellsOf (natD n))) ∧ True) ∧ true = true) ∧ false = false ∧ true = true ∧ 3 = 3 ∧ 3 ≤ 3) [] [Bk.mk [bD neg, digR l, natD d] 95 0 false false, Bk.mk [bD neg, natD n, natD d] 95 0 false false] (by kernel_rfl) ⟨trivial, (lb (by kernel_rfl)), ⟨⟨(by kernel_rfl), ⟨(by omega), ⟨(by kernel_rfl), ⟨(lb (by kernel_rfl)), ⟨(by kernel_rfl), ⟨(lb (by kernel_rfl)), trivial⟩⟩⟩⟩⟩⟩, (by kernel_rfl)⟩, ⟨(by kernel_rfl), ⟨(by kernel_rfl), ⟨(by kernel_rfl), (by omega)⟩⟩⟩⟩ ?_
    refine awp_ret ?_
    refine ret_run (3 ≤ 3) (D.agg [bD neg, natD n, natD d]) (D.agg [D.val (Value.bool neg), natD n, natD d]) (.inr rfl) (by kernel_rfl) (lb (by kernel_rfl)) rfl ?_
    rotate_left
    simp only [decide_eq_false_iff_not] at hc
    refine awp_skip (then_normal (next_same (awp_seq (awp_region rfl ?_))))
    refine st_end [] [] [1, 3, 4, 32, 53, 54, 55, 56, 57] (True ∧ 0 < 3 ∧ ((1 = 1 ∧ 1 ≤ 3 ∧ 1 = 1 ∧ 2 ≤ List.length (setAt [bD false, nl, nl] 0 (cellsOf (bD neg))) ∧ 1 = 1 ∧ 3 ≤ List.length (setAt (setAt [bD false, nl, nl] 0 (cellsOf (bD neg))) 1 (cellsOf (natD n))) ∧ True) ∧ true = true) ∧ false = false ∧ true = true ∧ 3 = 3 ∧ 3 ≤ 3) [] [Bk.mk [bD neg, digR l, natD d] 95 0 false false, Bk.mk [bD neg, natD n, natD d] 95 0 false false] (by kernel_rfl) ⟨trivial, (lb (by kernel_rfl)), ⟨⟨(by kernel_rfl), ⟨(by omega), ⟨(by kernel_rfl), ⟨(lb (by kernel_rfl)), ⟨(by kernel_rfl), ⟨(lb (by kernel_rfl)), trivial⟩⟩⟩⟩⟩⟩, (by kernel_rfl)⟩, ⟨(by kernel_rfl), ⟨(by kernel_rfl), ⟨(by kernel_rfl), (by omega)⟩⟩⟩⟩ ?_
    refine awp_ret ?_
    refine ret_run (3 ≤ 3) (D.agg [bD neg, natD n, natD d]) (D.agg [D.val (Value.bool neg), natD n, natD d]) (.inr rfl) (by kernel_rfl) (lb (by kernel_rfl)) rfl ?_
    rotate_left
  · obtain rfl := ln.1 (by omega)
    rw [z1, Nat.gcd_zero_left, Nat.zero_div, Nat.div_self (by omega)]
    simp [dg]
  · obtain rfl := ln.1 (by omega)
    rw [z1, Nat.gcd_zero_left, Nat.zero_div, Nat.div_self (by omega)]
    simp
  · obtain rfl := ld.1 (by omega)
    rw [z1, show d1 0 = 1 from rfl, Nat.gcd_one_right, Nat.div_one, Nat.div_one, decide_eq_true (by omega), decide_eq_false (by omega)]
    rfl
  · obtain rfl := ld.1 (by omega)
    rw [z1, show d1 0 = 1 from rfl, Nat.gcd_one_right, Nat.div_one, Nat.div_one]
    rfl
  all_goals
    have n0 : decide (n = 0) = false := decide_eq_false fun h => by have := ln.2 h; omega
    have d0 : d ≠ 0 := fun h => by have := ld.2 h; omega
    have dd : d1 d = d := if_neg d0
    rw [n0, dd, Bool.not_false, Bool.and_true]
  · have g1 : n.gcd d = 1 := by have := e2.1 (by omega); have := hg0 (by omega); omega
    rw [g1, Nat.div_one, Nat.div_one]
  · obtain rfl : d = 1 := by have := e1.1 (by omega); omega
    rw [Nat.gcd_one_right, Nat.div_one, Nat.div_one]
theorem qnorm_c (neg : Bool) (n d : Nat) (hn : (dg n).length ≤ 10000) (hd : d < 4294967296) : Pure Tryz.prog 97 [.agg [bD neg, natD n, natD d]] [] (ratD (mkRat (sg neg n) (d1 d))) :=
  qnormR_c neg (dg n) n d hn (digs_dg n) (nval_dg n) hd
end Go.Proofs.YtgbhoceamcomfaaGreat
namespace Go.Proofs.YtgbhoceamcomfaaGreat
open Go.RowKit
attribute [local irreducible] seqW awp thenW nextW blockW Weak updS deadS retL Pure Acts
set_option linter.unusedVariables false
set_option linter.unusedSimpArgs false
set_option maxRecDepth 4096
theorem den_lt_left {a b : Rat} (h : a.den * b.den < 4294967296) : a.den < 4294967296 :=
  Nat.lt_of_le_of_lt (Nat.le_mul_of_pos_right _ b.den_pos) h
theorem den_lt_right {a b : Rat} (h : a.den * b.den < 4294967296) : b.den < 4294967296 :=
  Nat.lt_of_le_of_lt (Nat.le_mul_of_pos_left _ a.den_pos) h
theorem d1_pos {d : Nat} (h : 0 < d) : d1 d = d := by unfold d1; rw [if_neg (by omega)]
theorem qnorm_self (a : Rat) (hn : (dg a.num.natAbs).length ≤ 10000) (hd : a.den < 4294967296) : Pure Tryz.prog 97 [ratD a] [] (ratD a) := by
  have := qnorm_c (decide (a.num < 0)) a.num.natAbs a.den hn hd
  rw [d1_pos a.den_pos, ratD_self] at this
  exact this
set_option maxHeartbeats 4000000 in
theorem qadd_c (a b : Rat) (la : (dg a.num.natAbs).length ≤ 1000) (lb : (dg b.num.natAbs).length ≤ 1000) (hd : a.den * b.den < 4294967296) : Pure Tryz.prog 92 [ratD a, ratD b] [] (ratD (a + b)) := by
  have da := den_lt_left hd
  have db := den_lt_right hd
  have ka := dg_small _ da
  have kb := dg_small _ db
  have l1 := dlen_mul a.num.natAbs b.den
  have l2 := dlen_mul b.num.natAbs a.den
  have l3 := dlen_add (a.num.natAbs * b.den) (b.num.natAbs * a.den) 1001 (by omega) (by omega)
  have l4 := dlen_le (show a.num.natAbs * b.den - b.num.natAbs * a.den ≤ a.num.natAbs * b.den by omega)
  have l5 := dlen_le (show b.num.natAbs * a.den - a.num.natAbs * b.den ≤ b.num.natAbs * a.den by omega)
  have e1 := d1_pos (Nat.mul_pos a.den_pos b.den_pos)
  have n1 := nval_dg a.num.natAbs
  have n2 := nval_dg b.num.natAbs
  have n3 := nval_dg a.den
  have n4 := nval_dg b.den
  have n5 := nval_dg (a.num.natAbs * b.den)
  have n6 := nval_dg (b.num.natAbs * a.den)
  have r1 := qnorm_self a (by omega) da
  have r2 := qnorm_self b (by omega) db
  by_cases h : decide (a.num < 0) = decide (b.num < 0)
  · have hq : (decide (a.num < 0) == decide (b.num < 0)) = true := by simp [h]
    have r3 := qnorm_c (decide (a.num < 0)) (a.num.natAbs * b.den + b.num.natAbs * a.den) (a.den * b.den) (by omega) hd
    rw [e1, add_same a b h] at r3
    refine pure_of_awp Tz_ok mixed Tryz.func92 rfl ?_
    focus
      refine awp_seq (awp_region rfl ?_)
      refine st_end [] [] [0, 1] (True) [(2, D.own 0 0), (3, D.own (1) 0), (4, D.own (2) 0)] [Bk.mk (ratL a) 95 0 false false, Bk.mk (ratL b) 95 0 false false, Bk.mk [bD false, nl, nl] 95 0 false false] (by kernel_rfl) trivial ?_
      refine awp_seq ?_
      refine awp_drawn [0, 1, 2, 3, 4, 5] (by kernel_rfl) rfl ?_
      refine st_run0 1 [] [] (3 ≤ 3) [(12, D.agg (ratL a))] (by kernel_rfl) (Nat.le_of_ble_eq_true (by kernel_rfl)) ?_
      refine st_callr [D.agg (ratL a)] (by kernel_rfl) (by exact r1) ?_
      refine st_run0 1 [] [] (3 ≤ 3) [(14, D.agg (ratL b))] (by kernel_rfl) (Nat.le_of_ble_eq_true (by kernel_rfl)) ?_
      refine st_callr [D.agg (ratL b)] (by kernel_rfl) (by exact r2) ?_
      refine st_end0 [] [] [12, 13, 14, 15] ((false = false ∧ true = true ∧ 3 = 3 ∧ 3 ≤ 3) ∧ false = false ∧ true = true ∧ 3 = 3 ∧ 3 ≤ 3) [] (by kernel_rfl) ⟨⟨(by kernel_rfl), ⟨(by kernel_rfl), ⟨(by kernel_rfl), (Nat.le_of_ble_eq_true (by kernel_rfl))⟩⟩⟩, ⟨(by kernel_rfl), ⟨(by kernel_rfl), ⟨(by kernel_rfl), (Nat.le_of_ble_eq_true (by kernel_rfl))⟩⟩⟩⟩ ?_
      refine awp_seq ?_
      refine awp_drawn [0, 2, 5, 7, 1, 3, 4, 6, 8, 9, 10, 11] (by kernel_rfl) rfl ?_
      refine st_run0 2 [] [] (True ∧ True) [(16, D.own 0 1), (18, D.own (1) 2)] (by kernel_rfl) ⟨trivial, trivial⟩ ?_
      refine st_slot 18 (D.own (1) 2) (D.own 1 2) (by kernel_rfl) (by simp (disch := omega) only [List.length_cons, List.length_nil, Nat.zero_add]) (by kernel_rfl) ?_
      refine st_run0 1 [] [] (True) [(21, D.own (1) 1)] (by kernel_rfl) trivial ?_
      refine st_slot 21 (D.own (1) 1) (D.own 1 1) (by kernel_rfl) (by simp (disch := omega) only [List.length_cons, List.length_nil, Nat.zero_add]) (by kernel_rfl) ?_
      refine st_run0 3 [] [] (True ∧ 0 < 2 ∧ 0 < 1) [(17, natD (Int.natAbs (Rat.num a))), (19, natD (Rat.den b)), (23, D.own 0 2)] (by kernel_rfl) ⟨trivial, (Nat.le_of_ble_eq_true (by kernel_rfl)), (Nat.le_of_ble_eq_true (by kernel_rfl))⟩ ?_
      refine st_callr [natD (Int.natAbs (Rat.num a)), natD (Rat.den b)] (by kernel_rfl) (by exact mul_c (dg a.num.natAbs) (dg b.den) _ _ rfl rfl (by omega) (by omega) (digs_dg _) (digs_dg _)) ?_
      refine st_run0 2 [] [] (0 < 2 ∧ 0 < 1) [(22, natD (Int.natAbs (Rat.num b))), (24, natD (Rat.den a))] (by kernel_rfl) ⟨(Nat.le_of_ble_eq_true (by kernel_rfl)), (Nat.le_of_ble_eq_true (by kernel_rfl))⟩ ?_
      refine st_callr [natD (Int.natAbs (Rat.num b)), natD (Rat.den a)] (by kernel_rfl) (by exact mul_c (dg b.num.natAbs) (dg a.den) _ _ rfl rfl (by omega) (by omega) (digs_dg _) (digs_dg _)) ?_
      refine st_run0 1 [] [] (True) [(5, natD (nval (dg (Int.natAbs (Rat.num a))) * nval (dg (Rat.den b))))] (by kernel_rfl) trivial ?_
      refine st_slot 5 (natD (nval (dg (Int.natAbs (Rat.num a))) * nval (dg (Rat.den b)))) (natD (Int.natAbs (Rat.num a) * Rat.den b)) (by kernel_rfl) (by simp (disch := omega) only [n4, n1]) (by kernel_rfl) ?_
      refine st_run0 1 [] [] (True) [(6, natD (nval (dg (Int.natAbs (Rat.num b))) * nval (dg (Rat.den a))))] (by kernel_rfl) trivial ?_
      refine st_slot 6 (natD (nval (dg (Int.natAbs (Rat.num b))) * nval (dg (Rat.den a)))) (natD (Int.natAbs (Rat.num b) * Rat.den a)) (by kernel_rfl) (by simp (disch := omega) only [n3, n2]) (by kernel_rfl) ?_
      refine st_end0 [] [] [16, 17, 18, 19, 20, 21, 22, 23, 24, 25] (True) [] (by kernel_rfl) trivial ?_
      refine awp_seq (awp_region rfl ?_)
      refine st_run0 3 [] [] (True ∧ 0 < 1 ∧ True) [(26, D.own 0 2), (27, natD (Rat.den a)), (28, D.own (1) 2)] (by kernel_rfl) ⟨trivial, (Nat.le_of_ble_eq_true (by kernel_rfl)), trivial⟩ ?_
      refine st_slot 28 (D.own (1) 2) (D.own 1 2) (by kernel_rfl) (by simp (disch := omega) only [List.length_cons, List.length_nil, Nat.zero_add]) (by kernel_rfl) ?_
      refine st_run0 1 [] [] (0 < 1) [(29, natD (Rat.den b))] (by kernel_rfl) (Nat.le_of_ble_eq_true (by kernel_rfl)) ?_
      refine st_callr [natD (Rat.den a), natD (Rat.den b)] (by kernel_rfl) (by exact mul_c (dg a.den) (dg b.den) _ _ rfl rfl (by omega) (by omega) (digs_dg _) (digs_dg _)) ?_
      refine st_run0 1 [] [] (True) [(7, natD (nval (dg (Rat.den a)) * nval (dg (Rat.den b))))] (by kernel_rfl) trivial ?_
      refine st_slot 7 (natD (nval (dg (Rat.den a)) * nval (dg (Rat.den b)))) (natD (Rat.den a * Rat.den b)) (by kernel_rfl) (by simp (disch := omega) only [n3, n4]) (by kernel_rfl) ?_
      refine st_end0 [] [] [26, 27, 28, 29, 30] (True) [] (by kernel_rfl) trivial ?_
      refine awp_seq (awp_seq (awp_region rfl ?_))
      refine st_run0 3 [] [] (True ∧ 0 < 3 ∧ True) [(31, D.own 0 0), (32, bD (decide (Rat.num a < 0))), (33, D.own (1) 0)] (by kernel_rfl) ⟨trivial, (Nat.le_of_ble_eq_true (by kernel_rfl)), trivial⟩ ?_
      refine st_slot 33 (D.own (1) 0) (D.own 1 0) (by kernel_rfl) (by simp (disch := omega) only [List.length_cons, List.length_nil, Nat.zero_add]) (by kernel_rfl) ?_
      refine st_run0 2 [] [] (0 < 3 ∧ True) [(34, bD (decide (Rat.num b < 0))), (35, bD (decide (Rat.num a < 0) == decide (Rat.num b < 0)))] (by kernel_rfl) ⟨(Nat.le_of_ble_eq_true (by kernel_rfl)), trivial⟩ ?_
      refine st_slot 35 (bD (decide (Rat.num a < 0) == decide (Rat.num b < 0))) (bD true) (by kernel_rfl) (by simp (disch := omega) only [hq]) (by kernel_rfl) ?_
      refine st_end0 [] [] [31, 32, 33, 34] (True) [] (by kernel_rfl) trivial ?_
      refine cond_t (t := true) (by kernel_rfl) rfl ?_
      refine awp_seq ?_
      refine awp_drawn [0, 2, 3, 5, 1, 4, 6, 7, 8] (by kernel_rfl) rfl ?_
      refine st_run0 5 [] [] (True ∧ 0 < 3) [(36, D.own 0 0), (37, bD (decide (Rat.num a < 0))), (38, natD (Int.natAbs (Rat.num a) * Rat.den b)), (39, natD (Int.natAbs (Rat.num b) * Rat.den a)), (41, natD (Rat.den a * Rat.den b))] (by kernel_rfl) ⟨trivial, (Nat.le_of_ble_eq_true (by kernel_rfl))⟩ ?_
      refine st_callr [natD (Int.natAbs (Rat.num a) * Rat.den b), natD (Int.natAbs (Rat.num b) * Rat.den a)] (by kernel_rfl) (by exact add_c (dg (a.num.natAbs * b.den)) (dg (b.num.natAbs * a.den)) _ _ rfl rfl (by omega) (by omega) (digs_dg _) (digs_dg _)) ?_
      refine st_run0 1 [] [] ((1 = 1 ∧ 1 ≤ 3 ∧ 1 = 1 ∧ 2 ≤ List.length (setAt [bD false, nl, nl] 0 (cellsOf (bD (decide (Rat.num a < 0))))) ∧ 1 = 1 ∧ 3 ≤ List.length (setAt (setAt [bD false, nl, nl] 0 (cellsOf (bD (decide (Rat.num a < 0))))) 1 (cellsOf (natD (nval (dg (Int.natAbs (Rat.num a) * Rat.den b)) + nval (dg (Int.natAbs (Rat.num b) * Rat.den a)))))) ∧ True) ∧ true = true) [(42, D.agg [bD (decide (Rat.num a < 0)), natD (nval (dg (Int.natAbs (Rat.num a) * Rat.den b)) + nval (dg (Int.natAbs (Rat.num b) * Rat.den a))), natD (Rat.den a * Rat.den b)])] (by kernel_rfl) ⟨⟨(by kernel_rfl), ⟨(by omega), ⟨(by kernel_rfl), ⟨(Nat.le_of_ble_eq_true (by kernel_rfl)), ⟨(by kernel_rfl), ⟨(Nat.le_of_ble_eq_true (by kernel_rfl)), trivial⟩⟩⟩⟩⟩⟩, (by kernel_rfl)⟩ ?_
      refine st_slot 42 (D.agg [bD (decide (Rat.num a < 0)), natD (nval (dg (Int.natAbs (Rat.num a) * Rat.den b)) + nval (dg (Int.natAbs (Rat.num b) * Rat.den a))), natD (Rat.den a * Rat.den b)]) (D.agg [bD (decide (Rat.num a < 0)), natD (Int.natAbs (Rat.num a) * Rat.den b + Int.natAbs (Rat.num b) * Rat.den a), natD (Rat.den a * Rat.den b)]) (by kernel_rfl) (by simp (disch := omega) only [n6, n5]) (by kernel_rfl) ?_
      refine st_callr [D.agg [bD (decide (Rat.num a < 0)), natD (Int.natAbs (Rat.num a) * Rat.den b + Int.natAbs (Rat.num b) * Rat.den a), natD (Rat.den a * Rat.den b)]] (by kernel_rfl) (by exact r3) ?_
      refine st_end [] [] [35, 36, 37, 38, 39, 40, 41, 42, 43] (false = false ∧ true = true ∧ 3 = 3 ∧ 3 ≤ 3) [] [Bk.mk (ratL a) 95 0 false false, Bk.mk (ratL b) 95 0 false false, Bk.mk (ratL (a + b)) 95 0 false false] (by kernel_rfl) ⟨(by kernel_rfl), ⟨(by kernel_rfl), ⟨(by kernel_rfl), (by omega)⟩⟩⟩ ?_
      refine awp_ret (then_ret ?_)
      refine ret_run (3 ≤ 3) (D.agg (ratL (a + b))) (D.agg [D.val (Value.bool (decide (Rat.num (a + b) < 0))), natD (Int.natAbs (Rat.num (a + b))), natD (Rat.den (a + b))]) (.inr rfl) (by kernel_rfl) (Nat.le_of_ble_eq_true (by kernel_rfl)) rfl rfl
  · have hq : (decide (a.num < 0) == decide (b.num < 0)) = false := by simpa using h
    rcases Nat.lt_or_ge (a.num.natAbs * b.den) (b.num.natAbs * a.den) with hl | hl
    · have r3 := qnorm_c (decide (b.num < 0)) (b.num.natAbs * a.den - a.num.natAbs * b.den) (a.den * b.den) (by omega) hd
      rw [e1, add_right a b h (by omega)] at r3
      refine pure_of_awp Tz_ok mixed Tryz.func92 rfl ?_
      focus
        refine awp_seq (awp_region rfl ?_)
        refine st_end [] [] [0, 1] (True) [(2, D.own 0 0), (3, D.own (1) 0), (4, D.own (2) 0)] [Bk.mk (ratL a) 95 0 false false, Bk.mk (ratL b) 95 0 false false, Bk.mk [bD false, nl, nl] 95 0 false false] (by kernel_rfl) trivial ?_
        refine awp_seq ?_
        refine awp_drawn [0, 1, 2, 3, 4, 5] (by kernel_rfl) rfl ?_
        refine st_run0 1 [] [] (3 ≤ 3) [(12, D.agg (ratL a))] (by kernel_rfl) (Nat.le_of_ble_eq_true (by kernel_rfl)) ?_
        refine st_callr [D.agg (ratL a)] (by kernel_rfl) (by exact r1) ?_
        refine st_run0 1 [] [] (3 ≤ 3) [(14, D.agg (ratL b))] (by kernel_rfl) (Nat.le_of_ble_eq_true (by kernel_rfl)) ?_
        refine st_callr [D.agg (ratL b)] (by kernel_rfl) (by exact r2) ?_
        refine st_end0 [] [] [12, 13, 14, 15] ((false = false ∧ true = true ∧ 3 = 3 ∧ 3 ≤ 3) ∧ false = false ∧ true = true ∧ 3 = 3 ∧ 3 ≤ 3) [] (by kernel_rfl) ⟨⟨(by kernel_rfl), ⟨(by kernel_rfl), ⟨(by kernel_rfl), (Nat.le_of_ble_eq_true (by kernel_rfl))⟩⟩⟩, ⟨(by kernel_rfl), ⟨(by kernel_rfl), ⟨(by kernel_rfl), (Nat.le_of_ble_eq_true (by kernel_rfl))⟩⟩⟩⟩ ?_
        refine awp_seq ?_
        refine awp_drawn [0, 2, 5, 7, 1, 3, 4, 6, 8, 9, 10, 11] (by kernel_rfl) rfl ?_
        refine st_run0 2 [] [] (True ∧ True) [(16, D.own 0 1), (18, D.own (1) 2)] (by kernel_rfl) ⟨trivial, trivial⟩ ?_
        refine st_slot 18 (D.own (1) 2) (D.own 1 2) (by kernel_rfl) (by simp (disch := omega) only [List.length_cons, List.length_nil, Nat.zero_add]) (by kernel_rfl) ?_
        refine st_run0 1 [] [] (True) [(21, D.own (1) 1)] (by kernel_rfl) trivial ?_
        refine st_slot 21 (D.own (1) 1) (D.own 1 1) (by kernel_rfl) (by simp (disch := omega) only [List.length_cons, List.length_nil, Nat.zero_add]) (by kernel_rfl) ?_
        refine st_run0 3 [] [] (True ∧ 0 < 2 ∧ 0 < 1) [(17, natD (Int.natAbs (Rat.num a))), (19, natD (Rat.den b)), (23, D.own 0 2)] (by kernel_rfl) ⟨trivial, (Nat.le_of_ble_eq_true (by kernel_rfl)), (Nat.le_of_ble_eq_true (by kernel_rfl))⟩ ?_
        refine st_callr [natD (Int.natAbs (Rat.num a)), natD (Rat.den b)] (by kernel_rfl) (by exact mul_c (dg a.num.natAbs) (dg b.den) _ _ rfl rfl (by omega) (by omega) (digs_dg _) (digs_dg _)) ?_
        refine st_run0 2 [] [] (0 < 2 ∧ 0 < 1) [(22, natD (Int.natAbs (Rat.num b))), (24, natD (Rat.den a))] (by kernel_rfl) ⟨(Nat.le_of_ble_eq_true (by kernel_rfl)), (Nat.le_of_ble_eq_true (by kernel_rfl))⟩ ?_
        refine st_callr [natD (Int.natAbs (Rat.num b)), natD (Rat.den a)] (by kernel_rfl) (by exact mul_c (dg b.num.natAbs) (dg a.den) _ _ rfl rfl (by omega) (by omega) (digs_dg _) (digs_dg _)) ?_
        refine st_run0 1 [] [] (True) [(5, natD (nval (dg (Int.natAbs (Rat.num a))) * nval (dg (Rat.den b))))] (by kernel_rfl) trivial ?_
        refine st_slot 5 (natD (nval (dg (Int.natAbs (Rat.num a))) * nval (dg (Rat.den b)))) (natD (Int.natAbs (Rat.num a) * Rat.den b)) (by kernel_rfl) (by simp (disch := omega) only [n4, n1]) (by kernel_rfl) ?_
        refine st_run0 1 [] [] (True) [(6, natD (nval (dg (Int.natAbs (Rat.num b))) * nval (dg (Rat.den a))))] (by kernel_rfl) trivial ?_
        refine st_slot 6 (natD (nval (dg (Int.natAbs (Rat.num b))) * nval (dg (Rat.den a)))) (natD (Int.natAbs (Rat.num b) * Rat.den a)) (by kernel_rfl) (by simp (disch := omega) only [n2, n3]) (by kernel_rfl) ?_
        refine st_end0 [] [] [16, 17, 18, 19, 20, 21, 22, 23, 24, 25] (True) [] (by kernel_rfl) trivial ?_
        refine awp_seq (awp_region rfl ?_)
        refine st_run0 3 [] [] (True ∧ 0 < 1 ∧ True) [(26, D.own 0 2), (27, natD (Rat.den a)), (28, D.own (1) 2)] (by kernel_rfl) ⟨trivial, (Nat.le_of_ble_eq_true (by kernel_rfl)), trivial⟩ ?_
        refine st_slot 28 (D.own (1) 2) (D.own 1 2) (by kernel_rfl) (by simp (disch := omega) only [List.length_cons, List.length_nil, Nat.zero_add]) (by kernel_rfl) ?_
        refine st_run0 1 [] [] (0 < 1) [(29, natD (Rat.den b))] (by kernel_rfl) (Nat.le_of_ble_eq_true (by kernel_rfl)) ?_
        refine st_callr [natD (Rat.den a), natD (Rat.den b)] (by kernel_rfl) (by exact mul_c (dg a.den) (dg b.den) _ _ rfl rfl (by omega) (by omega) (digs_dg _) (digs_dg _)) ?_
        refine st_run0 1 [] [] (True) [(7, natD (nval (dg (Rat.den a)) * nval (dg (Rat.den b))))] (by kernel_rfl) trivial ?_
        refine st_slot 7 (natD (nval (dg (Rat.den a)) * nval (dg (Rat.den b)))) (natD (Rat.den a * Rat.den b)) (by kernel_rfl) (by simp (disch := omega) only [n3, n4]) (by kernel_rfl) ?_
        refine st_end0 [] [] [26, 27, 28, 29, 30] (True) [] (by kernel_rfl) trivial ?_
        refine awp_seq (awp_seq (awp_region rfl ?_))
        refine st_run0 3 [] [] (True ∧ 0 < 3 ∧ True) [(31, D.own 0 0), (32, bD (decide (Rat.num a < 0))), (33, D.own (1) 0)] (by kernel_rfl) ⟨trivial, (Nat.le_of_ble_eq_true (by kernel_rfl)), trivial⟩ ?_
        refine st_slot 33 (D.own (1) 0) (D.own 1 0) (by kernel_rfl) (by simp (disch := omega) only [List.length_cons, List.length_nil, Nat.zero_add]) (by kernel_rfl) ?_
        refine st_run0 2 [] [] (0 < 3 ∧ True) [(34, bD (decide (Rat.num b < 0))), (35, bD (decide (Rat.num a < 0) == decide (Rat.num b < 0)))] (by kernel_rfl) ⟨(Nat.le_of_ble_eq_true (by kernel_rfl)), trivial⟩ ?_
        refine st_slot 35 (bD (decide (Rat.num a < 0) == decide (Rat.num b < 0))) (bD false) (by kernel_rfl) (by simp (disch := omega) only [hq]) (by kernel_rfl) ?_
        refine st_end0 [] [] [31, 32, 33, 34] (True) [] (by kernel_rfl) trivial ?_
        refine cond_f (t := false) (by kernel_rfl) rfl ?_
        refine awp_skip (then_normal (next_same (awp_seq (awp_seq (awp_region rfl ?_)))))
        refine st_run0 2 [] [] (True) [(45, natD (Int.natAbs (Rat.num a) * Rat.den b)), (46, natD (Int.natAbs (Rat.num b) * Rat.den a))] (by kernel_rfl) trivial ?_
        refine st_callr [natD (Int.natAbs (Rat.num a) * Rat.den b), natD (Int.natAbs (Rat.num b) * Rat.den a)] (by kernel_rfl) (by exact sub_lt (dg (a.num.natAbs * b.den)) (dg (b.num.natAbs * a.den)) _ _ rfl rfl (by omega) (by omega) (digs_dg _) (digs_dg _) (by omega)) ?_
        refine st_end0 [] [] [35, 44, 45, 46, 47, 48, 49] (0 < 2 ∧ 1 < 2) [(8, D.row [] 0), (9, iD 19)] (by kernel_rfl) (by omega) ?_
        refine awp_seq (awp_region rfl ?_)
        refine st_end0 [] [] [9, 50] (True) [(51, bD false)] (by kernel_rfl) trivial ?_
        refine cond_f (t := false) (by kernel_rfl) rfl ?_
        refine awp_skip (then_normal (next_same (awp_seq (awp_region rfl ?_))))
        refine st_run0 2 [] [] (True) [(59, natD (Int.natAbs (Rat.num b) * Rat.den a)), (60, natD (Int.natAbs (Rat.num a) * Rat.den b))] (by kernel_rfl) trivial ?_
        refine st_callr [natD (Int.natAbs (Rat.num b) * Rat.den a), natD (Int.natAbs (Rat.num a) * Rat.den b)] (by kernel_rfl) (by exact sub_ge (dg (b.num.natAbs * a.den)) (dg (a.num.natAbs * b.den)) _ _ rfl rfl (by omega) (by omega) (digs_dg _) (digs_dg _) (by omega)) ?_
        refine st_run0 1 [] [] (True) [(58, D.tup [natD (nval (dg (Int.natAbs (Rat.num b) * Rat.den a)) - nval (dg (Int.natAbs (Rat.num a) * Rat.den b))), iD 0])] (by kernel_rfl) trivial ?_
        refine st_slot 58 (D.tup [natD (nval (dg (Int.natAbs (Rat.num b) * Rat.den a)) - nval (dg (Int.natAbs (Rat.num a) * Rat.den b))), iD 0]) (D.tup [natD (Int.natAbs (Rat.num b) * Rat.den a - Int.natAbs (Rat.num a) * Rat.den b), iD 0]) (by kernel_rfl) (by simp (disch := omega) only [n5, n6]) (by kernel_rfl) ?_
        refine st_end0 [] [] [2, 5, 6, 8, 11, 51, 58, 59, 60, 61, 62, 63] (0 < 2 ∧ 1 < 2) [(10, natD (Int.natAbs (Rat.num b) * Rat.den a - Int.natAbs (Rat.num a) * Rat.den b))] (by kernel_rfl) ⟨(Nat.le_of_ble_eq_true (by kernel_rfl)), (Nat.le_of_ble_eq_true (by kernel_rfl))⟩ ?_
        refine awp_seq (awp_region rfl ?_)
        refine st_run0 1 [] [] (True) [(64, D.own (1) 0)] (by kernel_rfl) trivial ?_
        refine st_slot 64 (D.own (1) 0) (D.own 1 0) (by kernel_rfl) (by simp (disch := omega) only [List.length_cons, List.length_nil, Nat.zero_add]) (by kernel_rfl) ?_
        refine st_run0 4 [] [] (0 < 3 ∧ (1 = 1 ∧ 1 ≤ 3 ∧ 1 = 1 ∧ 2 ≤ List.length (setAt [bD false, nl, nl] 0 (cellsOf (bD (decide (Rat.num b < 0))))) ∧ 1 = 1 ∧ 3 ≤ List.length (setAt (setAt [bD false, nl, nl] 0 (cellsOf (bD (decide (Rat.num b < 0))))) 1 (cellsOf (natD (Int.natAbs (Rat.num b) * Rat.den a - Int.natAbs (Rat.num a) * Rat.den b)))) ∧ True) ∧ true = true) [(65, bD (decide (Rat.num b < 0))), (66, natD (Int.natAbs (Rat.num b) * Rat.den a - Int.natAbs (Rat.num a) * Rat.den b)), (67, natD (Rat.den a * Rat.den b)), (68, D.agg [bD (decide (Rat.num b < 0)), natD (Int.natAbs (Rat.num b) * Rat.den a - Int.natAbs (Rat.num a) * Rat.den b), natD (Rat.den a * Rat.den b)])] (by kernel_rfl) ⟨(Nat.le_of_ble_eq_true (by kernel_rfl)), ⟨⟨(by kernel_rfl), ⟨(by omega), ⟨(by kernel_rfl), ⟨(Nat.le_of_ble_eq_true (by kernel_rfl)), ⟨(by kernel_rfl), ⟨(Nat.le_of_ble_eq_true (by kernel_rfl)), trivial⟩⟩⟩⟩⟩⟩, (by kernel_rfl)⟩⟩ ?_
        refine st_callr [D.agg [bD (decide (Rat.num b < 0)), natD (Int.natAbs (Rat.num b) * Rat.den a - Int.natAbs (Rat.num a) * Rat.den b), natD (Rat.den a * Rat.den b)]] (by kernel_rfl) (by exact r3) ?_
        refine st_end [] [] [3, 7, 10, 64, 65, 66, 67, 68, 69] (false = false ∧ true = true ∧ 3 = 3 ∧ 3 ≤ 3) [] [Bk.mk (ratL a) 95 0 false false, Bk.mk (ratL b) 95 0 false false, Bk.mk (ratL (a + b)) 95 0 false false] (by kernel_rfl) ⟨(by kernel_rfl), ⟨(by kernel_rfl), ⟨(by kernel_rfl), (by omega)⟩⟩⟩ ?_
        refine awp_ret ?_
        refine ret_run (3 ≤ 3) (D.agg (ratL (a + b))) (D.agg [D.val (Value.bool (decide (Rat.num (a + b) < 0))), natD (Int.natAbs (Rat.num (a + b))), natD (Rat.den (a + b))]) (.inr rfl) (by kernel_rfl) (Nat.le_of_ble_eq_true (by kernel_rfl)) rfl rfl
    · have r3 := qnorm_c (decide (a.num < 0)) (a.num.natAbs * b.den - b.num.natAbs * a.den) (a.den * b.den) (by omega) hd
      rw [e1, add_left a b h (by omega)] at r3
      refine pure_of_awp Tz_ok mixed Tryz.func92 rfl ?_
      focus
        refine awp_seq (awp_region rfl ?_)
        refine st_end [] [] [0, 1] (True) [(2, D.own 0 0), (3, D.own (1) 0), (4, D.own (2) 0)] [Bk.mk (ratL a) 95 0 false false, Bk.mk (ratL b) 95 0 false false, Bk.mk [bD false, nl, nl] 95 0 false false] (by kernel_rfl) trivial ?_
        refine awp_seq ?_
        refine awp_drawn [0, 1, 2, 3, 4, 5] (by kernel_rfl) rfl ?_
        refine st_run0 1 [] [] (3 ≤ 3) [(12, D.agg (ratL a))] (by kernel_rfl) (Nat.le_of_ble_eq_true (by kernel_rfl)) ?_
        refine st_callr [D.agg (ratL a)] (by kernel_rfl) (by exact r1) ?_
        refine st_run0 1 [] [] (3 ≤ 3) [(14, D.agg (ratL b))] (by kernel_rfl) (Nat.le_of_ble_eq_true (by kernel_rfl)) ?_
        refine st_callr [D.agg (ratL b)] (by kernel_rfl) (by exact r2) ?_
        refine st_end0 [] [] [12, 13, 14, 15] ((false = false ∧ true = true ∧ 3 = 3 ∧ 3 ≤ 3) ∧ false = false ∧ true = true ∧ 3 = 3 ∧ 3 ≤ 3) [] (by kernel_rfl) ⟨⟨(by kernel_rfl), ⟨(by kernel_rfl), ⟨(by kernel_rfl), (Nat.le_of_ble_eq_true (by kernel_rfl))⟩⟩⟩, ⟨(by kernel_rfl), ⟨(by kernel_rfl), ⟨(by kernel_rfl), (Nat.le_of_ble_eq_true (by kernel_rfl))⟩⟩⟩⟩ ?_
        refine awp_seq ?_
        refine awp_drawn [0, 2, 5, 7, 1, 3, 4, 6, 8, 9, 10, 11] (by kernel_rfl) rfl ?_
        refine st_run0 2 [] [] (True ∧ True) [(16, D.own 0 1), (18, D.own (1) 2)] (by kernel_rfl) ⟨trivial, trivial⟩ ?_
        refine st_slot 18 (D.own (1) 2) (D.own 1 2) (by kernel_rfl) (by simp (disch := omega) only [List.length_cons, List.length_nil, Nat.zero_add]) (by kernel_rfl) ?_
        refine st_run0 1 [] [] (True) [(21, D.own (1) 1)] (by kernel_rfl) trivial ?_
        refine st_slot 21 (D.own (1) 1) (D.own 1 1) (by kernel_rfl) (by simp (disch := omega) only [List.length_cons, List.length_nil, Nat.zero_add]) (by kernel_rfl) ?_
        refine st_run0 3 [] [] (True ∧ 0 < 2 ∧ 0 < 1) [(17, natD (Int.natAbs (Rat.num a))), (19, natD (Rat.den b)), (23, D.own 0 2)] (by kernel_rfl) ⟨trivial, (Nat.le_of_ble_eq_true (by kernel_rfl)), (Nat.le_of_ble_eq_true (by kernel_rfl))⟩ ?_
        refine st_callr [natD (Int.natAbs (Rat.num a)), natD (Rat.den b)] (by kernel_rfl) (by exact mul_c (dg a.num.natAbs) (dg b.den) _ _ rfl rfl (by omega) (by omega) (digs_dg _) (digs_dg _)) ?_
        refine st_run0 2 [] [] (0 < 2 ∧ 0 < 1) [(22, natD (Int.natAbs (Rat.num b))), (24, natD (Rat.den a))] (by kernel_rfl) ⟨(Nat.le_of_ble_eq_true (by kernel_rfl)), (Nat.le_of_ble_eq_true (by kernel_rfl))⟩ ?_
        refine st_callr [natD (Int.natAbs (Rat.num b)), natD (Rat.den a)] (by kernel_rfl) (by exact mul_c (dg b.num.natAbs) (dg a.den) _ _ rfl rfl (by omega) (by omega) (digs_dg _) (digs_dg _)) ?_
        refine st_run0 1 [] [] (True) [(5, natD (nval (dg (Int.natAbs (Rat.num a))) * nval (dg (Rat.den b))))] (by kernel_rfl) trivial ?_
        refine st_slot 5 (natD (nval (dg (Int.natAbs (Rat.num a))) * nval (dg (Rat.den b)))) (natD (Int.natAbs (Rat.num a) * Rat.den b)) (by kernel_rfl) (by simp (disch := omega) only [n1, n4]) (by kernel_rfl) ?_
        refine st_run0 1 [] [] (True) [(6, natD (nval (dg (Int.natAbs (Rat.num b))) * nval (dg (Rat.den a))))] (by kernel_rfl) trivial ?_
        refine st_slot 6 (natD (nval (dg (Int.natAbs (Rat.num b))) * nval (dg (Rat.den a)))) (natD (Int.natAbs (Rat.num b) * Rat.den a)) (by kernel_rfl) (by simp (disch := omega) only [n2, n3]) (by kernel_rfl) ?_
        refine st_end0 [] [] [16, 17, 18, 19, 20, 21, 22, 23, 24, 25] (True) [] (by kernel_rfl) trivial ?_
        refine awp_seq (awp_region rfl ?_)
        refine st_run0 3 [] [] (True ∧ 0 < 1 ∧ True) [(26, D.own 0 2), (27, natD (Rat.den a)), (28, D.own (1) 2)] (by kernel_rfl) ⟨trivial, (Nat.le_of_ble_eq_true (by kernel_rfl)), trivial⟩ ?_
        refine st_slot 28 (D.own (1) 2) (D.own 1 2) (by kernel_rfl) (by simp (disch := omega) only [List.length_cons, List.length_nil, Nat.zero_add]) (by kernel_rfl) ?_
        refine st_run0 1 [] [] (0 < 1) [(29, natD (Rat.den b))] (by kernel_rfl) (Nat.le_of_ble_eq_true (by kernel_rfl)) ?_
        refine st_callr [natD (Rat.den a), natD (Rat.den b)] (by kernel_rfl) (by exact mul_c (dg a.den) (dg b.den) _ _ rfl rfl (by omega) (by omega) (digs_dg _) (digs_dg _)) ?_
        refine st_run0 1 [] [] (True) [(7, natD (nval (dg (Rat.den a)) * nval (dg (Rat.den b))))] (by kernel_rfl) trivial ?_
        refine st_slot 7 (natD (nval (dg (Rat.den a)) * nval (dg (Rat.den b)))) (natD (Rat.den a * Rat.den b)) (by kernel_rfl) (by simp (disch := omega) only [n4, n3]) (by kernel_rfl) ?_
        refine st_end0 [] [] [26, 27, 28, 29, 30] (True) [] (by kernel_rfl) trivial ?_
        refine awp_seq (awp_seq (awp_region rfl ?_))
        refine st_run0 3 [] [] (True ∧ 0 < 3 ∧ True) [(31, D.own 0 0), (32, bD (decide (Rat.num a < 0))), (33, D.own (1) 0)] (by kernel_rfl) ⟨trivial, (Nat.le_of_ble_eq_true (by kernel_rfl)), trivial⟩ ?_
        refine st_slot 33 (D.own (1) 0) (D.own 1 0) (by kernel_rfl) (by simp (disch := omega) only [List.length_cons, List.length_nil, Nat.zero_add]) (by kernel_rfl) ?_
        refine st_run0 2 [] [] (0 < 3 ∧ True) [(34, bD (decide (Rat.num b < 0))), (35, bD (decide (Rat.num a < 0) == decide (Rat.num b < 0)))] (by kernel_rfl) ⟨(Nat.le_of_ble_eq_true (by kernel_rfl)), trivial⟩ ?_
        refine st_slot 35 (bD (decide (Rat.num a < 0) == decide (Rat.num b < 0))) (bD false) (by kernel_rfl) (by simp (disch := omega) only [hq]) (by kernel_rfl) ?_
        refine st_end0 [] [] [31, 32, 33, 34] (True) [] (by kernel_rfl) trivial ?_
        refine cond_f (t := false) (by kernel_rfl) rfl ?_
        refine awp_skip (then_normal (next_same (awp_seq (awp_seq (awp_region rfl ?_)))))
        refine st_run0 2 [] [] (True) [(45, natD (Int.natAbs (Rat.num a) * Rat.den b)), (46, natD (Int.natAbs (Rat.num b) * Rat.den a))] (by kernel_rfl) trivial ?_
        refine st_callr [natD (Int.natAbs (Rat.num a) * Rat.den b), natD (Int.natAbs (Rat.num b) * Rat.den a)] (by kernel_rfl) (by exact sub_ge (dg (a.num.natAbs * b.den)) (dg (b.num.natAbs * a.den)) _ _ rfl rfl (by omega) (by omega) (digs_dg _) (digs_dg _) (by omega)) ?_
        refine st_run0 1 [] [] (True) [(44, D.tup [natD (nval (dg (Int.natAbs (Rat.num a) * Rat.den b)) - nval (dg (Int.natAbs (Rat.num b) * Rat.den a))), iD 0])] (by kernel_rfl) trivial ?_
        refine st_slot 44 (D.tup [natD (nval (dg (Int.natAbs (Rat.num a) * Rat.den b)) - nval (dg (Int.natAbs (Rat.num b) * Rat.den a))), iD 0]) (D.tup [natD (Int.natAbs (Rat.num a) * Rat.den b - Int.natAbs (Rat.num b) * Rat.den a), iD 0]) (by kernel_rfl) (by simp (disch := omega) only [n6, n5]) (by kernel_rfl) ?_
        refine st_end0 [] [] [35, 44, 45, 46, 47, 48, 49] (0 < 2 ∧ 1 < 2) [(8, natD (Int.natAbs (Rat.num a) * Rat.den b - Int.natAbs (Rat.num b) * Rat.den a)), (9, iD 0)] (by kernel_rfl) ⟨(Nat.le_of_ble_eq_true (by kernel_rfl)), (Nat.le_of_ble_eq_true (by kernel_rfl))⟩ ?_
        refine awp_seq (awp_region rfl ?_)
        refine st_end0 [] [] [9, 50] (True) [(51, bD true)] (by kernel_rfl) trivial ?_
        refine cond_t (t := true) (by kernel_rfl) rfl ?_
        refine awp_seq (awp_region rfl ?_)
        refine st_run0 5 [] [] (True ∧ 0 < 3 ∧ (1 = 1 ∧ 1 ≤ 3 ∧ 1 = 1 ∧ 2 ≤ List.length (setAt [bD false, nl, nl] 0 (cellsOf (bD (decide (Rat.num a < 0))))) ∧ 1 = 1 ∧ 3 ≤ List.length (setAt (setAt [bD false, nl, nl] 0 (cellsOf (bD (decide (Rat.num a < 0))))) 1 (cellsOf (natD (Int.natAbs (Rat.num a) * Rat.den b - Int.natAbs (Rat.num b) * Rat.den a)))) ∧ True) ∧ true = true) [(52, D.own 0 0), (53, bD (decide (Rat.num a < 0))), (54, natD (Int.natAbs (Rat.num a) * Rat.den b - Int.natAbs (Rat.num b) * Rat.den a)), (55, natD (Rat.den a * Rat.den b)), (56, D.agg [bD (decide (Rat.num a < 0)), natD (Int.natAbs (Rat.num a) * Rat.den b - Int.natAbs (Rat.num b) * Rat.den a), natD (Rat.den a * Rat.den b)])] (by kernel_rfl) ⟨trivial, (Nat.le_of_ble_eq_true (by kernel_rfl)), ⟨⟨(by kernel_rfl), ⟨(by omega), ⟨(by kernel_rfl), ⟨(Nat.le_of_ble_eq_true (by kernel_rfl)), ⟨(by kernel_rfl), ⟨(Nat.le_of_ble_eq_true (by kernel_rfl)), trivial⟩⟩⟩⟩⟩⟩, (by kernel_rfl)⟩⟩ ?_
        refine st_callr [D.agg [bD (decide (Rat.num a < 0)), natD (Int.natAbs (Rat.num a) * Rat.den b - Int.natAbs (Rat.num b) * Rat.den a), natD (Rat.den a * Rat.den b)]] (by kernel_rfl) (by exact r3) ?_
        refine st_end [] [] [2, 8, 51, 52, 53, 54, 55, 56, 57] (false = false ∧ true = true ∧ 3 = 3 ∧ 3 ≤ 3) [] [Bk.mk (ratL a) 95 0 false false, Bk.mk (ratL b) 95 0 false false, Bk.mk (ratL (a + b)) 95 0 false false] (by kernel_rfl) ⟨(by kernel_rfl), ⟨(by kernel_rfl), ⟨(by kernel_rfl), (by omega)⟩⟩⟩ ?_
        refine awp_ret (then_ret ?_)
        refine ret_run (3 ≤ 3) (D.agg (ratL (a + b))) (D.agg [D.val (Value.bool (decide (Rat.num (a + b) < 0))), natD (Int.natAbs (Rat.num (a + b))), natD (Rat.den (a + b))]) (.inr rfl) (by kernel_rfl) (Nat.le_of_ble_eq_true (by kernel_rfl)) rfl rfl
set_option maxHeartbeats 4000000 in
theorem qmul_c (a b : Rat) (la : (dg a.num.natAbs).length ≤ 1000) (lb : (dg b.num.natAbs).length ≤ 1000) (hd : a.den * b.den < 4294967296) : Pure Tryz.prog 94 [ratD a, ratD b] [] (ratD (a * b)) := by
  have da := den_lt_left hd
  have db := den_lt_right hd
  have ka := dg_small _ da
  have kb := dg_small _ db
  have l1 := dlen_mul a.num.natAbs b.num.natAbs
  have e1 := d1_pos (Nat.mul_pos a.den_pos b.den_pos)
  have n1 := nval_dg a.num.natAbs
  have n2 := nval_dg b.num.natAbs
  have n3 := nval_dg a.den
  have n4 := nval_dg b.den
  have r1 := qnorm_self a (by omega) da
  have r2 := qnorm_self b (by omega) db
  have r3 := qnorm_c (decide (a.num < 0) != decide (b.num < 0)) (a.num.natAbs * b.num.natAbs) (a.den * b.den) (by omega) hd
  rw [e1, mul_sg a b] at r3
  refine pure_of_awp Tz_ok mixed Tryz.func94 rfl ?_
  focus
    refine awp_seq (awp_region rfl ?_)
    refine st_end [] [] [0, 1] (True) [(2, D.own 0 0), (3, D.own (1) 0), (4, D.own (2) 0)] [Bk.mk (ratL a) 95 0 false false, Bk.mk (ratL b) 95 0 false false, Bk.mk [bD false, nl, nl] 95 0 false false] (by kernel_rfl) trivial ?_
    refine awp_seq ?_
    refine awp_drawn [0, 1, 2, 3, 4, 5] (by kernel_rfl) rfl ?_
    refine st_run0 1 [] [] (3 ≤ 3) [(5, D.agg (ratL a))] (by kernel_rfl) (Nat.le_of_ble_eq_true (by kernel_rfl)) ?_
    refine st_callr [D.agg (ratL a)] (by kernel_rfl) (by exact r1) ?_
    refine st_run0 1 [] [] (3 ≤ 3) [(7, D.agg (ratL b))] (by kernel_rfl) (Nat.le_of_ble_eq_true (by kernel_rfl)) ?_
    refine st_callr [D.agg (ratL b)] (by kernel_rfl) (by exact r2) ?_
    refine st_end0 [] [] [5, 6, 7, 8] ((false = false ∧ true = true ∧ 3 = 3 ∧ 3 ≤ 3) ∧ false = false ∧ true = true ∧ 3 = 3 ∧ 3 ≤ 3) [] (by kernel_rfl) ⟨⟨(by kernel_rfl), ⟨(by kernel_rfl), ⟨(by kernel_rfl), (Nat.le_of_ble_eq_true (by kernel_rfl))⟩⟩⟩, ⟨(by kernel_rfl), ⟨(by kernel_rfl), ⟨(by kernel_rfl), (Nat.le_of_ble_eq_true (by kernel_rfl))⟩⟩⟩⟩ ?_
    refine awp_seq ?_
    refine awp_drawn [0, 2, 5, 7, 10, 12, 1, 3, 4, 6, 8, 9, 11, 13, 14, 15, 16, 17] (by kernel_rfl) rfl ?_
    refine st_run0 2 [] [] (True ∧ True) [(9, D.own 0 0), (11, D.own (1) 0)] (by kernel_rfl) ⟨trivial, trivial⟩ ?_
    refine st_slot 11 (D.own (1) 0) (D.own 1 0) (by kernel_rfl) (by simp (disch := omega) only [List.length_cons, List.length_nil, Nat.zero_add]) (by kernel_rfl) ?_
    refine st_run0 2 [] [] (True ∧ True) [(14, D.own 0 1), (16, D.own (1) 1)] (by kernel_rfl) ⟨trivial, trivial⟩ ?_
    refine st_slot 16 (D.own (1) 1) (D.own 1 1) (by kernel_rfl) (by simp (disch := omega) only [List.length_cons, List.length_nil, Nat.zero_add]) (by kernel_rfl) ?_
    refine st_run0 2 [] [] (True ∧ True) [(19, D.own 0 2), (21, D.own (1) 2)] (by kernel_rfl) ⟨trivial, trivial⟩ ?_
    refine st_slot 21 (D.own (1) 2) (D.own 1 2) (by kernel_rfl) (by simp (disch := omega) only [List.length_cons, List.length_nil, Nat.zero_add]) (by kernel_rfl) ?_
    refine st_run0 5 [] [] (0 < 3 ∧ 0 < 3 ∧ True ∧ 0 < 2 ∧ 0 < 2) [(10, bD (decide (Rat.num a < 0))), (12, bD (decide (Rat.num b < 0))), (13, bD !decide (Rat.num a < 0) == decide (Rat.num b < 0)), (15, natD (Int.natAbs (Rat.num a))), (17, natD (Int.natAbs (Rat.num b)))] (by kernel_rfl) ⟨(Nat.le_of_ble_eq_true (by kernel_rfl)), (Nat.le_of_ble_eq_true (by kernel_rfl)), trivial, (Nat.le_of_ble_eq_true (by kernel_rfl)), (Nat.le_of_ble_eq_true (by kernel_rfl))⟩ ?_
    refine st_callr [natD (Int.natAbs (Rat.num a)), natD (Int.natAbs (Rat.num b))] (by kernel_rfl) (by exact mul_c (dg a.num.natAbs) (dg b.num.natAbs) _ _ rfl rfl (by omega) (by omega) (digs_dg _) (digs_dg _)) ?_
    refine st_run0 2 [] [] (0 < 1 ∧ 0 < 1) [(20, natD (Rat.den a)), (22, natD (Rat.den b))] (by kernel_rfl) ⟨(Nat.le_of_ble_eq_true (by kernel_rfl)), (Nat.le_of_ble_eq_true (by kernel_rfl))⟩ ?_
    refine st_callr [natD (Rat.den a), natD (Rat.den b)] (by kernel_rfl) (by exact mul_c (dg a.den) (dg b.den) _ _ rfl rfl (by omega) (by omega) (digs_dg _) (digs_dg _)) ?_
    refine st_run0 1 [] [] ((1 = 1 ∧ 1 ≤ 3 ∧ 1 = 1 ∧ 2 ≤ List.length (setAt [bD false, nl, nl] 0 (cellsOf (bD !decide (Rat.num a < 0) == decide (Rat.num b < 0)))) ∧ 1 = 1 ∧ 3 ≤ List.length (setAt (setAt [bD false, nl, nl] 0 (cellsOf (bD !decide (Rat.num a < 0) == decide (Rat.num b < 0)))) 1 (cellsOf (natD (nval (dg (Int.natAbs (Rat.num a))) * nval (dg (Int.natAbs (Rat.num b))))))) ∧ True) ∧ true = true) [(24, D.agg [bD !decide (Rat.num a < 0) == decide (Rat.num b < 0), natD (nval (dg (Int.natAbs (Rat.num a))) * nval (dg (Int.natAbs (Rat.num b)))), natD (nval (dg (Rat.den a)) * nval (dg (Rat.den b)))])] (by kernel_rfl) ⟨⟨(by kernel_rfl), ⟨(by omega), ⟨(by kernel_rfl), ⟨(Nat.le_of_ble_eq_true (by kernel_rfl)), ⟨(by kernel_rfl), ⟨(Nat.le_of_ble_eq_true (by kernel_rfl)), trivial⟩⟩⟩⟩⟩⟩, (by kernel_rfl)⟩ ?_
    refine st_slot 24 (D.agg [bD !decide (Rat.num a < 0) == decide (Rat.num b < 0), natD (nval (dg (Int.natAbs (Rat.num a))) * nval (dg (Int.natAbs (Rat.num b)))), natD (nval (dg (Rat.den a)) * nval (dg (Rat.den b)))]) (D.agg [bD !decide (Rat.num a < 0) == decide (Rat.num b < 0), natD (Int.natAbs (Rat.num a) * Int.natAbs (Rat.num b)), natD (Rat.den a * Rat.den b)]) (by kernel_rfl) (by simp (disch := omega) only [n2, n3, n4, n1]) (by kernel_rfl) ?_
    refine st_callr [D.agg [bD !decide (Rat.num a < 0) == decide (Rat.num b < 0), natD (Int.natAbs (Rat.num a) * Int.natAbs (Rat.num b)), natD (Rat.den a * Rat.den b)]] (by kernel_rfl) (by exact r3) ?_
    refine st_end [] [] [2, 3, 9, 10, 11, 12, 13, 14, 15, 16, 17, 18, 19, 20, 21, 22, 23, 24, 25] (false = false ∧ true = true ∧ 3 = 3 ∧ 3 ≤ 3) [] [Bk.mk (ratL a) 95 0 false false, Bk.mk (ratL b) 95 0 false false, Bk.mk (ratL (a * b)) 95 0 false false] (by kernel_rfl) ⟨(by kernel_rfl), ⟨(by kernel_rfl), ⟨(by kernel_rfl), (by omega)⟩⟩⟩ ?_
    refine awp_ret ?_
    refine ret_run (3 ≤ 3) (D.agg (ratL (a * b))) (D.agg [D.val (Value.bool (decide (Rat.num (a * b) < 0))), natD (Int.natAbs (Rat.num (a * b))), natD (Rat.den (a * b))]) (.inr rfl) (by kernel_rfl) (Nat.le_of_ble_eq_true (by kernel_rfl)) rfl rfl
theorem qsign_c (a : Rat) (la : (dg a.num.natAbs).length ≤ 1000) : Pure Tryz.prog 101 [ratD a] [] (iD (sgnQ a)) := by
  have hz := nb_zero a.num.natAbs
  have n1 := nval_dg a.num.natAbs
  refine pure_of_awp Tz_ok mixed Tryz.func101 rfl ?_
  focus
    refine awp_seq (awp_region rfl ?_)
    refine st_end [] [] [0] (True) [(1, D.own 0 0), (2, iD 0)] [Bk.mk (ratL a) 95 0 false false] (by kernel_rfl) trivial ?_
    refine awp_seq (awp_block (awp_seq (awp_region rfl ?_)))
    refine st_run0 2 [] [] (True ∧ 0 < 2) [(4, D.own 0 1), (5, natD (Int.natAbs (Rat.num a)))] (by kernel_rfl) ⟨trivial, (Nat.le_of_ble_eq_true (by kernel_rfl))⟩ ?_
    refine st_callr [natD (Int.natAbs (Rat.num a))] (by kernel_rfl) (by exact bits_c (dg a.num.natAbs) _ rfl (by omega) (digs_dg _)) ?_
    refine st_run0 1 [] [] (True) [(7, bD ((↑(nb (nval (dg (Int.natAbs (Rat.num a))))) : Int) == (0 : Int)))] (by kernel_rfl) trivial ?_
    refine st_slot 7 (bD ((↑(nb (nval (dg (Int.natAbs (Rat.num a))))) : Int) == (0 : Int))) (bD ((↑(nb (Int.natAbs (Rat.num a))) : Int) == (0 : Int))) (by kernel_rfl) (by simp (disch := omega) only [n1]) (by kernel_rfl) ?_
    refine st_end0 [] [] [4, 5, 6, 7] (True) [(3, bD ((↑(nb (Int.natAbs (Rat.num a))) : Int) == (0 : Int)))] (by kernel_rfl) trivial ?_
    refine awp_cond (t := (↑(nb (Int.natAbs (Rat.num a))) : Int) == (0 : Int)) (by kernel_rfl) (fun hc => ?_) (fun hc => ?_)
    simp only [beq_iff_eq] at hc
    refine awp_seq (awp_region rfl ?_)
    refine st_end0 [] [] [1, 3] (True) [] (by kernel_rfl) trivial ?_
    refine awp_ret (block_ret (then_ret ?_))
    refine ret_run (True) (iD 0) (D.val (Value.int IntKind.i64 (0 : Int))) (.inr rfl) (by kernel_rfl) trivial rfl ?_
    rotate_left
    simp only [beq_eq_false_iff_ne] at hc
    refine awp_seq (awp_region rfl ?_)
    refine st_end0 [] [] [1, 3, 9, 10] (True ∧ 0 < 3) [(8, bD (decide (Rat.num a < 0)))] (by kernel_rfl) ⟨trivial, (Nat.le_of_ble_eq_true (by kernel_rfl))⟩ ?_
    refine awp_cond (t := decide (Rat.num a < 0)) (by kernel_rfl) (fun hc => ?_) (fun hc => ?_)
    simp only [decide_eq_true_eq] at hc
    refine awp_seq (awp_region rfl ?_)
    refine st_end0 [] [] [8] (True) [(2, iD (-1 : Int))] (by kernel_rfl) trivial ?_
    refine awp_ret (block_ret (then_ret ?_))
    refine ret_run (True) (iD (-1 : Int)) (D.val (Value.int IntKind.i64 (-1 : Int))) (.inr rfl) (by kernel_rfl) trivial rfl ?_
    rotate_left
    simp only [decide_eq_false_iff_not] at hc
    refine awp_skip (block_normal (then_normal (next_same (awp_seq (awp_region rfl ?_)))))
    refine st_end0 [] [] [8] (True) [(2, iD 1)] (by kernel_rfl) trivial ?_
    refine awp_ret ?_
    refine ret_run (True) (iD 1) (D.val (Value.int IntKind.i64 (1 : Int))) (.inr rfl) (by kernel_rfl) trivial rfl ?_
    rotate_left
  all_goals (unfold sgnQ; (repeat' split) <;> first | rfl | omega)
theorem qdiv_c (a : Rat) (hd : a.den < 4294967296) : Pure Tryz.prog 102 [ratD a] [] (natD a.den) := by
  have hz := nb_zero a.den
  have h0 := a.den_pos
  have ka := dg_small _ hd
  have n1 := nval_dg a.den
  refine pure_of_awp Tz_ok mixed Tryz.func102 rfl ?_
  focus
    refine awp_seq (awp_region rfl ?_)
    refine st_end [] [] [0] (True) [(1, D.own 0 0), (2, nl)] [Bk.mk (ratL a) 95 0 false false] (by kernel_rfl) trivial ?_
    refine awp_seq (awp_seq (awp_region rfl ?_))
    refine st_run0 2 [] [] (True ∧ 0 < 1) [(3, D.own 0 2), (4, natD (Rat.den a))] (by kernel_rfl) ⟨trivial, (Nat.le_of_ble_eq_true (by kernel_rfl))⟩ ?_
    refine st_callr [natD (Rat.den a)] (by kernel_rfl) (by exact bits_c (dg a.den) _ rfl (by omega) (digs_dg _)) ?_
    refine st_run0 1 [] [] (True) [(6, bD ((↑(nb (nval (dg (Rat.den a)))) : Int) == (0 : Int)))] (by kernel_rfl) trivial ?_
    refine st_slot 6 (bD ((↑(nb (nval (dg (Rat.den a)))) : Int) == (0 : Int))) (bD ((↑(nb (Rat.den a)) : Int) == (0 : Int))) (by kernel_rfl) (by simp (disch := omega) only [n1]) (by kernel_rfl) ?_
    refine st_end0 [] [] [3, 4, 5] (True) [] (by kernel_rfl) trivial ?_
    refine cond_f (t := (↑(nb (Rat.den a)) : Int) == (0 : Int)) (by kernel_rfl) (by exact decide_eq_false (by omega)) ?_
    refine awp_skip (then_normal (next_same (awp_seq (awp_region rfl ?_))))
    refine st_end0 [] [] [1, 6, 8, 9] (True ∧ 0 < 1) [(2, natD (Rat.den a))] (by kernel_rfl) ⟨trivial, (Nat.le_of_ble_eq_true (by kernel_rfl))⟩ ?_
    refine awp_ret ?_
    refine ret_run (True) (natD (Rat.den a)) (natD (Rat.den a)) (.inr rfl) (by kernel_rfl) trivial rfl rfl
set_option maxHeartbeats 2000000 in
theorem qcmp_c (a b : Rat) (la : (dg a.num.natAbs).length ≤ 1000) (lb : (dg b.num.natAbs).length ≤ 1000) (da : a.den < 4294967296) (db : b.den < 4294967296) : Pure Tryz.prog 75 [ratD a, ratD b] [] (iD (cmpQ a b)) := by
  have ka := dg_small _ da
  have kb := dg_small _ db
  have l1 := dlen_mul a.num.natAbs b.den
  have l2 := dlen_mul b.num.natAbs a.den
  have n1 := nval_dg a.num.natAbs
  have n2 := nval_dg b.num.natAbs
  have n3 := nval_dg a.den
  have n4 := nval_dg b.den
  have n5 := nval_dg (a.num.natAbs * b.den)
  have n6 := nval_dg (b.num.natAbs * a.den)
  have hs := cmp_same a b
  have hs' := cmp_signs a b
  have h1 : -1 ≤ sgnQ a ∧ sgnQ a ≤ 1 := by unfold sgnQ; (repeat' split) <;> omega
  have h2 : -1 ≤ cmpQ a b ∧ cmpQ a b ≤ 1 := by unfold cmpQ cmpD; (repeat' split) <;> omega
  refine pure_of_awp Tz_ok mixed Tryz.func75 rfl ?_
  focus
    refine awp_seq (awp_region rfl ?_)
    refine st_end [] [] [0, 1] (True) [(2, D.own 0 0), (3, D.own (1) 0), (4, iD 0)] [Bk.mk (ratL a) 95 0 false false, Bk.mk (ratL b) 95 0 false false] (by kernel_rfl) trivial ?_
    refine awp_seq (awp_region rfl ?_)
    refine st_run0 1 [] [] (3 ≤ 3) [(7, D.agg (ratL a))] (by kernel_rfl) (Nat.le_of_ble_eq_true (by kernel_rfl)) ?_
    refine st_callr [D.agg (ratL a)] (by kernel_rfl) (by exact qsign_c a la) ?_
    refine st_end0 [] [] [7, 8] (True) [(5, iD (sgnQ a))] (by kernel_rfl) trivial ?_
    refine awp_seq (awp_seq (awp_region rfl ?_))
    refine st_run0 1 [] [] (3 ≤ 3) [(9, D.agg (ratL b))] (by kernel_rfl) (Nat.le_of_ble_eq_true (by kernel_rfl)) ?_
    refine st_callr [D.agg (ratL b)] (by kernel_rfl) (by exact qsign_c b lb) ?_
    refine st_end0 [] [] [9, 10] (True) [(6, iD (sgnQ b))] (by kernel_rfl) trivial ?_
    refine awp_seq (awp_region rfl ?_)
    refine st_end0 [] [] [11, 12] (True) [(13, bD (sgnQ a != sgnQ b))] (by kernel_rfl) trivial ?_
    refine awp_cond (t := sgnQ a != sgnQ b) (by kernel_rfl) (fun hc => ?_) (fun hc => ?_)
    simp only [bne_iff_ne] at hc
    refine awp_seq (awp_region rfl ?_)
    refine st_run0 2 [] [] (True) [(14, iD (sgnQ a)), (15, iD (sgnQ b))] (by kernel_rfl) trivial ?_
    refine st_callr [iD (sgnQ a), iD (sgnQ b)] (by kernel_rfl) (by exact cmpo_int _ _) ?_
    refine st_end0 [] [] [6, 13, 14, 15, 16] (True) [(4, iD (cmpD (sgnQ a) (sgnQ b)))] (by kernel_rfl) trivial ?_
    refine awp_ret (then_ret ?_)
    refine ret_run (True) (iD (cmpD (sgnQ a) (sgnQ b))) (D.val (Value.int IntKind.i64 (cmpD (sgnQ a) (sgnQ b)))) (.inr rfl) (by kernel_rfl) trivial rfl ?_
    rotate_left
    simp only [bne_eq_false_iff_eq] at hc
    refine awp_skip (then_normal (next_same (awp_seq ?_)))
    refine awp_drawn [0, 1, 6, 2, 3, 4, 5, 7, 8, 9, 10, 11, 12, 13] (by kernel_rfl) rfl ?_
    refine st_run0 3 [] [] (True ∧ True) [(17, iD (sgnQ a)), (18, D.own 0 1), (23, D.own (1) 1)] (by kernel_rfl) ⟨trivial, trivial⟩ ?_
    refine st_slot 23 (D.own (1) 1) (D.own 1 1) (by kernel_rfl) (by simp (disch := omega) only [List.length_cons, List.length_nil, Nat.zero_add]) (by kernel_rfl) ?_
    refine st_run0 2 [] [] (0 < 2 ∧ 3 ≤ 3) [(19, natD (Int.natAbs (Rat.num a))), (20, D.agg (ratL b))] (by kernel_rfl) ⟨(Nat.le_of_ble_eq_true (by kernel_rfl)), (Nat.le_of_ble_eq_true (by kernel_rfl))⟩ ?_
    refine st_callr [D.agg (ratL b)] (by kernel_rfl) (by exact qdiv_c b db) ?_
    refine st_callr [natD (Int.natAbs (Rat.num a)), natD (Rat.den b)] (by kernel_rfl) (by exact mul_c (dg a.num.natAbs) (dg b.den) _ _ rfl rfl (by omega) (by omega) (digs_dg _) (digs_dg _)) ?_
    refine st_run0 2 [] [] (0 < 2 ∧ 3 ≤ 3) [(24, natD (Int.natAbs (Rat.num b))), (25, D.agg (ratL a))] (by kernel_rfl) ⟨(Nat.le_of_ble_eq_true (by kernel_rfl)), (Nat.le_of_ble_eq_true (by kernel_rfl))⟩ ?_
    refine st_callr [D.agg (ratL a)] (by kernel_rfl) (by exact qdiv_c a da) ?_
    refine st_callr [natD (Int.natAbs (Rat.num b)), natD (Rat.den a)] (by kernel_rfl) (by exact mul_c (dg b.num.natAbs) (dg a.den) _ _ rfl rfl (by omega) (by omega) (digs_dg _) (digs_dg _)) ?_
    refine st_call0 [natD (nval (dg (Int.natAbs (Rat.num a))) * nval (dg (Rat.den b))), natD (nval (dg (Int.natAbs (Rat.num b))) * nval (dg (Rat.den a)))] [natD (Int.natAbs (Rat.num a) * Rat.den b), natD (Int.natAbs (Rat.num b) * Rat.den a)] (by kernel_rfl) (LeL.of_eq (by simp (disch := omega) only [n4, n1, n2, n3])) (by exact cmp_c (dg (a.num.natAbs * b.den)) (dg (b.num.natAbs * a.den)) _ _ rfl rfl (by omega) (by omega) (digs_dg _) (digs_dg _)) ?_
    refine st_run0 1 [29] [] (True) [(29, iD (IntKind.wrap IntKind.i64 (sgnQ a * cmpD (↑(nval (dg (Int.natAbs (Rat.num a) * Rat.den b))) : Int) (↑(nval (dg (Int.natAbs (Rat.num b) * Rat.den a))) : Int))))] (by kernel_rfl) trivial ?_
    refine st_slot 29 (iD (IntKind.wrap IntKind.i64 (sgnQ a * cmpD (↑(nval (dg (Int.natAbs (Rat.num a) * Rat.den b))) : Int) (↑(nval (dg (Int.natAbs (Rat.num b) * Rat.den a))) : Int)))) (iD (sgnQ a * cmpD (↑(Int.natAbs (Rat.num a) * Rat.den b) : Int) (↑(Int.natAbs (Rat.num b) * Rat.den a) : Int))) (by kernel_rfl) (by simp (disch := omega) only [wrap_i64, n5, n6]) (by kernel_rfl) ?_
    refine st_end0 [] [] [2, 3, 5, 6, 13, 17, 18, 19, 20, 21, 22, 23, 24, 25, 26, 27, 28, 29] (True) [(4, iD (sgnQ a * cmpD (↑(Int.natAbs (Rat.num a) * Rat.den b) : Int) (↑(Int.natAbs (Rat.num b) * Rat.den a) : Int)))] (by kernel_rfl) trivial ?_
    refine awp_ret ?_
    refine ret_run (True) (iD (sgnQ a * cmpD (↑(Int.natAbs (Rat.num a) * Rat.den b) : Int) (↑(Int.natAbs (Rat.num b) * Rat.den a) : Int))) (D.val (Value.int IntKind.i64 (sgnQ a * cmpD (↑(Int.natAbs (Rat.num a) * Rat.den b) : Int) (↑(Int.natAbs (Rat.num b) * Rat.den a) : Int)))) (.inr rfl) (by kernel_rfl) trivial rfl ?_
    rotate_left
  · rw [hs' hc]
  · rw [hs hc]
theorem LeD.agg3 {a b c c' : D} (h : LeD c c') : LeD (.agg [a, b, c]) (.agg [a, b, c']) := fun I w β v hr => by
  simp only [Rel, RelL] at hr ⊢
  obtain ⟨vs, rfl, v1, us1, rfl, o1, r1, v2, us2, rfl, o2, r2, v3, us3, rfl, o3, r3, rfl⟩ := hr
  exact ⟨_, rfl, _, _, rfl, o1, r1, _, _, rfl, o2, r2, _, _, rfl, o3, h _ _ _ _ r3, rfl⟩
theorem nil_nat : LeD (.val (.slice none 0 0)) (natD 0) := (show natD 0 = .row [] 0 by simp [natD, dg]) ▸ .nil_row
theorem qnormR_nil (neg : Bool) (l : List Nat) (hl : l.length ≤ 10000) (hd : Digs l) : Pure Tryz.prog 97 [.agg [bD neg, digR l, .val (.slice none 0 0)]] [] (ratD ((sg neg (nval l) : Int) : Rat)) := by
  have := qnormR_c neg l _ 0 hl hd rfl (by decide)
  rw [show d1 0 = 1 from rfl, show mkRat (sg neg (nval l)) 1 = ((sg neg (nval l) : Int) : Rat) from (Rat.mkRat_one _)] at this
  exact Pure.le this (.cons (.agg3 nil_nat) .nil)
theorem qnorm_nil (neg : Bool) (n : Nat) (hn : (dg n).length ≤ 10000) : Pure Tryz.prog 97 [.agg [bD neg, natD n, .val (.slice none 0 0)]] [] (ratD ((sg neg n : Int) : Rat)) := by
  have := qnormR_nil neg (dg n) hn (digs_dg n)
  rwa [nval_dg] at this
theorem mag_c (z : Int) (h : -9223372036854775808 ≤ z) (h' : z ≤ 9223372036854775807) : Pure Tryz.prog 98 [iD z] [] (natD z.natAbs) := by
  have c := of_c z.natAbs (by omega)
  by_cases hz : z < 0
  · have m1 : IntKind.u64.wrap (0 - IntKind.u64.wrap z) = (z.natAbs : Int) := by rw [u64_w, u64_w]; omega
    refine pure_of_awp Tz_ok mixed Tryz.func98 rfl ?_
    focus
      refine awp_seq (awp_region rfl ?_)
      refine st_end0 [] [] [] (True) [(2, nl)] (by kernel_rfl) trivial ?_
      refine awp_seq (awp_seq (awp_region rfl ?_))
      refine st_end0 [] [] [3] (True) [(4, bD (decide (z < 0)))] (by kernel_rfl) trivial ?_
      refine cond_t (t := decide (z < 0)) (by kernel_rfl) (by exact decide_eq_true (by omega)) ?_
      refine awp_seq (awp_region rfl ?_)
      refine st_run0 3 [6, 7] [] (True ∧ True) [(5, iD z), (6, D.val (Value.int IntKind.u64 (IntKind.wrap IntKind.u64 z))), (7, D.val (Value.int IntKind.u64 (IntKind.wrap IntKind.u64 ((0 : Int) - IntKind.wrap IntKind.u64 z))))] (by kernel_rfl) ⟨trivial, trivial⟩ ?_
      refine st_slot 7 (D.val (Value.int IntKind.u64 (IntKind.wrap IntKind.u64 ((0 : Int) - IntKind.wrap IntKind.u64 z)))) (D.val (Value.int IntKind.u64 (↑(Int.natAbs z) : Int))) (by kernel_rfl) (by simp (disch := omega) only [m1]) (by kernel_rfl) ?_
      refine st_callr [D.val (Value.int IntKind.u64 (↑(Int.natAbs z) : Int))] (by kernel_rfl) (by exact c) ?_
      refine st_end0 [] [] [4, 5, 6, 7, 8] (True) [(2, natD (Int.natAbs z))] (by kernel_rfl) trivial ?_
      refine awp_ret (then_ret ?_)
      refine ret_run (True) (natD (Int.natAbs z)) (natD (Int.natAbs z)) (.inr rfl) (by kernel_rfl) trivial rfl rfl
  · have m1 : (z.natAbs : Int) = z := by omega
    rw [m1] at c
    refine pure_of_awp Tz_ok mixed Tryz.func98 rfl ?_
    focus
      refine awp_seq (awp_region rfl ?_)
      refine st_end0 [] [] [] (True) [(2, nl)] (by kernel_rfl) trivial ?_
      refine awp_seq (awp_seq (awp_region rfl ?_))
      refine st_end0 [] [] [3] (True) [(4, bD (decide (z < 0)))] (by kernel_rfl) trivial ?_
      refine cond_f (t := decide (z < 0)) (by kernel_rfl) (by exact decide_eq_false (by omega)) ?_
      refine awp_skip (then_normal (next_same (awp_seq (awp_region rfl ?_))))
      refine st_run0 2 [] [] ((0 : Int) ≤ z ∧ z ≤ (18446744073709551615 : Int)) [(9, iD z), (10, D.val (Value.int IntKind.u64 z))] (by kernel_rfl) (by omega) ?_
      refine st_callr [D.val (Value.int IntKind.u64 z)] (by kernel_rfl) (by exact c) ?_
      refine st_end0 [] [] [0, 4, 9, 10, 11] (True) [(2, natD (Int.natAbs z))] (by kernel_rfl) trivial ?_
      refine awp_ret ?_
      refine ret_run (True) (natD (Int.natAbs z)) (natD (Int.natAbs z)) (.inr rfl) (by kernel_rfl) trivial rfl rfl
end Go.Proofs.YtgbhoceamcomfaaGreat
namespace Go.Proofs.YtgbhoceamcomfaaGreat
open Go.RowKit
attribute [local irreducible] seqW awp thenW nextW blockW Weak updS deadS retL Pure Acts
set_option linter.unusedVariables false
set_option linter.unusedSimpArgs false
set_option maxRecDepth 4096
theorem qint_c (z : Int) (q : Rat) (hq : q = (z : Rat)) (h : -9223372036854775808 ≤ z) (h' : z ≤ 9223372036854775807) : Pure Tryz.prog 73 [iD z] [] (ratD q) := by
  have r := qnorm_nil (decide (z < 0)) z.natAbs (by have := dg_len_pow z.natAbs 2 (by omega); omega)
  rw [sg_self, ← hq] at r
  refine pure_of_awp Tz_ok mixed Tryz.func73 rfl ?_
  focus
    refine awp_seq (awp_region rfl ?_)
    refine st_end [] [] [] (True) [(2, D.own 0 0)] [Bk.mk [bD false, nl, nl] 95 0 false false] (by kernel_rfl) trivial ?_
    refine awp_seq (awp_region rfl ?_)
    refine st_run0 3 [] [] (True) [(3, iD z), (4, bD (decide (z < 0))), (5, iD z)] (by kernel_rfl) trivial ?_
    refine st_callr [iD z] (by kernel_rfl) (by exact mag_c z h h') ?_
    refine st_run0 1 [] [] ((1 = 1 ∧ 1 ≤ 3 ∧ 1 = 1 ∧ 2 ≤ List.length (setAt [bD false, nl, nl] 0 (cellsOf (bD (decide (z < 0))))) ∧ True) ∧ true = true) [(7, D.agg [bD (decide (z < 0)), natD (Int.natAbs z), nl])] (by kernel_rfl) ⟨⟨(by kernel_rfl), ⟨(by omega), ⟨(by kernel_rfl), ⟨(lb (by kernel_rfl)), trivial⟩⟩⟩⟩, (by kernel_rfl)⟩ ?_
    refine st_callr [D.agg [bD (decide (z < 0)), natD (Int.natAbs z), nl]] (by kernel_rfl) (by exact r) ?_
    refine st_end [] [] [0, 3, 4, 5, 6, 7, 8] (false = false ∧ true = true ∧ 3 = 3 ∧ 3 ≤ 3) [] [Bk.mk (ratL q) 95 0 false false] (by kernel_rfl) ⟨(by kernel_rfl), ⟨(by kernel_rfl), ⟨(by kernel_rfl), (by omega)⟩⟩⟩ ?_
    refine awp_ret ?_
    refine ret_run (3 ≤ 3) (D.agg (ratL q)) (D.agg [D.val (Value.bool (decide (Rat.num q < 0))), natD (Int.natAbs (Rat.num q)), natD (Rat.den q)]) (.inr rfl) (by kernel_rfl) (lb (by kernel_rfl)) rfl rfl
theorem qnatR_c (l : List Nat) (q : Rat) (hq : q = (((nval l : Nat) : Int) : Rat)) (h : l.length ≤ 1000) (hd : Digs l) : Pure Tryz.prog 95 [digR l] [] (ratD q) := by
  have r := qnormR_nil false l (by omega) hd
  rw [show sg false (nval l) = (nval l : Int) from rfl, ← hq] at r
  refine pure_of_awp Tz_ok mixed Tryz.func95 rfl ?_
  focus
    refine awp_seq (awp_region rfl ?_)
    refine st_end [] [] [] (True) [(2, D.own 0 0)] [Bk.mk [bD false, nl, nl] 95 0 false false] (by kernel_rfl) trivial ?_
    refine awp_seq (awp_region rfl ?_)
    refine st_run0 2 [] [] ((1 = 1 ∧ 2 ≤ 3 ∧ True) ∧ true = true) [(3, digR l), (4, D.agg [bD false, digR l, nl])] (by kernel_rfl) ⟨⟨(by kernel_rfl), ⟨(by omega), trivial⟩⟩, (by kernel_rfl)⟩ ?_
    refine st_callr [D.agg [bD false, digR l, nl]] (by kernel_rfl) (by exact r) ?_
    refine st_end [] [] [0, 3, 4, 5] (false = false ∧ true = true ∧ 3 = 3 ∧ 3 ≤ 3) [] [Bk.mk (ratL q) 95 0 false false] (by kernel_rfl) ⟨(by kernel_rfl), ⟨(by kernel_rfl), ⟨(by kernel_rfl), (by omega)⟩⟩⟩ ?_
    refine awp_ret ?_
    refine ret_run (3 ≤ 3) (D.agg (ratL q)) (D.agg [D.val (Value.bool (decide (Rat.num q < 0))), natD (Int.natAbs (Rat.num q)), natD (Rat.den q)]) (.inr rfl) (by kernel_rfl) (lb (by kernel_rfl)) rfl rfl
abbrev momR (l : List Nat) (q : Rat) : D := .agg [digR l, bD (decide (q.num < 0)), natD q.num.natAbs, natD q.den]
abbrev momD (c : Nat) (q : Rat) : D := .agg [natD c, bD (decide (q.num < 0)), natD q.num.natAbs, natD q.den]
theorem mzero_c (c : Nat) (q : Rat) (hc : c = 0) (hq : q = ((0 : Int) : Rat)) : Pure Tryz.prog 186 [.agg []] [] (momD c q) := by
  have z0 : natD c = .row [] 0 := by subst hc; simp [natD, dg]
  refine pure_of_awp Tz_ok mixed Tryz.func186 rfl ?_
  focus
    refine awp_seq (awp_region rfl ?_)
    refine st_end [] [] [0, 1] (True) [(2, D.own 1 0)] [Bk.mk [] 83 0 false false, Bk.mk [nl, bD false, nl, nl] 97 0 false false] (by kernel_rfl) trivial ?_
    refine awp_seq (awp_region rfl ?_)
    refine st_callr [iD 0] (by kernel_rfl) (by exact qint_c 0 q hq (by decide) (by decide)) ?_
    refine st_end [] [] [3, 4] (((3 = 3 ∧ 4 ≤ 4 ∧ True) ∧ true = true) ∧ false = false ∧ true = true ∧ 4 = 4 ∧ 4 ≤ 4) [] [Bk.mk [] 83 0 false false, Bk.mk [nl, bD (decide (Rat.num q < 0)), natD (Int.natAbs (Rat.num q)), natD (Rat.den q)] 97 0 false false] (by kernel_rfl) ⟨⟨⟨(by kernel_rfl), ⟨(by omega), trivial⟩⟩, (by kernel_rfl)⟩, ⟨(by kernel_rfl), ⟨(by kernel_rfl), ⟨(by kernel_rfl), (by omega)⟩⟩⟩⟩ ?_
    refine awp_ret ?_
    refine ret_run (4 ≤ 4) (D.agg [D.row [] 0, bD (decide (Rat.num q < 0)), natD (Int.natAbs (Rat.num q)), natD (Rat.den q)]) (D.agg [D.row [] 0, D.val (Value.bool (decide (Rat.num q < 0))), natD (Int.natAbs (Rat.num q)), natD (Rat.den q)]) (.inr rfl) (by kernel_rfl) (lb (by kernel_rfl)) rfl ?_
    rotate_left
  rw [← z0]
theorem mone_c (c : Nat) (q : Rat) (hc : c = 1) (hq : q = ((0 : Int) : Rat)) : Pure Tryz.prog 185 [.agg []] [] (momD c q) := by
  have o := of_c 1 (by decide)
  rw [← hc] at o
  have hc' : ((c : Nat) : Int) = 1 := by omega
  rw [hc'] at o
  refine pure_of_awp Tz_ok mixed Tryz.func185 rfl ?_
  focus
    refine awp_seq (awp_region rfl ?_)
    refine st_end [] [] [0, 1] (True) [(2, D.own 1 0)] [Bk.mk [] 83 0 false false, Bk.mk [nl, bD false, nl, nl] 97 0 false false] (by kernel_rfl) trivial ?_
    refine awp_seq (awp_region rfl ?_)
    refine st_callr [D.val (Value.int IntKind.u64 (1 : Int))] (by kernel_rfl) (by exact o) ?_
    refine st_callr [iD 0] (by kernel_rfl) (by exact qint_c 0 q hq (by decide) (by decide)) ?_
    refine st_end [] [] [3, 4, 5] (((1 = 1 ∧ 1 ≤ 4 ∧ 3 = 3 ∧ 4 ≤ List.length (setAt [nl, bD false, nl, nl] 0 (cellsOf (natD c))) ∧ True) ∧ true = true) ∧ false = false ∧ true = true ∧ 4 = 4 ∧ 4 ≤ 4) [] [Bk.mk [] 83 0 false false, Bk.mk [natD c, bD (decide (Rat.num q < 0)), natD (Int.natAbs (Rat.num q)), natD (Rat.den q)] 97 0 false false] (by kernel_rfl) ⟨⟨⟨(by kernel_rfl), ⟨(by omega), ⟨(by kernel_rfl), ⟨(lb (by kernel_rfl)), trivial⟩⟩⟩⟩, (by kernel_rfl)⟩, ⟨(by kernel_rfl), ⟨(by kernel_rfl), ⟨(by kernel_rfl), (by omega)⟩⟩⟩⟩ ?_
    refine awp_ret ?_
    refine ret_run (4 ≤ 4) (D.agg [natD c, bD (decide (Rat.num q < 0)), natD (Int.natAbs (Rat.num q)), natD (Rat.den q)]) (D.agg [natD c, D.val (Value.bool (decide (Rat.num q < 0))), natD (Int.natAbs (Rat.num q)), natD (Rat.den q)]) (.inr rfl) (by kernel_rfl) (lb (by kernel_rfl)) rfl rfl
theorem maddR_c (c d : List Nat) (p q : Rat) (hc : c.length ≤ 1000) (hd : d.length ≤ 1000) (kc : Digs c) (kd : Digs d) (hp : (dg p.num.natAbs).length ≤ 1000) (hq : (dg q.num.natAbs).length ≤ 1000) (hpq : p.den * q.den < 4294967296) : Pure Tryz.prog 55 [.agg [], momR c p, momR d q] [] (momD (nval c + nval d) (p + q)) := by
  refine pure_of_awp Tz_ok mixed Tryz.func55 rfl ?_
  focus
    refine awp_seq (awp_region rfl ?_)
    refine st_end [] [] [0, 1, 2, 3] (True) [(4, D.own 1 0), (5, D.own (2) 0), (6, D.own (3) 0)] [Bk.mk [] 83 0 false false, Bk.mk [digR c, bD (decide (Rat.num p < 0)), natD (Int.natAbs (Rat.num p)), natD (Rat.den p)] 97 0 false false, Bk.mk [digR d, bD (decide (Rat.num q < 0)), natD (Int.natAbs (Rat.num q)), natD (Rat.den q)] 97 0 false false, Bk.mk [nl, bD false, nl, nl] 97 0 false false] (by kernel_rfl) trivial ?_
    refine awp_seq ?_
    refine awp_drawn [0, 2, 5, 7, 1, 3, 4, 6, 8, 9, 10, 11] (by kernel_rfl) rfl ?_
    refine st_run0 2 [] [] (True ∧ True) [(7, D.own 1 0), (9, D.own (2) 0)] (by kernel_rfl) ⟨trivial, trivial⟩ ?_
    refine st_slot 9 (D.own (2) 0) (D.own 2 0) (by kernel_rfl) (by simp (disch := omega) only [List.length_cons, List.length_nil, Nat.zero_add, Nat.reduceAdd]) (by kernel_rfl) ?_
    refine st_run0 2 [] [] (True ∧ True) [(12, D.own 1 1), (14, D.own (2) 1)] (by kernel_rfl) ⟨trivial, trivial⟩ ?_
    refine st_slot 14 (D.own (2) 1) (D.own 2 1) (by kernel_rfl) (by simp (disch := omega) only [List.length_cons, List.length_nil, Nat.zero_add, Nat.reduceAdd]) (by kernel_rfl) ?_
    refine st_run0 2 [] [] (0 < 4 ∧ 0 < 4) [(8, digR c), (10, digR d)] (by kernel_rfl) ⟨(lb (by kernel_rfl)), (lb (by kernel_rfl))⟩ ?_
    refine st_callr [digR c, digR d] (by kernel_rfl) (by exact add_c c d _ _ rfl rfl (by omega) (by omega) kc kd) ?_
    refine st_run0 2 [] [] (3 ≤ 3 ∧ 3 ≤ 3) [(13, D.agg (ratL p)), (15, D.agg (ratL q))] (by kernel_rfl) ⟨(lb (by kernel_rfl)), (lb (by kernel_rfl))⟩ ?_
    refine st_callr [D.agg (ratL p), D.agg (ratL q)] (by kernel_rfl) (by exact qadd_c p q hp hq hpq) ?_
    refine st_end [] [] [4, 5, 7, 8, 9, 10, 11, 12, 13, 14, 15, 16, 17] (((1 = 1 ∧ 1 ≤ 4 ∧ 3 = 3 ∧ 4 ≤ List.length (setAt [nl, bD false, nl, nl] 0 (cellsOf (natD (nval c + nval d)))) ∧ True) ∧ true = true) ∧ false = false ∧ true = true ∧ 4 = 4 ∧ 4 ≤ 4) [] [Bk.mk [] 83 0 false false, Bk.mk [digR c, bD (decide (Rat.num p < 0)), natD (Int.natAbs (Rat.num p)), natD (Rat.den p)] 97 0 false false, Bk.mk [digR d, bD (decide (Rat.num q < 0)), natD (Int.natAbs (Rat.num q)), natD (Rat.den q)] 97 0 false false, Bk.mk [natD (nval c + nval d), bD (decide (Rat.num (p + q) < 0)), natD (Int.natAbs (Rat.num (p + q))), natD (Rat.den (p + q))] 97 0 false false] (by kernel_rfl) ⟨⟨⟨(by kernel_rfl), ⟨(by omega), ⟨(by kernel_rfl), ⟨(lb (by kernel_rfl)), trivial⟩⟩⟩⟩, (by kernel_rfl)⟩, ⟨(by kernel_rfl), ⟨(by kernel_rfl), ⟨(by kernel_rfl), (by omega)⟩⟩⟩⟩ ?_
    refine awp_ret ?_
    refine ret_run (4 ≤ 4) (D.agg [natD (nval c + nval d), bD (decide (Rat.num (p + q) < 0)), natD (Int.natAbs (Rat.num (p + q))), natD (Rat.den (p + q))]) (D.agg [natD (nval c + nval d), D.val (Value.bool (decide (Rat.num (p + q) < 0))), natD (Int.natAbs (Rat.num (p + q))), natD (Rat.den (p + q))]) (.inr rfl) (by kernel_rfl) (lb (by kernel_rfl)) rfl rfl
theorem cD_den (n : Nat) : (((n : Nat) : Int) : Rat).den = 1 := Rat.den_intCast _
theorem cD_num (n : Nat) : (((n : Nat) : Int) : Rat).num = (n : Int) := Rat.num_intCast _
theorem lenQ_nat (n : Nat) : (dg (((n : Nat) : Int) : Rat).num.natAbs).length = (dg n).length := by rw [cD_num]; rfl
theorem lenQ_mul (a b : Rat) : (dg (a * b).num.natAbs).length ≤ (dg a.num.natAbs).length + (dg b.num.natAbs).length := by
  have h := mk_abs (decide (a.num < 0) != decide (b.num < 0)) (a.num.natAbs * b.num.natAbs) (a.den * b.den) (Nat.mul_ne_zero a.den_nz b.den_nz)
  rw [mul_sg] at h
  refine Nat.le_trans (dlen_le (h ▸ Nat.div_le_self _ _)) (dlen_mul _ _)
set_option maxHeartbeats 2000000 in
theorem mmulR_c (c d : List Nat) (p q : Rat) (hc : c.length ≤ 300) (hd : d.length ≤ 300) (kc : Digs c) (kd : Digs d) (hp : (dg p.num.natAbs).length ≤ 300) (hq : (dg q.num.natAbs).length ≤ 300) (hpq : q.den * p.den < 4294967296) : Pure Tryz.prog 57 [.agg [], momR c p, momR d q] [] (momD (nval c * nval d) ((((nval c : Nat) : Int) : Rat) * q + (((nval d : Nat) : Int) : Rat) * p)) := by
  have k1 := dg_len kc
  have k2 := dg_len kd
  have l1 := lenQ_mul (((nval c : Nat) : Int) : Rat) q
  have l2 := lenQ_mul (((nval d : Nat) : Int) : Rat) p
  rw [lenQ_nat] at l1 l2
  have m1 := mul_den_le (((nval c : Nat) : Int) : Rat) q
  have m2 := mul_den_le (((nval d : Nat) : Int) : Rat) p
  rw [cD_den, Nat.one_mul] at m1 m2
  have m3 : ((((nval c : Nat) : Int) : Rat) * q).den * ((((nval d : Nat) : Int) : Rat) * p).den < 4294967296 := Nat.lt_of_le_of_lt (Nat.mul_le_mul m1 m2) hpq
  have dq := den_lt_left hpq
  have dp := den_lt_right hpq
  have r1 := qmul_c (((nval c : Nat) : Int) : Rat) q (by rw [lenQ_nat]; omega) (by omega) (by rw [cD_den]; omega)
  have r2 := qmul_c (((nval d : Nat) : Int) : Rat) p (by rw [lenQ_nat]; omega) (by omega) (by rw [cD_den]; omega)
  have r3 := qadd_c _ _ (by omega) (by omega) m3
  have r4 := qnatR_c c _ rfl (by omega) kc
  have r5 := qnatR_c d _ rfl (by omega) kd
  generalize (((nval c : Nat) : Int) : Rat) = u at *
  generalize (((nval d : Nat) : Int) : Rat) = v at *
  refine pure_of_awp Tz_ok mixed Tryz.func57 rfl ?_
  focus
    refine awp_seq (awp_region rfl ?_)
    refine st_end [] [] [0, 1, 2, 3] (True) [(4, D.own 1 0), (5, D.own (2) 0), (6, D.own (3) 0)] [Bk.mk [] 83 0 false false, Bk.mk [digR c, bD (decide (Rat.num p < 0)), natD (Int.natAbs (Rat.num p)), natD (Rat.den p)] 97 0 false false, Bk.mk [digR d, bD (decide (Rat.num q < 0)), natD (Int.natAbs (Rat.num q)), natD (Rat.den q)] 97 0 false false, Bk.mk [nl, bD false, nl, nl] 97 0 false false] (by kernel_rfl) trivial ?_
    refine awp_seq ?_
    refine awp_drawn [0, 3, 1, 2, 4, 5, 6, 7] (by kernel_rfl) rfl ?_
    refine st_run0 2 [] [] (True ∧ True) [(9, D.own 1 0), (12, D.own (2) 1)] (by kernel_rfl) ⟨trivial, trivial⟩ ?_
    refine st_slot 12 (D.own (2) 1) (D.own 2 1) (by kernel_rfl) (by simp (disch := omega) only [List.length_cons, List.length_nil, Nat.zero_add, Nat.reduceAdd]) (by kernel_rfl) ?_
    refine st_run0 1 [] [] (0 < 4) [(10, digR c)] (by kernel_rfl) (lb (by kernel_rfl)) ?_
    refine st_callr [digR c] (by kernel_rfl) (by exact r4) ?_
    refine st_run0 1 [] [] (3 ≤ 3) [(13, D.agg (ratL q))] (by kernel_rfl) (lb (by kernel_rfl)) ?_
    refine st_callr [D.agg (ratL u), D.agg (ratL q)] (by kernel_rfl) (by exact r1) ?_
    refine st_end [] [] [9, 10, 11, 12, 13, 14] (false = false ∧ true = true ∧ 3 = 3 ∧ 3 ≤ 3) [(7, D.own (4) 0)] [Bk.mk [] 83 0 false false, Bk.mk [digR c, bD (decide (Rat.num p < 0)), natD (Int.natAbs (Rat.num p)), natD (Rat.den p)] 97 0 false false, Bk.mk [digR d, bD (decide (Rat.num q < 0)), natD (Int.natAbs (Rat.num q)), natD (Rat.den q)] 97 0 false false, Bk.mk [nl, bD false, nl, nl] 97 0 false false, Bk.mk (ratL (u * q)) 95 0 false false] (by kernel_rfl) ⟨(by kernel_rfl), ⟨(by kernel_rfl), ⟨(by kernel_rfl), (by omega)⟩⟩⟩ ?_
    refine awp_seq ?_
    refine awp_drawn [0, 3, 1, 2, 4, 5, 6, 7] (by kernel_rfl) rfl ?_
    refine st_run0 1 [] [] (True) [(15, D.own (2) 0)] (by kernel_rfl) trivial ?_
    refine st_slot 15 (D.own (2) 0) (D.own 2 0) (by kernel_rfl) (by simp (disch := omega) only [List.length_cons, List.length_nil, Nat.zero_add, Nat.reduceAdd]) (by kernel_rfl) ?_
    refine st_run0 2 [] [] (True ∧ 0 < 4) [(16, digR d), (18, D.own 1 1)] (by kernel_rfl) ⟨trivial, (lb (by kernel_rfl))⟩ ?_
    refine st_callr [digR d] (by kernel_rfl) (by exact r5) ?_
    refine st_run0 1 [] [] (3 ≤ 3) [(19, D.agg (ratL p))] (by kernel_rfl) (lb (by kernel_rfl)) ?_
    refine st_callr [D.agg (ratL v), D.agg (ratL p)] (by kernel_rfl) (by exact r2) ?_
    refine st_end [] [] [15, 16, 17, 18, 19, 20] (false = false ∧ true = true ∧ 3 = 3 ∧ 3 ≤ 3) [(8, D.own (5) 0)] [Bk.mk [] 83 0 false false, Bk.mk [digR c, bD (decide (Rat.num p < 0)), natD (Int.natAbs (Rat.num p)), natD (Rat.den p)] 97 0 false false, Bk.mk [digR d, bD (decide (Rat.num q < 0)), natD (Int.natAbs (Rat.num q)), natD (Rat.den q)] 97 0 false false, Bk.mk [nl, bD false, nl, nl] 97 0 false false, Bk.mk (ratL (u * q)) 95 0 false false, Bk.mk (ratL (v * p)) 95 0 false false] (by kernel_rfl) ⟨(by kernel_rfl), ⟨(by kernel_rfl), ⟨(by kernel_rfl), (by omega)⟩⟩⟩ ?_
    refine awp_seq ?_
    refine awp_drawn [0, 2, 1, 3, 4, 5, 6, 7, 8, 9] (by kernel_rfl) rfl ?_
    refine st_run0 2 [] [] (True ∧ True) [(21, D.own 1 0), (23, D.own (2) 0)] (by kernel_rfl) ⟨trivial, trivial⟩ ?_
    refine st_slot 23 (D.own (2) 0) (D.own 2 0) (by kernel_rfl) (by simp (disch := omega) only [List.length_cons, List.length_nil, Nat.zero_add, Nat.reduceAdd]) (by kernel_rfl) ?_
    refine st_run0 2 [] [] (0 < 4 ∧ 0 < 4) [(22, digR c), (24, digR d)] (by kernel_rfl) ⟨(lb (by kernel_rfl)), (lb (by kernel_rfl))⟩ ?_
    refine st_callr [digR c, digR d] (by kernel_rfl) (by exact mul_c c d _ _ rfl rfl (by omega) (by omega) kc kd) ?_
    refine st_run0 2 [] [] (3 ≤ 3 ∧ 3 ≤ 3) [(26, D.agg (ratL (u * q))), (27, D.agg (ratL (v * p)))] (by kernel_rfl) ⟨(lb (by kernel_rfl)), (lb (by kernel_rfl))⟩ ?_
    refine st_callr [D.agg (ratL (u * q)), D.agg (ratL (v * p))] (by kernel_rfl) (by exact r3) ?_
    refine st_end [] [] [4, 5, 7, 8, 21, 22, 23, 24, 25, 26, 27, 28, 29] (((1 = 1 ∧ 1 ≤ 4 ∧ 3 = 3 ∧ 4 ≤ List.length (setAt [nl, bD false, nl, nl] 0 (cellsOf (natD (nval c * nval d)))) ∧ True) ∧ true = true) ∧ false = false ∧ true = true ∧ 4 = 4 ∧ 4 ≤ 4) [] [Bk.mk [] 83 0 false false, Bk.mk [digR c, bD (decide (Rat.num p < 0)), natD (Int.natAbs (Rat.num p)), natD (Rat.den p)] 97 0 false false, Bk.mk [digR d, bD (decide (Rat.num q < 0)), natD (Int.natAbs (Rat.num q)), natD (Rat.den q)] 97 0 false false, Bk.mk [natD (nval c * nval d), bD (decide (Rat.num (u * q + v * p) < 0)), natD (Int.natAbs (Rat.num (u * q + v * p))), natD (Rat.den (u * q + v * p))] 97 0 false false, Bk.mk (ratL (u * q)) 95 0 false false, Bk.mk (ratL (v * p)) 95 0 false false] (by kernel_rfl) ⟨⟨⟨(by kernel_rfl), ⟨(by omega), ⟨(by kernel_rfl), ⟨(lb (by kernel_rfl)), trivial⟩⟩⟩⟩, (by kernel_rfl)⟩, ⟨(by kernel_rfl), ⟨(by kernel_rfl), ⟨(by kernel_rfl), (by omega)⟩⟩⟩⟩ ?_
    refine awp_ret ?_
    refine ret_run (4 ≤ 4) (D.agg [natD (nval c * nval d), bD (decide (Rat.num (u * q + v * p) < 0)), natD (Int.natAbs (Rat.num (u * q + v * p))), natD (Rat.den (u * q + v * p))]) (D.agg [natD (nval c * nval d), D.val (Value.bool (decide (Rat.num (u * q + v * p) < 0))), natD (Int.natAbs (Rat.num (u * q + v * p))), natD (Rat.den (u * q + v * p))]) (.inr rfl) (by kernel_rfl) (lb (by kernel_rfl)) rfl rfl
theorem mequalR_c (c d : List Nat) (p q : Rat) (hc : c.length ≤ 1000) (hd : d.length ≤ 1000) (kc : Digs c) (kd : Digs d) (hp : (dg p.num.natAbs).length ≤ 1000) (hq : (dg q.num.natAbs).length ≤ 1000) (dp : p.den < 4294967296) (dq : q.den < 4294967296) : Pure Tryz.prog 184 [.agg [], momR c p, momR d q] [] (bD (decide (nval c = nval d) && decide (p = q))) := by
  refine pure_of_awp Tz_ok mixed Tryz.func184 rfl ?_
  focus
    refine awp_seq (awp_region rfl ?_)
    refine st_end [] [] [0, 1, 2, 3] (True) [(4, D.own 1 0), (5, D.own (2) 0), (6, bD false)] [Bk.mk [] 83 0 false false, Bk.mk [digR c, bD (decide (Rat.num p < 0)), natD (Int.natAbs (Rat.num p)), natD (Rat.den p)] 97 0 false false, Bk.mk [digR d, bD (decide (Rat.num q < 0)), natD (Int.natAbs (Rat.num q)), natD (Rat.den q)] 97 0 false false] (by kernel_rfl) trivial ?_
    refine awp_seq (awp_region rfl ?_)
    refine st_run0 3 [] [] (True ∧ 0 < 4 ∧ True) [(7, D.own 1 0), (8, digR c), (9, D.own (2) 0)] (by kernel_rfl) ⟨trivial, (lb (by kernel_rfl)), trivial⟩ ?_
    refine st_slot 9 (D.own (2) 0) (D.own 2 0) (by kernel_rfl) (by simp (disch := omega) only [List.length_cons, List.length_nil, Nat.zero_add, Nat.reduceAdd]) (by kernel_rfl) ?_
    refine st_run0 1 [] [] (0 < 4) [(10, digR d)] (by kernel_rfl) (lb (by kernel_rfl)) ?_
    refine st_callr [digR c, digR d] (by kernel_rfl) (by exact cmp_c c d _ _ rfl rfl (by omega) (by omega) kc kd) ?_
    refine st_run0 1 [] [] (True) [(12, bD (cmpD (↑(nval c) : Int) (↑(nval d) : Int) == (0 : Int)))] (by kernel_rfl) trivial ?_
    refine st_slot 12 (bD (cmpD (↑(nval c) : Int) (↑(nval d) : Int) == (0 : Int))) (bD (decide (nval c = nval d))) (by kernel_rfl) (by simp (disch := omega) only [cmpD_zero]) (by kernel_rfl) ?_
    refine st_run0 1 [] [] (True) [(13, bD (decide (nval c = nval d)))] (by kernel_rfl) trivial ?_
    refine st_split 13 (decide (nval c = nval d)) (by kernel_rfl) (fun hc => ?_) (fun hc => ?_)
    simp only [decide_eq_true_eq] at hc
    refine st_run0 3 [] [] (True ∧ 3 ≤ 3 ∧ True) [(14, D.own 1 1), (15, D.agg (ratL p)), (16, D.own (2) 1)] (by kernel_rfl) ⟨trivial, (lb (by kernel_rfl)), trivial⟩ ?_
    refine st_slot 16 (D.own (2) 1) (D.own 2 1) (by kernel_rfl) (by simp (disch := omega) only [List.length_cons, List.length_nil, Nat.zero_add, Nat.reduceAdd]) (by kernel_rfl) ?_
    refine st_run0 1 [] [] (3 ≤ 3) [(17, D.agg (ratL q))] (by kernel_rfl) (lb (by kernel_rfl)) ?_
    refine st_callr [D.agg (ratL p), D.agg (ratL q)] (by kernel_rfl) (by exact qcmp_c p q hp hq dp dq) ?_
    refine st_run0 1 [] [] (True) [(19, bD (cmpQ p q == (0 : Int)))] (by kernel_rfl) trivial ?_
    refine st_slot 19 (bD (cmpQ p q == (0 : Int))) (bD (decide (p = q))) (by kernel_rfl) (by simp (disch := omega) only [cmpQ_zero]) (by kernel_rfl) ?_
    refine st_end0 [] [] [4, 5, 7, 8, 9, 10, 11, 12, 13, 14, 15, 16, 17, 18, 19, 20] (True) [(6, bD (decide (p = q)))] (by kernel_rfl) trivial ?_
    refine awp_ret ?_
    refine ret_run (True) (bD (decide (p = q))) (D.val (Value.bool (decide (p = q)))) (.inr rfl) (by kernel_rfl) trivial rfl ?_
    rotate_left
    simp only [decide_eq_false_iff_not] at hc
    refine st_end0 [] [] [4, 5, 7, 8, 9, 10, 11, 12, 13, 14, 15, 16, 17, 18, 19, 20] (True) [] (by kernel_rfl) trivial ?_
    refine awp_ret ?_
    refine ret_run (True) (bD false) (D.val (Value.bool false)) (.inr rfl) (by kernel_rfl) trivial rfl ?_
    rotate_left
  · rw [decide_eq_true (by assumption : nval c = nval d), Bool.true_and]
  · rw [decide_eq_false (by assumption : ¬ nval c = nval d), Bool.false_and]
end Go.Proofs.YtgbhoceamcomfaaGreat
namespace Go.Proofs.YtgbhoceamcomfaaGreat
open Go.RowKit
attribute [local irreducible] seqW awp thenW nextW blockW Weak updS deadS retL Pure Acts
set_option linter.unusedVariables false
set_option linter.unusedSimpArgs false
set_option maxRecDepth 4096
theorem add_num_le (a b : Rat) : (a + b).num.natAbs ≤ a.num.natAbs * b.den + b.num.natAbs * a.den := by
  rw [Rat.add_def', mk_num _ _ (Nat.mul_ne_zero a.den_nz b.den_nz)]
  refine Nat.le_trans (Int.natAbs_ediv_le_natAbs _ _) (Nat.le_trans (Int.natAbs_add_le _ _) ?_)
  rw [Int.natAbs_mul, Int.natAbs_mul]
  exact Nat.le_refl _
theorem lenQ_add (a b : Rat) (K : Nat) (ha : (dg a.num.natAbs).length ≤ K) (hb : (dg b.num.natAbs).length ≤ K) (da : a.den < 4294967296) (db : b.den < 4294967296) : (dg (a + b).num.natAbs).length ≤ K + 2 := by
  have h1 := dlen_mul a.num.natAbs b.den
  have h2 := dlen_mul b.num.natAbs a.den
  have h3 := dg_small _ da
  have h4 := dg_small _ db
  exact Nat.le_trans (dlen_le (add_num_le a b)) (dlen_add _ _ (K + 1) (by omega) (by omega))
def OkQ (n : Nat) (q : Rat) : Prop := (dg q.num.natAbs).length ≤ 10 * 4 ^ n ∧ q.den ≤ 255 ^ 2 ^ n
theorem sq255 (n : Nat) : 255 ^ 2 ^ (n + 1) = 255 ^ 2 ^ n * 255 ^ 2 ^ n := by rw [← Nat.pow_add]; congr 1; rw [Nat.pow_succ]; omega
theorem OkQ.up {n : Nat} {q : Rat} (h : OkQ n q) : OkQ (n + 1) q :=
  ⟨by have := h.1; rw [Nat.pow_succ]; omega, Nat.le_trans h.2 (Nat.pow_le_pow_right (by decide) (Nat.pow_le_pow_right (by decide) (by omega)))⟩
theorem den_bd {n : Nat} {p q : Rat} (hn : n ≤ 1) (h : p.den ≤ 255 ^ 2 ^ n) (k : q.den ≤ 255 ^ 2 ^ n) : p.den * q.den < 4294967296 := by
  have h1 := Nat.mul_le_mul h k
  have h2 : 255 ^ 2 ^ n * 255 ^ 2 ^ n ≤ 4228250625 := by
    obtain rfl | rfl : n = 0 ∨ n = 1 := by omega
    · decide
    · decide
  omega
theorem OkQ.den {n : Nat} {q : Rat} (h : OkQ n q) (hn : n ≤ 2) : q.den < 4294967296 := by
  have h1 : 255 ^ 2 ^ n ≤ 255 ^ 2 ^ 2 := Nat.pow_le_pow_right (by decide) (Nat.pow_le_pow_right (by decide) hn)
  have h2 : 255 ^ 2 ^ 2 = 4228250625 := by decide
  have := h.2
  omega
theorem OkQ.len {n : Nat} {q : Rat} (h : OkQ n q) (hn : n ≤ 2) : (dg q.num.natAbs).length ≤ 160 := by
  have : (4 : Nat) ^ n ≤ 4 ^ 2 := Nat.pow_le_pow_right (by decide) hn
  have := h.1
  omega
theorem OkQ.add {n : Nat} {p q : Rat} (hn : n ≤ 1) (h : OkQ n p) (k : OkQ n q) : OkQ (n + 1) (p + q) := by
  refine ⟨?_, ?_⟩
  · have := lenQ_add p q (10 * 4 ^ n) h.1 k.1 (h.den (by omega)) (k.den (by omega))
    have := pow_one n
    rw [Nat.pow_succ]; omega
  · rw [sq255]
    exact Nat.le_trans (add_den_le p q) (Nat.mul_le_mul h.2 k.2)
theorem OkQ.mul {n : Nat} {p q : Rat} {c d : List Nat} (hn : n ≤ 1) (h : OkQ n p) (k : OkQ n q) (hc : OkD n c) (hd : OkD n d) : OkQ (n + 1) ((((nval c : Nat) : Int) : Rat) * q + (((nval d : Nat) : Int) : Rat) * p) := by
  have l1 := lenQ_mul (((nval c : Nat) : Int) : Rat) q
  have l2 := lenQ_mul (((nval d : Nat) : Int) : Rat) p
  rw [lenQ_nat] at l1 l2
  have m1 := mul_den_le (((nval c : Nat) : Int) : Rat) q
  have m2 := mul_den_le (((nval d : Nat) : Int) : Rat) p
  rw [cD_den, Nat.one_mul] at m1 m2
  have k1 := dg_len hc.1
  have k2 := dg_len hd.1
  have k3 := hc.2
  have k4 := hd.2
  have h1 := h.1
  have h2 := k.1
  have h3 := h.den (by omega)
  have h4 := k.den (by omega)
  refine ⟨?_, ?_⟩
  · have := lenQ_add _ _ (20 * 4 ^ n) (show (dg ((((nval c : Nat) : Int) : Rat) * q).num.natAbs).length ≤ _ by omega) (show (dg ((((nval d : Nat) : Int) : Rat) * p).num.natAbs).length ≤ _ by omega) (by omega) (by omega)
    have := pow_one n
    rw [Nat.pow_succ]; omega
  · rw [sq255]
    exact Nat.le_trans (add_den_le _ _) (Nat.le_trans (Nat.mul_le_mul m1 m2) (Nat.mul_le_mul k.2 h.2))
abbrev momX (x : List Nat × Rat) : D := momR x.1 x.2
def momS : SemX (List Nat × Rat) where
  R := momX
  Ok n x := OkD n x.1 ∧ OkQ n x.2
  A x y := (dg (nval x.1 + nval y.1), x.2 + y.2)
  M x y := (dg (nval x.1 * nval y.1), (((nval x.1 : Nat) : Int) : Rat) * y.2 + (((nval y.1 : Nat) : Int) : Rat) * x.2)
  z := (dg 0, ((0 : Int) : Rat))
  o := (dg 1, ((0 : Int) : Rat))
  eq x y := decide (nval x.1 = nval y.1) && decide (x.2 = y.2)
theorem mom_ax (a b c : List Nat × Rat) : momS.ax a b c := by
  obtain ⟨la, p⟩ := a
  obtain ⟨lb, q⟩ := b
  obtain ⟨lc, r⟩ := c
  unfold SemX.ax momS
  simp only [nval_dg, Bool.and_eq_true, decide_eq_true_eq, Int.natCast_add, Int.natCast_mul, Rat.intCast_add, Rat.intCast_mul]
  generalize nval la = x
  generalize nval lb = y
  generalize nval lc = z
  generalize ((x : Int) : Rat) = x'
  generalize ((y : Int) : Rat) = y'
  generalize ((z : Int) : Rat) = z'
  refine ⟨⟨Nat.add_assoc _ _ _, ?_⟩, ⟨Nat.add_comm _ _, ?_⟩, ⟨Nat.add_zero _, ?_⟩, ⟨Nat.mul_assoc _ _ _, ?_⟩, ⟨Nat.mul_comm _ _, ?_⟩, ⟨Nat.mul_one _, ?_⟩, ⟨Nat.mul_zero _, ?_⟩, ⟨Nat.mul_add _ _ _, ?_⟩⟩ <;> grind
theorem momQ0 (n : Nat) : OkQ n ((0 : Int) : Rat) := by
  refine ⟨?_, ?_⟩
  · rw [Rat.num_intCast]; have := dg_small (0 : Int).natAbs (by decide); have := pow_one n; omega
  · rw [Rat.den_intCast]; exact Nat.one_le_pow _ _ (by decide)
theorem OkD.lim {n : Nat} {x : List Nat} (h : OkD n x) (hn : n ≤ 2) : x.length ≤ 160 := by
  have : (4 : Nat) ^ n ≤ 4 ^ 2 := Nat.pow_le_pow_right (by decide) hn
  have := h.2
  omega
theorem momS_ok : SemC Tryz.prog 186 185 55 57 184 (.agg []) momS where
  up h := ⟨OkD.up h.1, OkQ.up h.2⟩
  add hn h k := ⟨maddR_c _ _ _ _ (by have := OkD.lim h.1 (by omega); omega) (by have := OkD.lim k.1 (by omega); omega) h.1.1 k.1.1 (by have := OkQ.len h.2 (by omega); omega) (by have := OkQ.len k.2 (by omega); omega) (den_bd hn h.2.2 k.2.2), OkD.add h.1 k.1, OkQ.add hn h.2 k.2⟩
  mul hn h k := ⟨mmulR_c _ _ _ _ (by have := OkD.lim h.1 (by omega); omega) (by have := OkD.lim k.1 (by omega); omega) h.1.1 k.1.1 (by have := OkQ.len h.2 (by omega); omega) (by have := OkQ.len k.2 (by omega); omega) (den_bd hn k.2.2 h.2.2), OkD.mul h.1 k.1, OkQ.mul hn h.2 k.2 h.1 k.1⟩
  zero := ⟨mzero_c 0 _ rfl rfl, OkD.dg (by decide), momQ0 0⟩
  one := ⟨mone_c 1 _ rfl rfl, OkD.dg (by decide), momQ0 0⟩
  equal h k := mequalR_c _ _ _ _ (by have := OkD.lim h.1 (by omega); omega) (by have := OkD.lim k.1 (by omega); omega) h.1.1 k.1.1 (by have := OkQ.len h.2 (by omega); omega) (by have := OkQ.len k.2 (by omega); omega) (h.2.den (by omega)) (k.2.den (by omega))
  ax _ _ _ := mom_ax _ _ _
end Go.Proofs.YtgbhoceamcomfaaGreat
namespace Go.Proofs.YtgbhoceamcomfaaGreat
open Go.RowKit
attribute [local irreducible] seqW awp thenW nextW blockW Weak updS deadS retL Pure Acts
set_option linter.unusedVariables false
set_option linter.unusedSimpArgs false
set_option maxRecDepth 4096
end Go.Proofs.YtgbhoceamcomfaaGreat
namespace Go.Proofs.YtgbhoceamcomfaaGreat
open Go.RowKit
attribute [local irreducible] seqW awp thenW nextW blockW Weak updS deadS retL Pure Acts
set_option linter.unusedVariables false
set_option linter.unusedSimpArgs false
set_option maxRecDepth 4096
abbrev pwS : D := .agg [.ifc 60 (.agg []), .ifc 53 (.agg [])]
abbrev PwX : Type := List Nat × List (List Int)
abbrev pwR (x : PwX) : D := .agg [digR x.1, whyD x.2]
theorem pwAdd_c (x y : PwX) (u : List Nat) (v : List (List Int)) (k : Pure Tryz.prog 32 [(.agg []), digR x.1, digR y.1] [] (digR u)) (l : Pure Tryz.prog 21 [(.agg []), whyD x.2, whyD y.2] [] (whyD v)) : Pure Tryz.prog 53 [pwS, pwR x, pwR y] [] (pwR (u, v)) := by
  refine pure_of_awp Tx_ok mixed Tryz.func53 rfl ?_
  focus
    refine awp_seq (awp_region rfl ?_)
    refine st_end [] [] [0, 1, 2] (True) [(3, D.own 0 0), (4, D.own 1 0), (5, D.own (2) 0), (6, D.own (3) 0)] [Bk.mk [D.ifc 60 (D.agg []), D.ifc 53 (D.agg [])] 90 0 false false, Bk.mk [digR (Prod.fst x), D.row (List.map intsD (Prod.snd x)) (List.length (Prod.snd x))] 92 0 false false, Bk.mk [digR (Prod.fst y), D.row (List.map intsD (Prod.snd y)) (List.length (Prod.snd y))] 92 0 false false, Bk.mk [nl, nl] 92 0 false false] (by kernel_rfl) trivial ?_
    refine awp_seq ?_
    refine awp_drawn [0, 2, 4, 7, 9, 11, 1, 3, 5, 6, 8, 10, 12, 13, 14, 15] (by kernel_rfl) rfl ?_
    refine st_run0 3 [] [] (True ∧ True ∧ True) [(7, D.own 0 0), (9, D.own 1 0), (11, D.own (2) 0)] (by kernel_rfl) ⟨trivial, trivial, trivial⟩ ?_
    refine st_slot 11 (D.own (2) 0) (D.own 2 0) (by kernel_rfl) (by simp (disch := omega) only [List.length_cons, List.length_nil, Nat.zero_add, Nat.reduceAdd]) (by kernel_rfl) ?_
    refine st_run0 3 [] [] (True ∧ True ∧ True) [(14, D.own 0 1), (16, D.own 1 1), (18, D.own (2) 1)] (by kernel_rfl) ⟨trivial, trivial, trivial⟩ ?_
    refine st_slot 18 (D.own (2) 1) (D.own 2 1) (by kernel_rfl) (by simp (disch := omega) only [List.length_cons, List.length_nil, Nat.zero_add, Nat.reduceAdd]) (by kernel_rfl) ?_
    refine st_run0 3 [] [] (0 < 2 ∧ 0 < 2 ∧ 0 < 2) [(8, D.ifc 60 (D.agg [])), (10, digR (Prod.fst x)), (12, digR (Prod.fst y))] (by kernel_rfl) ⟨(by omega), (lb (by kernel_rfl)), (lb (by kernel_rfl))⟩ ?_
    refine st_callr [D.agg [], digR (Prod.fst x), digR (Prod.fst y)] (by kernel_rfl) (by exact k) ?_
    refine st_run0 3 [] [] (0 < 1 ∧ 0 < 1 ∧ 0 < 1) [(15, D.ifc 53 (D.agg [])), (17, D.row (List.map intsD (Prod.snd x)) (List.length (Prod.snd x))), (19, D.row (List.map intsD (Prod.snd y)) (List.length (Prod.snd y)))] (by kernel_rfl) ⟨(by omega), (lb (by kernel_rfl)), (lb (by kernel_rfl))⟩ ?_
    refine st_callr [D.agg [], D.row (List.map intsD (Prod.snd x)) (List.length (Prod.snd x)), D.row (List.map intsD (Prod.snd y)) (List.length (Prod.snd y))] (by kernel_rfl) (by exact l) ?_
    refine st_end [] [] [3, 4, 5, 7, 8, 9, 10, 11, 12, 13, 14, 15, 16, 17, 18, 19, 20, 21] (((1 = 1 ∧ 1 ≤ 2 ∧ 1 = 1 ∧ 2 ≤ List.length (setAt [nl, nl] 0 (cellsOf (digR u))) ∧ True) ∧ true = true) ∧ false = false ∧ true = true ∧ 2 = 2 ∧ 2 ≤ 2) [] [Bk.mk [D.ifc 60 (D.agg []), D.ifc 53 (D.agg [])] 90 0 false false, Bk.mk [digR (Prod.fst x), D.row (List.map intsD (Prod.snd x)) (List.length (Prod.snd x))] 92 0 false false, Bk.mk [digR (Prod.fst y), D.row (List.map intsD (Prod.snd y)) (List.length (Prod.snd y))] 92 0 false false, Bk.mk [digR u, D.row (List.map intsD v) (List.length v)] 92 0 false false] (by kernel_rfl) ⟨⟨⟨(by kernel_rfl), ⟨(by omega), ⟨(by kernel_rfl), ⟨(lb (by kernel_rfl)), trivial⟩⟩⟩⟩, (by kernel_rfl)⟩, ⟨(by kernel_rfl), ⟨(by kernel_rfl), ⟨(by kernel_rfl), (by omega)⟩⟩⟩⟩ ?_
    refine awp_ret ?_
    refine ret_run (2 ≤ 2) (D.agg [digR u, D.row (List.map intsD v) (List.length v)]) (D.agg [digR u, D.row (List.map intsD v) (List.length v)]) (.inr rfl) (by kernel_rfl) (lb (by kernel_rfl)) rfl rfl
theorem pwMul_c (x y : PwX) (u : List Nat) (v : List (List Int)) (k : Pure Tryz.prog 34 [(.agg []), digR x.1, digR y.1] [] (digR u)) (l : Pure Tryz.prog 23 [(.agg []), whyD x.2, whyD y.2] [] (whyD v)) : Pure Tryz.prog 54 [pwS, pwR x, pwR y] [] (pwR (u, v)) := by
  refine pure_of_awp Tx_ok mixed Tryz.func54 rfl ?_
  focus
    refine awp_seq (awp_region rfl ?_)
    refine st_end [] [] [0, 1, 2] (True) [(3, D.own 0 0), (4, D.own 1 0), (5, D.own (2) 0), (6, D.own (3) 0)] [Bk.mk [D.ifc 60 (D.agg []), D.ifc 53 (D.agg [])] 90 0 false false, Bk.mk [digR (Prod.fst x), D.row (List.map intsD (Prod.snd x)) (List.length (Prod.snd x))] 92 0 false false, Bk.mk [digR (Prod.fst y), D.row (List.map intsD (Prod.snd y)) (List.length (Prod.snd y))] 92 0 false false, Bk.mk [nl, nl] 92 0 false false] (by kernel_rfl) trivial ?_
    refine awp_seq ?_
    refine awp_drawn [0, 2, 4, 7, 9, 11, 1, 3, 5, 6, 8, 10, 12, 13, 14, 15] (by kernel_rfl) rfl ?_
    refine st_run0 3 [] [] (True ∧ True ∧ True) [(7, D.own 0 0), (9, D.own 1 0), (11, D.own (2) 0)] (by kernel_rfl) ⟨trivial, trivial, trivial⟩ ?_
    refine st_slot 11 (D.own (2) 0) (D.own 2 0) (by kernel_rfl) (by simp (disch := omega) only [List.length_cons, List.length_nil, Nat.zero_add, Nat.reduceAdd]) (by kernel_rfl) ?_
    refine st_run0 3 [] [] (True ∧ True ∧ True) [(14, D.own 0 1), (16, D.own 1 1), (18, D.own (2) 1)] (by kernel_rfl) ⟨trivial, trivial, trivial⟩ ?_
    refine st_slot 18 (D.own (2) 1) (D.own 2 1) (by kernel_rfl) (by simp (disch := omega) only [List.length_cons, List.length_nil, Nat.zero_add, Nat.reduceAdd]) (by kernel_rfl) ?_
    refine st_run0 3 [] [] (0 < 2 ∧ 0 < 2 ∧ 0 < 2) [(8, D.ifc 60 (D.agg [])), (10, digR (Prod.fst x)), (12, digR (Prod.fst y))] (by kernel_rfl) ⟨(by omega), (lb (by kernel_rfl)), (lb (by kernel_rfl))⟩ ?_
    refine st_callr [D.agg [], digR (Prod.fst x), digR (Prod.fst y)] (by kernel_rfl) (by exact k) ?_
    refine st_run0 3 [] [] (0 < 1 ∧ 0 < 1 ∧ 0 < 1) [(15, D.ifc 53 (D.agg [])), (17, D.row (List.map intsD (Prod.snd x)) (List.length (Prod.snd x))), (19, D.row (List.map intsD (Prod.snd y)) (List.length (Prod.snd y)))] (by kernel_rfl) ⟨(by omega), (lb (by kernel_rfl)), (lb (by kernel_rfl))⟩ ?_
    refine st_callr [D.agg [], D.row (List.map intsD (Prod.snd x)) (List.length (Prod.snd x)), D.row (List.map intsD (Prod.snd y)) (List.length (Prod.snd y))] (by kernel_rfl) (by exact l) ?_
    refine st_end [] [] [3, 4, 5, 7, 8, 9, 10, 11, 12, 13, 14, 15, 16, 17, 18, 19, 20, 21] (((1 = 1 ∧ 1 ≤ 2 ∧ 1 = 1 ∧ 2 ≤ List.length (setAt [nl, nl] 0 (cellsOf (digR u))) ∧ True) ∧ true = true) ∧ false = false ∧ true = true ∧ 2 = 2 ∧ 2 ≤ 2) [] [Bk.mk [D.ifc 60 (D.agg []), D.ifc 53 (D.agg [])] 90 0 false false, Bk.mk [digR (Prod.fst x), D.row (List.map intsD (Prod.snd x)) (List.length (Prod.snd x))] 92 0 false false, Bk.mk [digR (Prod.fst y), D.row (List.map intsD (Prod.snd y)) (List.length (Prod.snd y))] 92 0 false false, Bk.mk [digR u, D.row (List.map intsD v) (List.length v)] 92 0 false false] (by kernel_rfl) ⟨⟨⟨(by kernel_rfl), ⟨(by omega), ⟨(by kernel_rfl), ⟨(lb (by kernel_rfl)), trivial⟩⟩⟩⟩, (by kernel_rfl)⟩, ⟨(by kernel_rfl), ⟨(by kernel_rfl), ⟨(by kernel_rfl), (by omega)⟩⟩⟩⟩ ?_
    refine awp_ret ?_
    refine ret_run (2 ≤ 2) (D.agg [digR u, D.row (List.map intsD v) (List.length v)]) (D.agg [digR u, D.row (List.map intsD v) (List.length v)]) (.inr rfl) (by kernel_rfl) (lb (by kernel_rfl)) rfl rfl
theorem pwZero_c (u : List Nat) (v : List (List Int)) (k : Pure Tryz.prog 30 [(.agg [])] [] (digR u)) (l : Pure Tryz.prog 26 [(.agg [])] [] (whyD v)) : Pure Tryz.prog 59 [pwS] [] (pwR (u, v)) := by
  refine pure_of_awp Tx_ok mixed Tryz.func59 rfl ?_
  focus
    refine awp_seq (awp_region rfl ?_)
    refine st_end [] [] [0] (True) [(1, D.own 0 0), (2, D.own 1 0)] [Bk.mk [D.ifc 60 (D.agg []), D.ifc 53 (D.agg [])] 90 0 false false, Bk.mk [nl, nl] 92 0 false false] (by kernel_rfl) trivial ?_
    refine awp_seq ?_
    refine awp_drawn [0, 3, 1, 2, 4, 5, 6, 7] (by kernel_rfl) rfl ?_
    refine st_run0 3 [] [] (True ∧ True ∧ 0 < 2) [(3, D.own 0 0), (4, D.ifc 60 (D.agg [])), (6, D.own 0 1)] (by kernel_rfl) ⟨trivial, trivial, (by omega)⟩ ?_
    refine st_callr [D.agg []] (by kernel_rfl) (by exact k) ?_
    refine st_run0 1 [] [] (0 < 1) [(7, D.ifc 53 (D.agg []))] (by kernel_rfl) (by omega) ?_
    refine st_callr [D.agg []] (by kernel_rfl) (by exact l) ?_
    refine st_end [] [] [1, 3, 4, 5, 6, 7, 8, 9] (((1 = 1 ∧ 1 ≤ 2 ∧ 1 = 1 ∧ 2 ≤ List.length (setAt [nl, nl] 0 (cellsOf (digR u))) ∧ True) ∧ true = true) ∧ false = false ∧ true = true ∧ 2 = 2 ∧ 2 ≤ 2) [] [Bk.mk [D.ifc 60 (D.agg []), D.ifc 53 (D.agg [])] 90 0 false false, Bk.mk [digR u, D.row (List.map intsD v) (List.length v)] 92 0 false false] (by kernel_rfl) ⟨⟨⟨(by kernel_rfl), ⟨(by omega), ⟨(by kernel_rfl), ⟨(lb (by kernel_rfl)), trivial⟩⟩⟩⟩, (by kernel_rfl)⟩, ⟨(by kernel_rfl), ⟨(by kernel_rfl), ⟨(by kernel_rfl), (by omega)⟩⟩⟩⟩ ?_
    refine awp_ret ?_
    refine ret_run (2 ≤ 2) (D.agg [digR u, D.row (List.map intsD v) (List.length v)]) (D.agg [digR u, D.row (List.map intsD v) (List.length v)]) (.inr rfl) (by kernel_rfl) (lb (by kernel_rfl)) rfl rfl
theorem pwOne_c (u : List Nat) (v : List (List Int)) (k : Pure Tryz.prog 31 [(.agg [])] [] (digR u)) (l : Pure Tryz.prog 27 [(.agg [])] [] (whyD v)) : Pure Tryz.prog 58 [pwS] [] (pwR (u, v)) := by
  refine pure_of_awp Tx_ok mixed Tryz.func58 rfl ?_
  focus
    refine awp_seq (awp_region rfl ?_)
    refine st_end [] [] [0] (True) [(1, D.own 0 0), (2, D.own 1 0)] [Bk.mk [D.ifc 60 (D.agg []), D.ifc 53 (D.agg [])] 90 0 false false, Bk.mk [nl, nl] 92 0 false false] (by kernel_rfl) trivial ?_
    refine awp_seq ?_
    refine awp_drawn [0, 3, 1, 2, 4, 5, 6, 7] (by kernel_rfl) rfl ?_
    refine st_run0 3 [] [] (True ∧ True ∧ 0 < 2) [(3, D.own 0 0), (4, D.ifc 60 (D.agg [])), (6, D.own 0 1)] (by kernel_rfl) ⟨trivial, trivial, (by omega)⟩ ?_
    refine st_callr [D.agg []] (by kernel_rfl) (by exact k) ?_
    refine st_run0 1 [] [] (0 < 1) [(7, D.ifc 53 (D.agg []))] (by kernel_rfl) (by omega) ?_
    refine st_callr [D.agg []] (by kernel_rfl) (by exact l) ?_
    refine st_end [] [] [1, 3, 4, 5, 6, 7, 8, 9] (((1 = 1 ∧ 1 ≤ 2 ∧ 1 = 1 ∧ 2 ≤ List.length (setAt [nl, nl] 0 (cellsOf (digR u))) ∧ True) ∧ true = true) ∧ false = false ∧ true = true ∧ 2 = 2 ∧ 2 ≤ 2) [] [Bk.mk [D.ifc 60 (D.agg []), D.ifc 53 (D.agg [])] 90 0 false false, Bk.mk [digR u, D.row (List.map intsD v) (List.length v)] 92 0 false false] (by kernel_rfl) ⟨⟨⟨(by kernel_rfl), ⟨(by omega), ⟨(by kernel_rfl), ⟨(lb (by kernel_rfl)), trivial⟩⟩⟩⟩, (by kernel_rfl)⟩, ⟨(by kernel_rfl), ⟨(by kernel_rfl), ⟨(by kernel_rfl), (by omega)⟩⟩⟩⟩ ?_
    refine awp_ret ?_
    refine ret_run (2 ≤ 2) (D.agg [digR u, D.row (List.map intsD v) (List.length v)]) (D.agg [digR u, D.row (List.map intsD v) (List.length v)]) (.inr rfl) (by kernel_rfl) (lb (by kernel_rfl)) rfl rfl
theorem pwEqual_c (x y : PwX) (e f : Bool) (k : Pure Tryz.prog 36 [(.agg []), digR x.1, digR y.1] [] (bD e)) (l : Pure Tryz.prog 25 [(.agg []), whyD x.2, whyD y.2] [] (bD f)) : Pure Tryz.prog 60 [pwS, pwR x, pwR y] [] (bD (e && f)) := by
  cases e
  · refine pure_of_awp Tx_ok mixed Tryz.func60 rfl ?_
    focus
      refine awp_seq (awp_region rfl ?_)
      refine st_end [] [] [0, 1, 2] (True) [(3, D.own 0 0), (4, D.own 1 0), (5, D.own (2) 0), (6, bD false)] [Bk.mk [D.ifc 60 (D.agg []), D.ifc 53 (D.agg [])] 90 0 false false, Bk.mk [digR (Prod.fst x), D.row (List.map intsD (Prod.snd x)) (List.length (Prod.snd x))] 92 0 false false, Bk.mk [digR (Prod.fst y), D.row (List.map intsD (Prod.snd y)) (List.length (Prod.snd y))] 92 0 false false] (by kernel_rfl) trivial ?_
      refine awp_seq (awp_region rfl ?_)
      refine st_run0 5 [] [] (True ∧ 0 < 2 ∧ True ∧ 0 < 2 ∧ True) [(7, D.own 0 0), (8, D.ifc 60 (D.agg [])), (9, D.own 1 0), (10, digR (Prod.fst x)), (11, D.own (2) 0)] (by kernel_rfl) ⟨trivial, (by omega), trivial, (lb (by kernel_rfl)), trivial⟩ ?_
      refine st_slot 11 (D.own (2) 0) (D.own 2 0) (by kernel_rfl) (by simp (disch := omega) only [List.length_cons, List.length_nil, Nat.zero_add, Nat.reduceAdd]) (by kernel_rfl) ?_
      refine st_run0 1 [] [] (0 < 2) [(12, digR (Prod.fst y))] (by kernel_rfl) (lb (by kernel_rfl)) ?_
      refine st_callr [D.agg [], digR (Prod.fst x), digR (Prod.fst y)] (by kernel_rfl) (by exact k) ?_
      refine st_end0 [] [] [3, 4, 5, 7, 8, 9, 10, 11, 12, 13, 14, 15, 16, 17, 18, 19, 20, 21, 22] (True) [] (by kernel_rfl) trivial ?_
      refine awp_ret ?_
      refine ret_run (True) (bD false) (D.val (Value.bool false)) (.inr rfl) (by kernel_rfl) trivial rfl (by simp)
  · refine pure_of_awp Tx_ok mixed Tryz.func60 rfl ?_
    focus
      refine awp_seq (awp_region rfl ?_)
      refine st_end [] [] [0, 1, 2] (True) [(3, D.own 0 0), (4, D.own 1 0), (5, D.own (2) 0), (6, bD false)] [Bk.mk [D.ifc 60 (D.agg []), D.ifc 53 (D.agg [])] 90 0 false false, Bk.mk [digR (Prod.fst x), D.row (List.map intsD (Prod.snd x)) (List.length (Prod.snd x))] 92 0 false false, Bk.mk [digR (Prod.fst y), D.row (List.map intsD (Prod.snd y)) (List.length (Prod.snd y))] 92 0 false false] (by kernel_rfl) trivial ?_
      refine awp_seq (awp_region rfl ?_)
      refine st_run0 5 [] [] (True ∧ 0 < 2 ∧ True ∧ 0 < 2 ∧ True) [(7, D.own 0 0), (8, D.ifc 60 (D.agg [])), (9, D.own 1 0), (10, digR (Prod.fst x)), (11, D.own (2) 0)] (by kernel_rfl) ⟨trivial, (by omega), trivial, (lb (by kernel_rfl)), trivial⟩ ?_
      refine st_slot 11 (D.own (2) 0) (D.own 2 0) (by kernel_rfl) (by simp (disch := omega) only [List.length_cons, List.length_nil, Nat.zero_add, Nat.reduceAdd]) (by kernel_rfl) ?_
      refine st_run0 1 [] [] (0 < 2) [(12, digR (Prod.fst y))] (by kernel_rfl) (lb (by kernel_rfl)) ?_
      refine st_callr [D.agg [], digR (Prod.fst x), digR (Prod.fst y)] (by kernel_rfl) (by exact k) ?_
      refine st_run0 6 [] [] (True ∧ 0 < 1 ∧ True ∧ 0 < 1 ∧ True) [(14, bD true), (15, D.own 0 1), (16, D.ifc 53 (D.agg [])), (17, D.own 1 1), (18, D.row (List.map intsD (Prod.snd x)) (List.length (Prod.snd x))), (19, D.own (2) 1)] (by kernel_rfl) ⟨trivial, (by omega), trivial, (lb (by kernel_rfl)), trivial⟩ ?_
      refine st_slot 19 (D.own (2) 1) (D.own 2 1) (by kernel_rfl) (by simp (disch := omega) only [List.length_cons, List.length_nil, Nat.zero_add, Nat.reduceAdd]) (by kernel_rfl) ?_
      refine st_run0 1 [] [] (0 < 1) [(20, D.row (List.map intsD (Prod.snd y)) (List.length (Prod.snd y)))] (by kernel_rfl) (lb (by kernel_rfl)) ?_
      refine st_callr [D.agg [], D.row (List.map intsD (Prod.snd x)) (List.length (Prod.snd x)), D.row (List.map intsD (Prod.snd y)) (List.length (Prod.snd y))] (by kernel_rfl) (by exact l) ?_
      refine st_end0 [] [] [3, 4, 5, 7, 8, 9, 10, 11, 12, 13, 14, 15, 16, 17, 18, 19, 20, 21, 22] (True) [(6, bD f)] (by kernel_rfl) trivial ?_
      refine awp_ret ?_
      refine ret_run (True) (bD f) (D.val (Value.bool f)) (.inr rfl) (by kernel_rfl) trivial rfl (by simp)
end Go.Proofs.YtgbhoceamcomfaaGreat
namespace Go.Proofs.YtgbhoceamcomfaaGreat
open Go.RowKit
attribute [local irreducible] seqW awp thenW nextW blockW Weak updS deadS retL Pure Acts
set_option linter.unusedVariables false
set_option linter.unusedSimpArgs false
set_option maxRecDepth 4096
theorem qof_c (n d : Int) (q : Rat) (hq : q = mkRat n d.natAbs) (h1 : -4294967296 < n) (h2 : n < 4294967296) (h3 : 0 < d) (h4 : d < 4294967296) : Pure Tryz.prog 93 [iD n, iD d] [] (.tup [ratD q, iD 0]) := by
  have r := qnorm_c (decide (n < 0)) n.natAbs d.natAbs (by have := dg_small n.natAbs (by omega); omega) (by omega)
  rw [sg_self, d1_pos (by omega), ← hq] at r
  have e : (!(decide (n < 0) == decide (d < 0))) = decide (n < 0) := by rw [decide_eq_false (show ¬ d < 0 by omega)]; simp
  refine pure_of_awp Tz_ok mixed Tryz.func93 rfl ?_
  focus
    refine awp_seq (awp_region rfl ?_)
    refine st_end [] [] [] (True) [(4, D.own 0 0), (5, iD 0)] [Bk.mk [bD false, nl, nl] 95 0 false false] (by kernel_rfl) trivial ?_
    refine awp_seq (awp_seq (awp_region rfl ?_))
    refine st_end0 [] [] [6] (True) [(7, bD (d == (0 : Int)))] (by kernel_rfl) trivial ?_
    refine cond_f (t := d == (0 : Int)) (by kernel_rfl) (by exact decide_eq_false (by omega)) ?_
    refine awp_skip (then_normal (next_same (awp_seq (awp_region rfl ?_))))
    refine st_run0 5 [] [] (True) [(9, iD n), (10, bD (decide (n < 0))), (11, iD d), (12, bD (decide (d < 0))), (13, bD !decide (n < 0) == decide (d < 0))] (by kernel_rfl) trivial ?_
    refine st_slot 13 (bD !decide (n < 0) == decide (d < 0)) (bD (decide (n < 0))) (by kernel_rfl) (by simp (disch := omega) only [e]) (by kernel_rfl) ?_
    refine st_run0 1 [] [] (True) [(14, iD n)] (by kernel_rfl) trivial ?_
    refine st_callr [iD n] (by kernel_rfl) (by exact mag_c n (by omega) (by omega)) ?_
    refine st_run0 1 [] [] (True) [(16, iD d)] (by kernel_rfl) trivial ?_
    refine st_callr [iD d] (by kernel_rfl) (by exact mag_c d (by omega) (by omega)) ?_
    refine st_run0 1 [] [] ((1 = 1 ∧ 1 ≤ 3 ∧ 1 = 1 ∧ 2 ≤ List.length (setAt [bD false, nl, nl] 0 (cellsOf (bD (decide (n < 0))))) ∧ 1 = 1 ∧ 3 ≤ List.length (setAt (setAt [bD false, nl, nl] 0 (cellsOf (bD (decide (n < 0))))) 1 (cellsOf (natD (Int.natAbs n)))) ∧ True) ∧ true = true) [(18, D.agg [bD (decide (n < 0)), natD (Int.natAbs n), natD (Int.natAbs d)])] (by kernel_rfl) ⟨⟨(by kernel_rfl), ⟨(by omega), ⟨(by kernel_rfl), ⟨(lb (by kernel_rfl)), ⟨(by kernel_rfl), ⟨(lb (by kernel_rfl)), trivial⟩⟩⟩⟩⟩⟩, (by kernel_rfl)⟩ ?_
    refine st_callr [D.agg [bD (decide (n < 0)), natD (Int.natAbs n), natD (Int.natAbs d)]] (by kernel_rfl) (by exact r) ?_
    refine st_end [] [] [0, 1, 7, 9, 10, 11, 12, 13, 14, 15, 16, 17, 18, 19] (false = false ∧ true = true ∧ 3 = 3 ∧ 3 ≤ 3) [] [Bk.mk (ratL q) 95 0 false false] (by kernel_rfl) ⟨(by kernel_rfl), ⟨(by kernel_rfl), ⟨(by kernel_rfl), (by omega)⟩⟩⟩ ?_
    refine awp_ret ?_
    refine ret_run (3 ≤ 3) (D.tup [D.agg (ratL q), iD 0]) (D.tup [D.agg [D.val (Value.bool (decide (Rat.num q < 0))), natD (Int.natAbs (Rat.num q)), natD (Rat.den q)], D.val (Value.int IntKind.i64 (0 : Int))]) (.inr rfl) (by kernel_rfl) (lb (by kernel_rfl)) rfl rfl
theorem take1_row (l : List Nat) : (.row (List.take (if (1 : Int) < (l.length : Int) then 1 else (l.length : Int)).toNat (l.map dig)) (if (1 : Int) < (l.length : Int) then 1 else (l.length : Int)).toNat : D) = digR (l.take 1) := by
  cases l with
  | nil => rfl
  | cons a l =>
    have h : (if (1 : Int) < ((a :: l).length : Int) then 1 else ((a :: l).length : Int)).toNat = 1 := by
      rw [List.length_cons]; split <;> omega
    rw [h]; simp
theorem moment0_c (x : El) (hx : x.n0.length ≤ 6) (q : Rat) (hq : q = mkRat x.s0 (if x.d0 = 0 then 1 else x.d0.natAbs)) (h1 : -32768 ≤ x.s0) (h2 : x.s0 ≤ 32767) (h3 : 0 ≤ x.d0) (h4 : x.d0 ≤ 255) : Pure Tryz.prog 56 [x.d, iD 0] [] (momR (x.n0.take 1) q) := by
  have c := qof_c x.s0 (if x.d0 < 1 then 1 else x.d0) q (by rw [hq]; congr 1; split <;> split <;> omega) (by omega) (by omega) (by split <;> omega) (by split <;> omega)
  refine pure_of_awp Tz_ok mixed Tryz.func56 rfl ?_
  focus
    refine awp_seq (awp_region rfl ?_)
    refine st_end [] [] [0] (True) [(2, D.own 0 0), (4, D.own (1) 0)] [Bk.mk (El.cells x) 38 0 false false, Bk.mk [nl, bD false, nl, nl] 97 0 false false] (by kernel_rfl) trivial ?_
    refine awp_seq ?_
    refine awp_drawn [0, 1, 2, 5, 6, 7, 3, 4, 8, 9, 10, 11, 12, 13, 14, 15, 16, 17] (by kernel_rfl) rfl ?_
    refine st_run0 11 [] [] (True ∧ ((0 : Int) ≤ (0 : Int) ∧ (0 : Int) < (↑(3 : Nat) : Int)) ∧ True ∧ ((0 : Int) ≤ (0 : Int) ∧ (0 : Int) < (↑(3 : Nat) : Int)) ∧ 0 < 25 ∧ (-9223372036854775808 ≤ El.s0 x ∧ El.s0 x ≤ 9223372036854775807) ∧ 0 < 22 ∧ (-9223372036854775808 ≤ if (1 : Int) > El.d0 x then (1 : Int) else El.d0 x) ∧ (if (1 : Int) > El.d0 x then (1 : Int) else El.d0 x) ≤ 9223372036854775807) [(9, iD 0), (10, D.own 0 6), (11, D.own 0 6), (12, D.val (Value.int IntKind.i16 (El.s0 x))), (13, iD (El.s0 x)), (14, iD 0), (15, D.own 0 9), (16, D.own 0 9), (17, D.val (Value.int IntKind.u8 (El.d0 x))), (18, D.val (Value.int IntKind.u8 (if (1 : Int) > El.d0 x then (1 : Int) else El.d0 x))), (19, iD (if (1 : Int) > El.d0 x then (1 : Int) else El.d0 x))] (by kernel_rfl) ⟨trivial, (by omega), trivial, (by omega), (lb (by kernel_rfl)), (by omega), (lb (by kernel_rfl)), (by omega)⟩ ?_
    refine st_callr [iD (El.s0 x), iD (if (1 : Int) > El.d0 x then (1 : Int) else El.d0 x)] (by kernel_rfl) (by exact c) ?_
    refine st_end [] [] [6, 8, 9, 10, 11, 12, 13, 14, 15, 16, 17, 18, 19, 20, 21, 22] (0 < 2 ∧ 1 < 2 ∧ false = false ∧ true = true ∧ 3 = 3 ∧ 3 ≤ 3) [(5, D.own (2) 0)] [Bk.mk (El.cells x) 38 0 false false, Bk.mk [nl, bD false, nl, nl] 97 0 false false, Bk.mk (ratL q) 95 0 false false] (by kernel_rfl) ⟨(lb (by kernel_rfl)), (lb (by kernel_rfl)), ⟨(by kernel_rfl), ⟨(by kernel_rfl), ⟨(by kernel_rfl), (by omega)⟩⟩⟩⟩ ?_
    refine awp_seq (awp_region rfl ?_)
    refine st_end0 [] [] [1, 2, 23, 24, 25, 26] (True ∧ ((0 : Int) ≤ (0 : Int) ∧ (0 : Int) < (↑(3 : Nat) : Int)) ∧ 0 < 31) [(7, digR (El.n0 x))] (by kernel_rfl) ⟨trivial, (by omega), (lb (by kernel_rfl))⟩ ?_
    refine awp_seq ?_
    refine awp_drawn [0, 1, 2, 3, 4, 5, 6, 7] (by kernel_rfl) rfl ?_
    refine st_run0 5 [] [] (True ∧ ((0 : Int) ≤ if (1 : Int) < (↑(List.length (El.n0 x)) : Int) then (1 : Int) else (↑(List.length (El.n0 x)) : Int)) ∧ True ∧ 0 < 1 ∧ 0 ≤ Int.toNat (if (1 : Int) < (↑(List.length (El.n0 x)) : Int) then (1 : Int) else (↑(List.length (El.n0 x)) : Int)) ∧ Int.toNat (if (1 : Int) < (↑(List.length (El.n0 x)) : Int) then (1 : Int) else (↑(List.length (El.n0 x)) : Int)) ≤ List.length (El.n0 x) ∧ Int.toNat (if (1 : Int) < (↑(List.length (El.n0 x)) : Int) then (1 : Int) else (↑(List.length (El.n0 x)) : Int)) = Int.toNat (if (1 : Int) < (↑(List.length (El.n0 x)) : Int) then (1 : Int) else (↑(List.length (El.n0 x)) : Int))) [(27, digR (El.n0 x)), (28, digR (El.n0 x)), (29, iD (↑(List.length (El.n0 x)) : Int)), (30, iD (if (1 : Int) < (↑(List.length (El.n0 x)) : Int) then (1 : Int) else (↑(List.length (El.n0 x)) : Int))), (31, D.row (List.take ((Int.toNat (if (1 : Int) < (↑(List.length (El.n0 x)) : Int) then (1 : Int) else (↑(List.length (El.n0 x)) : Int)) - 0) * 1) (List.drop 0 (List.map dig (El.n0 x)))) (Int.toNat (if (1 : Int) < (↑(List.length (El.n0 x)) : Int) then (1 : Int) else (↑(List.length (El.n0 x)) : Int)) - 0))] (by kernel_rfl) ⟨trivial, ⟨(by omega), ⟨trivial, (by omega)⟩⟩⟩ ?_
    refine st_slot 31 (D.row (List.take ((Int.toNat (if (1 : Int) < (↑(List.length (El.n0 x)) : Int) then (1 : Int) else (↑(List.length (El.n0 x)) : Int)) - 0) * 1) (List.drop 0 (List.map dig (El.n0 x)))) (Int.toNat (if (1 : Int) < (↑(List.length (El.n0 x)) : Int) then (1 : Int) else (↑(List.length (El.n0 x)) : Int)) - 0)) (D.row (List.take (Int.toNat (if (1 : Int) < (↑(List.length (El.n0 x)) : Int) then (1 : Int) else (↑(List.length (El.n0 x)) : Int))) (List.map dig (El.n0 x))) (Int.toNat (if (1 : Int) < (↑(List.length (El.n0 x)) : Int) then (1 : Int) else (↑(List.length (El.n0 x)) : Int)))) (by kernel_rfl) (by simp (disch := omega) only [Nat.sub_zero, Nat.mul_one, List.drop_zero]) (by kernel_rfl) ?_
    refine st_end [] [] [5, 7, 27, 28, 29, 30, 31, 32, 33] (3 ≤ 3 ∧ ((1 = 1 ∧ 1 ≤ 4 ∧ 3 = 3 ∧ 4 ≤ List.length (setAt [nl, bD false, nl, nl] 0 (cellsOf (D.row (List.take (Int.toNat (if (1 : Int) < (↑(List.length (El.n0 x)) : Int) then (1 : Int) else (↑(List.length (El.n0 x)) : Int))) (List.map dig (El.n0 x))) (Int.toNat (if (1 : Int) < (↑(List.length (El.n0 x)) : Int) then (1 : Int) else (↑(List.length (El.n0 x)) : Int)))))) ∧ True) ∧ true = true) ∧ false = false ∧ true = true ∧ 4 = 4 ∧ 4 ≤ 4) [] [Bk.mk (El.cells x) 38 0 false false, Bk.mk [D.row (List.take (Int.toNat (if (1 : Int) < (↑(List.length (El.n0 x)) : Int) then (1 : Int) else (↑(List.length (El.n0 x)) : Int))) (List.map dig (El.n0 x))) (Int.toNat (if (1 : Int) < (↑(List.length (El.n0 x)) : Int) then (1 : Int) else (↑(List.length (El.n0 x)) : Int))), bD (decide (Rat.num q < 0)), natD (Int.natAbs (Rat.num q)), natD (Rat.den q)] 97 0 false false, Bk.mk (ratL q) 95 0 false false] (by kernel_rfl) ⟨(lb (by kernel_rfl)), ⟨⟨(by kernel_rfl), ⟨(by omega), ⟨(by kernel_rfl), ⟨(lb (by kernel_rfl)), trivial⟩⟩⟩⟩, (by kernel_rfl)⟩, ⟨(by kernel_rfl), ⟨(by kernel_rfl), ⟨(by kernel_rfl), (by omega)⟩⟩⟩⟩ ?_
    refine awp_ret ?_
    refine ret_run (4 ≤ 4) (D.agg [D.row (List.take (Int.toNat (if (1 : Int) < (↑(List.length (El.n0 x)) : Int) then (1 : Int) else (↑(List.length (El.n0 x)) : Int))) (List.map dig (El.n0 x))) (Int.toNat (if (1 : Int) < (↑(List.length (El.n0 x)) : Int) then (1 : Int) else (↑(List.length (El.n0 x)) : Int))), bD (decide (Rat.num q < 0)), natD (Int.natAbs (Rat.num q)), natD (Rat.den q)]) (D.agg [D.row (List.take (Int.toNat (if (1 : Int) < (↑(List.length (El.n0 x)) : Int) then (1 : Int) else (↑(List.length (El.n0 x)) : Int))) (List.map dig (El.n0 x))) (Int.toNat (if (1 : Int) < (↑(List.length (El.n0 x)) : Int) then (1 : Int) else (↑(List.length (El.n0 x)) : Int))), D.val (Value.bool (decide (Rat.num q < 0))), natD (Int.natAbs (Rat.num q)), natD (Rat.den q)]) (.inr rfl) (by kernel_rfl) (lb (by kernel_rfl)) rfl ?_
    rotate_left
  rw [take1_row]
theorem moment1_c (x : El) (hx : x.n1.length ≤ 6) (q : Rat) (hq : q = mkRat x.s1 (if x.d1 = 0 then 1 else x.d1.natAbs)) (h1 : -32768 ≤ x.s1) (h2 : x.s1 ≤ 32767) (h3 : 0 ≤ x.d1) (h4 : x.d1 ≤ 255) : Pure Tryz.prog 56 [x.d, iD 1] [] (momR (x.n1.take 1) q) := by
  have c := qof_c x.s1 (if x.d1 < 1 then 1 else x.d1) q (by rw [hq]; congr 1; split <;> split <;> omega) (by omega) (by omega) (by split <;> omega) (by split <;> omega)
  refine pure_of_awp Tz_ok mixed Tryz.func56 rfl ?_
  focus
    refine awp_seq (awp_region rfl ?_)
    refine st_end [] [] [0] (True) [(2, D.own 0 0), (4, D.own (1) 0)] [Bk.mk (El.cells x) 38 0 false false, Bk.mk [nl, bD false, nl, nl] 97 0 false false] (by kernel_rfl) trivial ?_
    refine awp_seq ?_
    refine awp_drawn [0, 1, 2, 5, 6, 7, 3, 4, 8, 9, 10, 11, 12, 13, 14, 15, 16, 17] (by kernel_rfl) rfl ?_
    refine st_run0 11 [] [] (True ∧ ((0 : Int) ≤ (1 : Int) ∧ (1 : Int) < (↑(3 : Nat) : Int)) ∧ True ∧ ((0 : Int) ≤ (1 : Int) ∧ (1 : Int) < (↑(3 : Nat) : Int)) ∧ 0 < 24 ∧ (-9223372036854775808 ≤ El.s1 x ∧ El.s1 x ≤ 9223372036854775807) ∧ 0 < 21 ∧ (-9223372036854775808 ≤ if (1 : Int) > El.d1 x then (1 : Int) else El.d1 x) ∧ (if (1 : Int) > El.d1 x then (1 : Int) else El.d1 x) ≤ 9223372036854775807) [(9, iD 1), (10, D.own 0 6), (11, D.own 0 7), (12, D.val (Value.int IntKind.i16 (El.s1 x))), (13, iD (El.s1 x)), (14, iD 1), (15, D.own 0 9), (16, D.own 0 10), (17, D.val (Value.int IntKind.u8 (El.d1 x))), (18, D.val (Value.int IntKind.u8 (if (1 : Int) > El.d1 x then (1 : Int) else El.d1 x))), (19, iD (if (1 : Int) > El.d1 x then (1 : Int) else El.d1 x))] (by kernel_rfl) ⟨trivial, (by omega), trivial, (by omega), (lb (by kernel_rfl)), (by omega), (lb (by kernel_rfl)), (by omega)⟩ ?_
    refine st_callr [iD (El.s1 x), iD (if (1 : Int) > El.d1 x then (1 : Int) else El.d1 x)] (by kernel_rfl) (by exact c) ?_
    refine st_end [] [] [6, 8, 9, 10, 11, 12, 13, 14, 15, 16, 17, 18, 19, 20, 21, 22] (0 < 2 ∧ 1 < 2 ∧ false = false ∧ true = true ∧ 3 = 3 ∧ 3 ≤ 3) [(5, D.own (2) 0)] [Bk.mk (El.cells x) 38 0 false false, Bk.mk [nl, bD false, nl, nl] 97 0 false false, Bk.mk (ratL q) 95 0 false false] (by kernel_rfl) ⟨(lb (by kernel_rfl)), (lb (by kernel_rfl)), ⟨(by kernel_rfl), ⟨(by kernel_rfl), ⟨(by kernel_rfl), (by omega)⟩⟩⟩⟩ ?_
    refine awp_seq (awp_region rfl ?_)
    refine st_end0 [] [] [1, 2, 23, 24, 25, 26] (True ∧ ((0 : Int) ≤ (1 : Int) ∧ (1 : Int) < (↑(3 : Nat) : Int)) ∧ 0 < 30) [(7, digR (El.n1 x))] (by kernel_rfl) ⟨trivial, (by omega), (lb (by kernel_rfl))⟩ ?_
    refine awp_seq ?_
    refine awp_drawn [0, 1, 2, 3, 4, 5, 6, 7] (by kernel_rfl) rfl ?_
    refine st_run0 5 [] [] (True ∧ ((0 : Int) ≤ if (1 : Int) < (↑(List.length (El.n1 x)) : Int) then (1 : Int) else (↑(List.length (El.n1 x)) : Int)) ∧ True ∧ 0 < 1 ∧ 0 ≤ Int.toNat (if (1 : Int) < (↑(List.length (El.n1 x)) : Int) then (1 : Int) else (↑(List.length (El.n1 x)) : Int)) ∧ Int.toNat (if (1 : Int) < (↑(List.length (El.n1 x)) : Int) then (1 : Int) else (↑(List.length (El.n1 x)) : Int)) ≤ List.length (El.n1 x) ∧ Int.toNat (if (1 : Int) < (↑(List.length (El.n1 x)) : Int) then (1 : Int) else (↑(List.length (El.n1 x)) : Int)) = Int.toNat (if (1 : Int) < (↑(List.length (El.n1 x)) : Int) then (1 : Int) else (↑(List.length (El.n1 x)) : Int))) [(27, digR (El.n1 x)), (28, digR (El.n1 x)), (29, iD (↑(List.length (El.n1 x)) : Int)), (30, iD (if (1 : Int) < (↑(List.length (El.n1 x)) : Int) then (1 : Int) else (↑(List.length (El.n1 x)) : Int))), (31, D.row (List.take ((Int.toNat (if (1 : Int) < (↑(List.length (El.n1 x)) : Int) then (1 : Int) else (↑(List.length (El.n1 x)) : Int)) - 0) * 1) (List.drop 0 (List.map dig (El.n1 x)))) (Int.toNat (if (1 : Int) < (↑(List.length (El.n1 x)) : Int) then (1 : Int) else (↑(List.length (El.n1 x)) : Int)) - 0))] (by kernel_rfl) ⟨trivial, ⟨(by omega), ⟨trivial, (by omega)⟩⟩⟩ ?_
    refine st_slot 31 (D.row (List.take ((Int.toNat (if (1 : Int) < (↑(List.length (El.n1 x)) : Int) then (1 : Int) else (↑(List.length (El.n1 x)) : Int)) - 0) * 1) (List.drop 0 (List.map dig (El.n1 x)))) (Int.toNat (if (1 : Int) < (↑(List.length (El.n1 x)) : Int) then (1 : Int) else (↑(List.length (El.n1 x)) : Int)) - 0)) (D.row (List.take (Int.toNat (if (1 : Int) < (↑(List.length (El.n1 x)) : Int) then (1 : Int) else (↑(List.length (El.n1 x)) : Int))) (List.map dig (El.n1 x))) (Int.toNat (if (1 : Int) < (↑(List.length (El.n1 x)) : Int) then (1 : Int) else (↑(List.length (El.n1 x)) : Int)))) (by kernel_rfl) (by simp (disch := omega) only [Nat.sub_zero, Nat.mul_one, List.drop_zero]) (by kernel_rfl) ?_
    refine st_end [] [] [5, 7, 27, 28, 29, 30, 31, 32, 33] (3 ≤ 3 ∧ ((1 = 1 ∧ 1 ≤ 4 ∧ 3 = 3 ∧ 4 ≤ List.length (setAt [nl, bD false, nl, nl] 0 (cellsOf (D.row (List.take (Int.toNat (if (1 : Int) < (↑(List.length (El.n1 x)) : Int) then (1 : Int) else (↑(List.length (El.n1 x)) : Int))) (List.map dig (El.n1 x))) (Int.toNat (if (1 : Int) < (↑(List.length (El.n1 x)) : Int) then (1 : Int) else (↑(List.length (El.n1 x)) : Int)))))) ∧ True) ∧ true = true) ∧ false = false ∧ true = true ∧ 4 = 4 ∧ 4 ≤ 4) [] [Bk.mk (El.cells x) 38 0 false false, Bk.mk [D.row (List.take (Int.toNat (if (1 : Int) < (↑(List.length (El.n1 x)) : Int) then (1 : Int) else (↑(List.length (El.n1 x)) : Int))) (List.map dig (El.n1 x))) (Int.toNat (if (1 : Int) < (↑(List.length (El.n1 x)) : Int) then (1 : Int) else (↑(List.length (El.n1 x)) : Int))), bD (decide (Rat.num q < 0)), natD (Int.natAbs (Rat.num q)), natD (Rat.den q)] 97 0 false false, Bk.mk (ratL q) 95 0 false false] (by kernel_rfl) ⟨(lb (by kernel_rfl)), ⟨⟨(by kernel_rfl), ⟨(by omega), ⟨(by kernel_rfl), ⟨(lb (by kernel_rfl)), trivial⟩⟩⟩⟩, (by kernel_rfl)⟩, ⟨(by kernel_rfl), ⟨(by kernel_rfl), ⟨(by kernel_rfl), (by omega)⟩⟩⟩⟩ ?_
    refine awp_ret ?_
    refine ret_run (4 ≤ 4) (D.agg [D.row (List.take (Int.toNat (if (1 : Int) < (↑(List.length (El.n1 x)) : Int) then (1 : Int) else (↑(List.length (El.n1 x)) : Int))) (List.map dig (El.n1 x))) (Int.toNat (if (1 : Int) < (↑(List.length (El.n1 x)) : Int) then (1 : Int) else (↑(List.length (El.n1 x)) : Int))), bD (decide (Rat.num q < 0)), natD (Int.natAbs (Rat.num q)), natD (Rat.den q)]) (D.agg [D.row (List.take (Int.toNat (if (1 : Int) < (↑(List.length (El.n1 x)) : Int) then (1 : Int) else (↑(List.length (El.n1 x)) : Int))) (List.map dig (El.n1 x))) (Int.toNat (if (1 : Int) < (↑(List.length (El.n1 x)) : Int) then (1 : Int) else (↑(List.length (El.n1 x)) : Int))), D.val (Value.bool (decide (Rat.num q < 0))), natD (Int.natAbs (Rat.num q)), natD (Rat.den q)]) (.inr rfl) (by kernel_rfl) (lb (by kernel_rfl)) rfl ?_
    rotate_left
  rw [take1_row]
end Go.Proofs.YtgbhoceamcomfaaGreat
namespace Go.Proofs.YtgbhoceamcomfaaGreat
open Go.RowKit
attribute [local irreducible] seqW awp thenW nextW blockW Weak updS deadS retL Pure Acts
set_option linter.unusedVariables false
set_option linter.unusedSimpArgs false
theorem few_all {x : El} (h : x.few = true) : (x.n0.length ≤ 6 ∧ x.n1.length ≤ 6 ∧ x.n2.length ≤ 6) ∧ OkW 0 x.w0 ∧ OkW 0 x.w1 ∧ OkW 0 x.w2 := by
  have key : ∀ w, okW w = true → Short 8 w := fun w h s hs => by
    have := List.all_eq_true.1 h s hs
    simpa using this
  simp only [El.few, ok1, Bool.and_eq_true, decide_eq_true_eq] at h
  obtain ⟨⟨⟨⟨h1, h2⟩, _⟩, h3⟩, ⟨⟨⟨h4, h5⟩, _⟩, h6⟩, ⟨⟨h7, h8⟩, _⟩, h9⟩ := h
  exact ⟨⟨h1, h4, h7⟩, ⟨by simpa using h2, key _ h3⟩, ⟨by simpa using h5, key _ h6⟩, ⟨by simpa using h8, key _ h9⟩⟩
theorem okQ_mk (z : Int) (d : Nat) (hz : z.natAbs < 4294967296) (h0 : 0 < d) (hd : d ≤ 255) : OkQ 0 (mkRat z d) := by
  refine ⟨?_, ?_⟩
  · rw [mk_num _ _ (by omega)]
    have := dg_small (z / (z.natAbs.gcd d : Nat)).natAbs (Nat.lt_of_le_of_lt (Int.natAbs_ediv_le_natAbs _ _) hz)
    omega
  · rw [mk_den _ _ (by omega)]
    have := Nat.div_le_self d (z.natAbs.gcd d)
    simpa using Nat.le_trans this hd
theorem okD_take {l : List Nat} (h : Digs l) : OkD 0 (l.take 1) := ⟨h.take 1, by rw [List.length_take]; omega⟩
end Go.Proofs.YtgbhoceamcomfaaGreat
namespace Go.Proofs.YtgbhoceamcomfaaGreat
open Go.RowKit
attribute [local irreducible] seqW awp thenW nextW blockW Weak updS deadS retL Pure Acts
set_option linter.unusedVariables false
set_option linter.unusedSimpArgs false
set_option maxRecDepth 4096
def tn (p q : Bool) (a b : Nat) : Nat := if (p && q) = true then 0 else if q = true ∨ (p = false ∧ a ≤ b) then a else b
theorem bAdd_c (p q : Bool) : Pure Tryz.prog 46 [.agg [], bD p, bD q] [] (bD (Bool.or p q)) := by
  refine pure_of_awp Tz_ok mixed Tryz.func46 rfl ?_
  focus
    refine awp_seq (awp_region rfl ?_)
    refine st_end [] [] [0, 3] (True) [(6, bD false)] [Bk.mk [] 62 0 false false] (by kernel_rfl) trivial ?_
    refine awp_seq (awp_region rfl ?_)
    refine st_run0 2 [] [] (True) [(7, bD p), (8, bD p)] (by kernel_rfl) trivial ?_
    refine st_split 8 (p) (by kernel_rfl) (fun hc => ?_) (fun hc => ?_)
    subst hc
    refine st_end0 [] [] [1, 2, 7, 8, 9, 10] (True) [(6, bD true)] (by kernel_rfl) trivial ?_
    refine awp_ret ?_
    refine ret_run (True) (bD true) (D.val (Value.bool true)) (.inr rfl) (by kernel_rfl) trivial rfl (by simp)
    subst hc
    refine st_end0 [] [] [1, 2, 7, 8, 9, 10] (True) [(6, bD q)] (by kernel_rfl) trivial ?_
    refine awp_ret ?_
    refine ret_run (True) (bD q) (D.val (Value.bool q)) (.inr rfl) (by kernel_rfl) trivial rfl (by simp)
  all_goals simp_all
theorem bMul_c (p q : Bool) : Pure Tryz.prog 47 [.agg [], bD p, bD q] [] (bD (Bool.and p q)) := by
  refine pure_of_awp Tz_ok mixed Tryz.func47 rfl ?_
  focus
    refine awp_seq (awp_region rfl ?_)
    refine st_end [] [] [0, 3] (True) [(6, bD false)] [Bk.mk [] 62 0 false false] (by kernel_rfl) trivial ?_
    refine awp_seq (awp_region rfl ?_)
    refine st_run0 2 [] [] (True) [(7, bD p), (8, bD p)] (by kernel_rfl) trivial ?_
    refine st_split 8 (p) (by kernel_rfl) (fun hc => ?_) (fun hc => ?_)
    subst hc
    refine st_end0 [] [] [1, 2, 7, 8, 9, 10] (True) [(6, bD q)] (by kernel_rfl) trivial ?_
    refine awp_ret ?_
    refine ret_run (True) (bD q) (D.val (Value.bool q)) (.inr rfl) (by kernel_rfl) trivial rfl (by simp)
    subst hc
    refine st_end0 [] [] [1, 2, 7, 8, 9, 10] (True) [] (by kernel_rfl) trivial ?_
    refine awp_ret ?_
    refine ret_run (True) (bD false) (D.val (Value.bool false)) (.inr rfl) (by kernel_rfl) trivial rfl (by simp)
  all_goals simp_all
end Go.Proofs.YtgbhoceamcomfaaGreat

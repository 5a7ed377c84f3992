/- Package wtree: put, Put. -/
import Derived.Test.YtbbnpicddmplbaaWt3
namespace Go.Proofs.Ytbbnpicddmplbaa
open Go.RowKit Go.Deep
set_option linter.unusedVariables false
set_option linter.unusedSimpArgs false
variable {S : Nat → Prop}



/-- What put hands back. -/
def PutSaid (S : Nat → Prop) (d : Bool) (rp : Option Addr) (e : GV × Nat) (wv : Value) (t : T) : Prop :=
  ∀ (w : World) (p : Option Addr), Fresh S w → TreeV S w p t → NatV S w wv e.2 → Avl t → Sorted d (lst t) → sz t < 10000000000 → tot t + e.2 < bigN →
    Calls Try.prog 39 #[.agg #[.bool d, .pointer rp], .pointer p, .agg #[.int .i64 e.1.kind, .int .i64 e.1.num, .string e.1.str, wv]] w
      fun e' w' => ∃ p' t', e' = .returned (.pointer p') ∧ Ext w w' ∧ TreeV S w' p' t' ∧ lst t' = insL d e (lst t) ∧ Avl t' ∧ ht t ≤ ht t' ∧ ht t' ≤ ht t + 1
set_option maxHeartbeats 4000000 in
set_option maxRecDepth 100000 in
theorem put_lt {w : World} (hS : Fresh S w) (d : Bool) (rp : Option Addr) (e : GV × Nat) {wv : Value} {p : Option Addr} {lb lo : Nat} {le : GV × Nat} {ll lr : T} (hl : TreeV S w p (.node lb lo le ll lr)) (hw : NatV S w wv e.2)
    (ha : Avl (.node lb lo le ll lr)) (hso : Sorted d (lst (.node lb lo le ll lr))) (hs : sz ll + 1 + sz lr < 10000000000) (hb : tot ll + le.2 + tot lr + e.2 < bigN) (ih : PutSaid S d rp e wv ll) (h : tcmp d e.1 le.1 < 0) :
    Calls Try.prog 39 #[.agg #[.bool d, .pointer rp], .pointer p, .agg #[.int .i64 e.1.kind, .int .i64 e.1.num, .string e.1.str, wv]] w
      fun e' w' => ∃ p' t', e' = .returned (.pointer p') ∧ Ext w w' ∧ TreeV S w' p' t' ∧ lst t' = insL d e (lst (.node lb lo le ll lr)) ∧ Avl t' ∧ ht (.node lb lo le ll lr) ≤ ht t' ∧ ht t' ≤ ht (.node lb lo le ll lr) + 1 := by
  have HI := Lib.hid ih
  clear ih
  obtain ⟨⟨ek, en, es⟩, ew⟩ := e
  obtain ⟨sa, sk, sc, rfl⟩ := slice_of_nat hw
  have HL := Lib.hid hl
  obtain ⟨rfl, rfl, lwv, ltv, llp, lrp, hlb, hlw, -, hll, hlr⟩ := hl.open
  obtain ⟨lsa, lsk, lsc, rfl⟩ := slice_of_nat hlw
  obtain ⟨y0, y1, y2, y3, y4, y5, -⟩ := nodeF hlb
  have HLL := Lib.hid (And.intro hlw (And.intro hll hlr))
  have HW := Lib.hid hw
  have HB := Lib.hid hb
  have HA := Lib.hid ha
  have HS := Lib.hid hso
  have HSF := Lib.hid hS
  clear hl hlb hlw hll hlr hw hb ha hso hS
  go_enter Try.func39, Try.ntmps39
  go_wp2_with fail
  generalize hW0 : (w.alloc (.cells #[.bool d, .pointer rp] 27)).alloc (.cells #[.int .i64 ek, .int .i64 en, .string es, .slice sa sk sc] 84) = w0
  obtain ⟨he0, hb1, hb2⟩ := box2 w [.bool d, .pointer rp] [.int .i64 ek, .int .i64 en, .string es, .slice sa sk sc] _ _ w0 hW0
  clear hW0
  obtain ⟨q0, q1⟩ := boxT hb1
  obtain ⟨x0, x1, x2, x3⟩ := boxE (w1 := w) hb2
  clear hb1 hb2
  have Ew0 := Lib.hid he0
  have Fw0 := Lib.hid (Ext.refl w0)
  refine wp_region_mixE 11 [(0, 0), (1, 3), (2, 0), (3, 3), (4, 3), (5, 3), (6, 3), (7, 0), (8, 1), (9, 3)] (by kernel_rfl) (fun _ _ d _ _ h => by cases d <;> exact h) ?_
  intro w1 hw1
  simp only [List.map_cons, List.map_nil, mixPick_lt _ _ 0 rfl, mixPick_lt _ _ 1 rfl, mixPick_lt _ _ 2 rfl, mixPick_lt _ _ 3 rfl, mixPick_fork, List.getD_cons_zero, List.getD_cons_succ]
  generalize yielded _ = y
  have Ew1 := Lib.hid (Ew0.out.trans hw1)
  have Fw1 := Lib.hid (Fw0.out.trans hw1)
  have tew1 := fun W (h : Ext w1 W) => Ew1.out.trans h
  have tfw1 := fun W (h : Ext w1 W) => Fw1.out.trans h
  repeat (first | (refine mx_pu (v := ?_) rfl (fun W => ?_) ?_; rotate_left; (focus (go_simp <;> with_reducible rfl)); simp only [Act.put, List.setIfInBounds_toArray, List.set_cons_zero, List.set_cons_succ]) | (refine mx_st (v := ?_) rfl (fun W hW => ?_) ?_; rotate_left; (focus (go_simp <;> with_reducible rfl)); simp only [Act.put, List.setIfInBounds_toArray, List.set_cons_zero, List.set_cons_succ]))
  refine mx_call (f := ?_) (args := ?_) rfl ?_ ?_
  rotate_left 2
  focus (go_simp <;> (refine ⟨?_, ?_⟩ <;> with_reducible rfl))
  with_reducible refine (compare_c d rp ⟨ek, en, es⟩ le.1 _).mono ?_
  rintro e w2 ⟨rfl, hw2⟩
  refine ⟨_, rfl, hw2, ?_⟩
  simp only [Act.put, List.setIfInBounds_toArray, List.set_cons_zero, List.set_cons_succ]
  have Ew2 := Lib.hid (Ew1.out.trans hw2)
  have Fw2 := Lib.hid (Fw1.out.trans hw2)
  have tew2 := fun W (h : Ext w2 W) => Ew2.out.trans h
  have tfw2 := fun W (h : Ext w2 W) => Fw2.out.trans h
  clear tew1 tfw1
  repeat (first | (refine mx_pu (v := ?_) rfl (fun W => ?_) ?_; rotate_left; (focus (go_simp <;> with_reducible rfl)); simp only [Act.put, List.setIfInBounds_toArray, List.set_cons_zero, List.set_cons_succ]) | (refine mx_st (v := ?_) rfl (fun W hW => ?_) ?_; rotate_left; (focus (go_simp <;> with_reducible rfl)); simp only [Act.put, List.setIfInBounds_toArray, List.set_cons_zero, List.set_cons_succ]))
  refine mx_nil ?_
  generalize hc : tcmp d ⟨ek, en, es⟩ le.1 = c at *
  have HC := Lib.hid hc
  clear hc
  go_wp2_with fail
  refine wp_region_mixE 18 [(0, 0), (1, 3), (2, 3), (3, 3), (4, 0), (5, 0), (7, 3), (8, 3), (9, 3), (10, 0), (11, 3), (12, 3), (13, 3), (14, 0), (6, 1), (15, 1), (16, 3)] (by kernel_rfl) (fun _ _ d _ _ h => by cases d <;> exact h) ?_
  intro w3 hw3
  simp only [List.map_cons, List.map_nil, mixPick_lt _ _ 0 rfl, mixPick_lt _ _ 1 rfl, mixPick_lt _ _ 2 rfl, mixPick_lt _ _ 3 rfl, mixPick_fork, List.getD_cons_zero, List.getD_cons_succ]
  generalize yielded _ = y
  have Ew3 := Lib.hid (Ew2.out.trans hw3)
  have Fw3 := Lib.hid (Fw2.out.trans hw3)
  have tew3 := fun W (h : Ext w3 W) => Ew3.out.trans h
  have tfw3 := fun W (h : Ext w3 W) => Fw3.out.trans h
  clear tew2 tfw2
  repeat (first | (refine mx_pu (v := ?_) rfl (fun W => ?_) ?_; rotate_left; (focus (go_simp <;> with_reducible rfl)); simp only [Act.put, List.setIfInBounds_toArray, List.set_cons_zero, List.set_cons_succ]) | (refine mx_st (v := ?_) rfl (fun W hW => ?_) ?_; rotate_left; (focus (go_simp <;> with_reducible rfl)); simp only [Act.put, List.setIfInBounds_toArray, List.set_cons_zero, List.set_cons_succ]))
  refine mx_call (f := ?_) (args := ?_) rfl ?_ ?_
  rotate_left 2
  focus (go_simp <;> (refine ⟨?_, ?_⟩ <;> with_reducible rfl))
  have hI := HI.out w3 llp (HSF.out.ext Ew3.out) (HLL.out.2.1.ext Ew3.out) (HW.out.ext Ew3.out) HA.out.1 HS.out.left (by omega) (by have := HB.out; (try simp only at this ⊢); omega)
  with_reducible refine hI.mono ?_
  clear hI
  rintro e w4 ⟨p4, t4, rfl, hw4, v4, l4, a4, h4, h4'⟩
  refine ⟨_, rfl, hw4, ?_⟩
  simp only [Act.put, List.setIfInBounds_toArray, List.set_cons_zero, List.set_cons_succ]
  have Ew4 := Lib.hid (Ew3.out.trans hw4)
  have Fw4 := Lib.hid (Fw3.out.trans hw4)
  have tew4 := fun W (h : Ext w4 W) => Ew4.out.trans h
  have tfw4 := fun W (h : Ext w4 W) => Fw4.out.trans h
  clear tew3 tfw3
  have hsz : sz t4 ≤ sz ll + 1 := by rw [← sz_lst, l4, ← sz_lst]; exact insL_length_le _ _ _
  have htt : tot t4 ≤ tot ll + ew := by rw [← tot_lst, l4, ← tot_lst]; exact insL_sum_le _ _ _
  have H4 := Lib.hid l4
  clear l4
  repeat (first | (refine mx_pu (v := ?_) rfl (fun W => ?_) ?_; rotate_left; (focus (go_simp <;> with_reducible rfl)); simp only [Act.put, List.setIfInBounds_toArray, List.set_cons_zero, List.set_cons_succ]) | (refine mx_st (v := ?_) rfl (fun W hW => ?_) ?_; rotate_left; (focus (go_simp <;> with_reducible rfl)); simp only [Act.put, List.setIfInBounds_toArray, List.set_cons_zero, List.set_cons_succ]))
  refine mx_call (f := ?_) (args := ?_) rfl ?_ ?_
  rotate_left 2
  focus (go_simp <;> (refine ⟨?_, ?_⟩ <;> with_reducible rfl))
  have hI := balance_c (HSF.out.ext Ew4.out) (e := le) v4 (HLL.out.2.2.ext Ew4.out) (HLL.out.1.ext Ew4.out) (by omega) (by have := HB.out; (try simp only at this ⊢); omega) a4 HA.out.2.1 (by have := HA.out.2.2; omega) (by have := HA.out.2.2; omega)
  with_reducible refine hI.mono ?_
  clear hI
  rintro e w5 ⟨p5, t5, rfl, hw5, v5, b5⟩
  refine ⟨_, rfl, hw5, ?_⟩
  simp only [Act.put, List.setIfInBounds_toArray, List.set_cons_zero, List.set_cons_succ]
  repeat (first | (refine mx_pu (v := ?_) rfl (fun W => ?_) ?_; rotate_left; (focus (go_simp <;> with_reducible rfl)); simp only [Act.put, List.setIfInBounds_toArray, List.set_cons_zero, List.set_cons_succ]) | (refine mx_st (v := ?_) rfl (fun W hW => ?_) ?_; rotate_left; (focus (go_simp <;> with_reducible rfl)); simp only [Act.put, List.setIfInBounds_toArray, List.set_cons_zero, List.set_cons_succ]))
  refine mx_nil ?_
  go_wp2_with fail
  go_ret
  refine ⟨p5, t5, rfl, Ew4.out.trans hw5, v5, ?_, b5.2.1, ?_, ?_⟩
  · rw [b5.1, H4.out]
    exact (insL_lt (by rw [HC.out]; exact h) _ _).symm
  · obtain ⟨-, -, g1, g2, g3⟩ := b5
    have := HA.out.2.2
    simp only [ht]
    rcases Nat.lt_or_ge (ht lr + 1) (ht t4) with k | k
    · omega
    · have := g3 (by omega) (by omega)
      omega
  · obtain ⟨-, -, g1, g2, g3⟩ := b5
    have := HA.out.2.2
    simp only [ht]
    omega
set_option maxHeartbeats 4000000 in
set_option maxRecDepth 100000 in
theorem put_gt {w : World} (hS : Fresh S w) (d : Bool) (rp : Option Addr) (e : GV × Nat) {wv : Value} {p : Option Addr} {lb lo : Nat} {le : GV × Nat} {ll lr : T} (hl : TreeV S w p (.node lb lo le ll lr)) (hw : NatV S w wv e.2)
    (ha : Avl (.node lb lo le ll lr)) (hso : Sorted d (lst (.node lb lo le ll lr))) (hs : sz ll + 1 + sz lr < 10000000000) (hb : tot ll + le.2 + tot lr + e.2 < bigN) (ih : PutSaid S d rp e wv lr) (h : 0 < tcmp d e.1 le.1) :
    Calls Try.prog 39 #[.agg #[.bool d, .pointer rp], .pointer p, .agg #[.int .i64 e.1.kind, .int .i64 e.1.num, .string e.1.str, wv]] w
      fun e' w' => ∃ p' t', e' = .returned (.pointer p') ∧ Ext w w' ∧ TreeV S w' p' t' ∧ lst t' = insL d e (lst (.node lb lo le ll lr)) ∧ Avl t' ∧ ht (.node lb lo le ll lr) ≤ ht t' ∧ ht t' ≤ ht (.node lb lo le ll lr) + 1 := by
  have HI := Lib.hid ih
  clear ih
  obtain ⟨⟨ek, en, es⟩, ew⟩ := e
  obtain ⟨sa, sk, sc, rfl⟩ := slice_of_nat hw
  have HL := Lib.hid hl
  obtain ⟨rfl, rfl, lwv, ltv, llp, lrp, hlb, hlw, -, hll, hlr⟩ := hl.open
  obtain ⟨lsa, lsk, lsc, rfl⟩ := slice_of_nat hlw
  obtain ⟨y0, y1, y2, y3, y4, y5, -⟩ := nodeF hlb
  have HLL := Lib.hid (And.intro hlw (And.intro hll hlr))
  have HW := Lib.hid hw
  have HB := Lib.hid hb
  have HA := Lib.hid ha
  have HS := Lib.hid hso
  have HSF := Lib.hid hS
  clear hl hlb hlw hll hlr hw hb ha hso hS
  go_enter Try.func39, Try.ntmps39
  go_wp2_with fail
  generalize hW0 : (w.alloc (.cells #[.bool d, .pointer rp] 27)).alloc (.cells #[.int .i64 ek, .int .i64 en, .string es, .slice sa sk sc] 84) = w0
  obtain ⟨he0, hb1, hb2⟩ := box2 w [.bool d, .pointer rp] [.int .i64 ek, .int .i64 en, .string es, .slice sa sk sc] _ _ w0 hW0
  clear hW0
  obtain ⟨q0, q1⟩ := boxT hb1
  obtain ⟨x0, x1, x2, x3⟩ := boxE (w1 := w) hb2
  clear hb1 hb2
  have Ew0 := Lib.hid he0
  have Fw0 := Lib.hid (Ext.refl w0)
  refine wp_region_mixE 11 [(0, 0), (1, 3), (2, 0), (3, 3), (4, 3), (5, 3), (6, 3), (7, 0), (8, 1), (9, 3)] (by kernel_rfl) (fun _ _ d _ _ h => by cases d <;> exact h) ?_
  intro w1 hw1
  simp only [List.map_cons, List.map_nil, mixPick_lt _ _ 0 rfl, mixPick_lt _ _ 1 rfl, mixPick_lt _ _ 2 rfl, mixPick_lt _ _ 3 rfl, mixPick_fork, List.getD_cons_zero, List.getD_cons_succ]
  generalize yielded _ = y
  have Ew1 := Lib.hid (Ew0.out.trans hw1)
  have Fw1 := Lib.hid (Fw0.out.trans hw1)
  have tew1 := fun W (h : Ext w1 W) => Ew1.out.trans h
  have tfw1 := fun W (h : Ext w1 W) => Fw1.out.trans h
  repeat (first | (refine mx_pu (v := ?_) rfl (fun W => ?_) ?_; rotate_left; (focus (go_simp <;> with_reducible rfl)); simp only [Act.put, List.setIfInBounds_toArray, List.set_cons_zero, List.set_cons_succ]) | (refine mx_st (v := ?_) rfl (fun W hW => ?_) ?_; rotate_left; (focus (go_simp <;> with_reducible rfl)); simp only [Act.put, List.setIfInBounds_toArray, List.set_cons_zero, List.set_cons_succ]))
  refine mx_call (f := ?_) (args := ?_) rfl ?_ ?_
  rotate_left 2
  focus (go_simp <;> (refine ⟨?_, ?_⟩ <;> with_reducible rfl))
  with_reducible refine (compare_c d rp ⟨ek, en, es⟩ le.1 _).mono ?_
  rintro e w2 ⟨rfl, hw2⟩
  refine ⟨_, rfl, hw2, ?_⟩
  simp only [Act.put, List.setIfInBounds_toArray, List.set_cons_zero, List.set_cons_succ]
  have Ew2 := Lib.hid (Ew1.out.trans hw2)
  have Fw2 := Lib.hid (Fw1.out.trans hw2)
  have tew2 := fun W (h : Ext w2 W) => Ew2.out.trans h
  have tfw2 := fun W (h : Ext w2 W) => Fw2.out.trans h
  clear tew1 tfw1
  repeat (first | (refine mx_pu (v := ?_) rfl (fun W => ?_) ?_; rotate_left; (focus (go_simp <;> with_reducible rfl)); simp only [Act.put, List.setIfInBounds_toArray, List.set_cons_zero, List.set_cons_succ]) | (refine mx_st (v := ?_) rfl (fun W hW => ?_) ?_; rotate_left; (focus (go_simp <;> with_reducible rfl)); simp only [Act.put, List.setIfInBounds_toArray, List.set_cons_zero, List.set_cons_succ]))
  refine mx_nil ?_
  generalize hc : tcmp d ⟨ek, en, es⟩ le.1 = c at *
  have HC := Lib.hid hc
  clear hc
  go_wp2_with fail
  refine wp_region_mixE 18 [(0, 3), (1, 3), (2, 3), (3, 0), (4, 3), (5, 3), (6, 3), (7, 0), (8, 0), (9, 3), (10, 3), (11, 3), (12, 0), (13, 0), (14, 1), (15, 1), (16, 3)] (by kernel_rfl) (fun _ _ d _ _ h => by cases d <;> exact h) ?_
  intro w3 hw3
  simp only [List.map_cons, List.map_nil, mixPick_lt _ _ 0 rfl, mixPick_lt _ _ 1 rfl, mixPick_lt _ _ 2 rfl, mixPick_lt _ _ 3 rfl, mixPick_fork, List.getD_cons_zero, List.getD_cons_succ]
  generalize yielded _ = y
  have Ew3 := Lib.hid (Ew2.out.trans hw3)
  have Fw3 := Lib.hid (Fw2.out.trans hw3)
  have tew3 := fun W (h : Ext w3 W) => Ew3.out.trans h
  have tfw3 := fun W (h : Ext w3 W) => Fw3.out.trans h
  clear tew2 tfw2
  repeat (first | (refine mx_pu (v := ?_) rfl (fun W => ?_) ?_; rotate_left; (focus (go_simp <;> with_reducible rfl)); simp only [Act.put, List.setIfInBounds_toArray, List.set_cons_zero, List.set_cons_succ]) | (refine mx_st (v := ?_) rfl (fun W hW => ?_) ?_; rotate_left; (focus (go_simp <;> with_reducible rfl)); simp only [Act.put, List.setIfInBounds_toArray, List.set_cons_zero, List.set_cons_succ]))
  refine mx_call (f := ?_) (args := ?_) rfl ?_ ?_
  rotate_left 2
  focus (go_simp <;> (refine ⟨?_, ?_⟩ <;> with_reducible rfl))
  have hI := HI.out w3 lrp (HSF.out.ext Ew3.out) (HLL.out.2.2.ext Ew3.out) (HW.out.ext Ew3.out) HA.out.2.1 HS.out.right (by omega) (by have := HB.out; (try simp only at this ⊢); omega)
  with_reducible refine hI.mono ?_
  clear hI
  rintro e w4 ⟨p4, t4, rfl, hw4, v4, l4, a4, h4, h4'⟩
  refine ⟨_, rfl, hw4, ?_⟩
  simp only [Act.put, List.setIfInBounds_toArray, List.set_cons_zero, List.set_cons_succ]
  have Ew4 := Lib.hid (Ew3.out.trans hw4)
  have Fw4 := Lib.hid (Fw3.out.trans hw4)
  have tew4 := fun W (h : Ext w4 W) => Ew4.out.trans h
  have tfw4 := fun W (h : Ext w4 W) => Fw4.out.trans h
  clear tew3 tfw3
  have hsz : sz t4 ≤ sz lr + 1 := by rw [← sz_lst, l4, ← sz_lst]; exact insL_length_le _ _ _
  have htt : tot t4 ≤ tot lr + ew := by rw [← tot_lst, l4, ← tot_lst]; exact insL_sum_le _ _ _
  have H4 := Lib.hid l4
  clear l4
  repeat (first | (refine mx_pu (v := ?_) rfl (fun W => ?_) ?_; rotate_left; (focus (go_simp <;> with_reducible rfl)); simp only [Act.put, List.setIfInBounds_toArray, List.set_cons_zero, List.set_cons_succ]) | (refine mx_st (v := ?_) rfl (fun W hW => ?_) ?_; rotate_left; (focus (go_simp <;> with_reducible rfl)); simp only [Act.put, List.setIfInBounds_toArray, List.set_cons_zero, List.set_cons_succ]))
  refine mx_call (f := ?_) (args := ?_) rfl ?_ ?_
  rotate_left 2
  focus (go_simp <;> (refine ⟨?_, ?_⟩ <;> with_reducible rfl))
  have hI := balance_c (HSF.out.ext Ew4.out) (e := le) (HLL.out.2.1.ext Ew4.out) v4 (HLL.out.1.ext Ew4.out) (by omega) (by have := HB.out; (try simp only at this ⊢); omega) HA.out.1 a4 (by have := HA.out.2.2; omega) (by have := HA.out.2.2; omega)
  with_reducible refine hI.mono ?_
  clear hI
  rintro e w5 ⟨p5, t5, rfl, hw5, v5, b5⟩
  refine ⟨_, rfl, hw5, ?_⟩
  simp only [Act.put, List.setIfInBounds_toArray, List.set_cons_zero, List.set_cons_succ]
  repeat (first | (refine mx_pu (v := ?_) rfl (fun W => ?_) ?_; rotate_left; (focus (go_simp <;> with_reducible rfl)); simp only [Act.put, List.setIfInBounds_toArray, List.set_cons_zero, List.set_cons_succ]) | (refine mx_st (v := ?_) rfl (fun W hW => ?_) ?_; rotate_left; (focus (go_simp <;> with_reducible rfl)); simp only [Act.put, List.setIfInBounds_toArray, List.set_cons_zero, List.set_cons_succ]))
  refine mx_nil ?_
  go_wp2_with fail
  go_ret
  refine ⟨p5, t5, rfl, Ew4.out.trans hw5, v5, ?_, b5.2.1, ?_, ?_⟩
  · rw [b5.1, H4.out]
    exact (insL_gt HS.out (by rw [HC.out]; exact h)).symm
  · obtain ⟨-, -, g1, g2, g3⟩ := b5
    have := HA.out.2.2
    simp only [ht]
    rcases Nat.lt_or_ge (ht ll + 1) (ht t4) with k | k
    · omega
    · have := g3 (by omega) (by omega)
      omega
  · obtain ⟨-, -, g1, g2, g3⟩ := b5
    have := HA.out.2.2
    simp only [ht]
    omega
set_option maxHeartbeats 4000000 in
set_option maxRecDepth 100000 in
theorem put_eq {w : World} (hS : Fresh S w) (d : Bool) (rp : Option Addr) (e : GV × Nat) {wv : Value} {p : Option Addr} {lb lo : Nat} {le : GV × Nat} {ll lr : T} (hl : TreeV S w p (.node lb lo le ll lr)) (hw : NatV S w wv e.2)
    (ha : Avl (.node lb lo le ll lr)) (hso : Sorted d (lst (.node lb lo le ll lr))) (hs : sz ll + 1 + sz lr < 10000000000) (hb : tot ll + le.2 + tot lr + e.2 < bigN) (h : tcmp d e.1 le.1 = 0) :
    Calls Try.prog 39 #[.agg #[.bool d, .pointer rp], .pointer p, .agg #[.int .i64 e.1.kind, .int .i64 e.1.num, .string e.1.str, wv]] w
      fun e' w' => ∃ p' t', e' = .returned (.pointer p') ∧ Ext w w' ∧ TreeV S w' p' t' ∧ lst t' = insL d e (lst (.node lb lo le ll lr)) ∧ Avl t' ∧ ht (.node lb lo le ll lr) ≤ ht t' ∧ ht t' ≤ ht (.node lb lo le ll lr) + 1 := by
  obtain ⟨⟨ek, en, es⟩, ew⟩ := e
  obtain ⟨sa, sk, sc, rfl⟩ := slice_of_nat hw
  have HL := Lib.hid hl
  obtain ⟨rfl, rfl, lwv, ltv, llp, lrp, hlb, hlw, -, hll, hlr⟩ := hl.open
  obtain ⟨lsa, lsk, lsc, rfl⟩ := slice_of_nat hlw
  obtain ⟨y0, y1, y2, y3, y4, y5, -⟩ := nodeF hlb
  have HLL := Lib.hid (And.intro hlw (And.intro hll hlr))
  have HW := Lib.hid hw
  have HB := Lib.hid hb
  have HA := Lib.hid ha
  have HS := Lib.hid hso
  have HSF := Lib.hid hS
  clear hl hlb hlw hll hlr hw hb ha hso hS
  go_enter Try.func39, Try.ntmps39
  go_wp2_with fail
  generalize hW0 : (w.alloc (.cells #[.bool d, .pointer rp] 27)).alloc (.cells #[.int .i64 ek, .int .i64 en, .string es, .slice sa sk sc] 84) = w0
  obtain ⟨he0, hb1, hb2⟩ := box2 w [.bool d, .pointer rp] [.int .i64 ek, .int .i64 en, .string es, .slice sa sk sc] _ _ w0 hW0
  clear hW0
  obtain ⟨q0, q1⟩ := boxT hb1
  obtain ⟨x0, x1, x2, x3⟩ := boxE (w1 := w) hb2
  clear hb1 hb2
  have Ew0 := Lib.hid he0
  have Fw0 := Lib.hid (Ext.refl w0)
  refine wp_region_mixE 11 [(0, 0), (1, 3), (2, 0), (3, 3), (4, 3), (5, 3), (6, 3), (7, 0), (8, 1), (9, 3)] (by kernel_rfl) (fun _ _ d _ _ h => by cases d <;> exact h) ?_
  intro w1 hw1
  simp only [List.map_cons, List.map_nil, mixPick_lt _ _ 0 rfl, mixPick_lt _ _ 1 rfl, mixPick_lt _ _ 2 rfl, mixPick_lt _ _ 3 rfl, mixPick_fork, List.getD_cons_zero, List.getD_cons_succ]
  generalize yielded _ = y
  have Ew1 := Lib.hid (Ew0.out.trans hw1)
  have Fw1 := Lib.hid (Fw0.out.trans hw1)
  have tew1 := fun W (h : Ext w1 W) => Ew1.out.trans h
  have tfw1 := fun W (h : Ext w1 W) => Fw1.out.trans h
  repeat (first | (refine mx_pu (v := ?_) rfl (fun W => ?_) ?_; rotate_left; (focus (go_simp <;> with_reducible rfl)); simp only [Act.put, List.setIfInBounds_toArray, List.set_cons_zero, List.set_cons_succ]) | (refine mx_st (v := ?_) rfl (fun W hW => ?_) ?_; rotate_left; (focus (go_simp <;> with_reducible rfl)); simp only [Act.put, List.setIfInBounds_toArray, List.set_cons_zero, List.set_cons_succ]))
  refine mx_call (f := ?_) (args := ?_) rfl ?_ ?_
  rotate_left 2
  focus (go_simp <;> (refine ⟨?_, ?_⟩ <;> with_reducible rfl))
  with_reducible refine (compare_c d rp ⟨ek, en, es⟩ le.1 _).mono ?_
  rintro e w2 ⟨rfl, hw2⟩
  refine ⟨_, rfl, hw2, ?_⟩
  simp only [Act.put, List.setIfInBounds_toArray, List.set_cons_zero, List.set_cons_succ]
  have Ew2 := Lib.hid (Ew1.out.trans hw2)
  have Fw2 := Lib.hid (Fw1.out.trans hw2)
  have tew2 := fun W (h : Ext w2 W) => Ew2.out.trans h
  have tfw2 := fun W (h : Ext w2 W) => Fw2.out.trans h
  clear tew1 tfw1
  repeat (first | (refine mx_pu (v := ?_) rfl (fun W => ?_) ?_; rotate_left; (focus (go_simp <;> with_reducible rfl)); simp only [Act.put, List.setIfInBounds_toArray, List.set_cons_zero, List.set_cons_succ]) | (refine mx_st (v := ?_) rfl (fun W hW => ?_) ?_; rotate_left; (focus (go_simp <;> with_reducible rfl)); simp only [Act.put, List.setIfInBounds_toArray, List.set_cons_zero, List.set_cons_succ]))
  refine mx_nil ?_
  generalize hc : tcmp d ⟨ek, en, es⟩ le.1 = c at *
  have HC := Lib.hid hc
  clear hc
  subst h
  go_wp2_with fail
  refine wp_region_mixE 12 [(0, 3), (1, 3), (2, 3), (3, 0), (4, 0), (5, 3), (6, 3), (7, 3), (8, 0), (9, 1), (10, 3)] (by kernel_rfl) (fun _ _ d _ _ h => by cases d <;> exact h) ?_
  intro w3 hw3
  simp only [List.map_cons, List.map_nil, mixPick_lt _ _ 0 rfl, mixPick_lt _ _ 1 rfl, mixPick_lt _ _ 2 rfl, mixPick_lt _ _ 3 rfl, mixPick_fork, List.getD_cons_zero, List.getD_cons_succ]
  generalize yielded _ = y
  have Ew3 := Lib.hid (Ew2.out.trans hw3)
  have Fw3 := Lib.hid (Fw2.out.trans hw3)
  have tew3 := fun W (h : Ext w3 W) => Ew3.out.trans h
  have tfw3 := fun W (h : Ext w3 W) => Fw3.out.trans h
  clear tew2 tfw2
  repeat (first | (refine mx_pu (v := ?_) rfl (fun W => ?_) ?_; rotate_left; (focus (go_simp <;> with_reducible rfl)); simp only [Act.put, List.setIfInBounds_toArray, List.set_cons_zero, List.set_cons_succ]) | (refine mx_st (v := ?_) rfl (fun W hW => ?_) ?_; rotate_left; (focus (go_simp <;> with_reducible rfl)); simp only [Act.put, List.setIfInBounds_toArray, List.set_cons_zero, List.set_cons_succ]))
  refine mx_call (f := ?_) (args := ?_) rfl ?_ ?_
  rotate_left 2
  focus (go_simp <;> (refine ⟨?_, ?_⟩ <;> with_reducible rfl))
  with_reducible refine (join_c (HSF.out.ext Ew3.out) (e := (⟨ek, en, es⟩, ew)) (HLL.out.2.1.ext Ew3.out) (HLL.out.2.2.ext Ew3.out) (HW.out.ext Ew3.out) (by omega) (by have := HB.out; (try simp only at this ⊢); omega)).mono ?_
  rintro e w4 ⟨b4, rfl, hw4, v4⟩
  refine ⟨_, rfl, hw4, ?_⟩
  simp only [Act.put, List.setIfInBounds_toArray, List.set_cons_zero, List.set_cons_succ]
  repeat (first | (refine mx_pu (v := ?_) rfl (fun W => ?_) ?_; rotate_left; (focus (go_simp <;> with_reducible rfl)); simp only [Act.put, List.setIfInBounds_toArray, List.set_cons_zero, List.set_cons_succ]) | (refine mx_st (v := ?_) rfl (fun W hW => ?_) ?_; rotate_left; (focus (go_simp <;> with_reducible rfl)); simp only [Act.put, List.setIfInBounds_toArray, List.set_cons_zero, List.set_cons_succ]))
  refine mx_nil ?_
  go_wp2_with fail
  go_ret
  exact ⟨_, _, rfl, Ew3.out.trans hw4, v4, (insL_eq HS.out HC.out).symm, HA.out, Nat.le_refl _, Nat.le_succ _⟩
/-- put -/
theorem put_c (d : Bool) (rp : Option Addr) (e : GV × Nat) (wv : Value) : ∀ t : T, PutSaid S d rp e wv t
  | .nil => fun w p hS hp hw _ _ _ hb => by
    obtain rfl : p = none := hp.none_iff.2 rfl
    refine (put_nil hS d rp e hw (by simp only [tot] at hb; omega)).mono ?_
    rintro e' w' ⟨b, rfl, h1, h2⟩
    exact ⟨_, _, rfl, h1, h2, rfl, ⟨trivial, trivial, Nat.le_succ _, Nat.le_succ _⟩, Nat.zero_le _, Nat.le_refl _⟩
  | .node lb lo le ll lr => fun w p hS hp hw ha hso hs hb => by
    rcases tcmp_range d e.1 le.1 with h | h | h
    · exact put_lt hS d rp e hp hw ha hso hs hb (put_c d rp e wv ll) (by omega)
    · exact put_eq hS d rp e hp hw ha hso hs hb h
    · exact put_gt hS d rp e hp hw ha hso hs hb (put_c d rp e wv lr) (by omega)
end Go.Proofs.Ytbbnpicddmplbaa

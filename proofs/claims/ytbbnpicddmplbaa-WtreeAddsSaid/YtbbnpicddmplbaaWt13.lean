/- Package wtree: without, Delete. -/
import Derived.Test.YtbbnpicddmplbaaWt12
namespace Go.Proofs.Ytbbnpicddmplbaa
open Go.RowKit Go.Deep
set_option linter.unusedVariables false
set_option linter.unusedSimpArgs false
variable {S : Nat → Prop}


/-- What without hands back. -/
def WoRes (S : Nat → Prop) (d : Bool) (v : GV) (t : T) (w : World) (x : Ending) (w' : World) : Prop :=
  ∃ (q : Option Addr) (t' : T), x = .returned (.pointer q) ∧ Ext w w' ∧ TreeV S w' q t' ∧ lst t' = delL d v (lst t) ∧ Avl t' ∧ ht t' ≤ ht t ∧ ht t ≤ ht t' + 1
def WoSaid (S : Nat → Prop) (d : Bool) (rp : Option Addr) (v : GV) (t : T) : Prop :=
  ∀ (w : World) (p : Option Addr), Fresh S w → TreeV S w p t → Avl t → Sorted d (lst t) → Has d v (lst t) → sz t < 10000000000 → tot t < bigN →
    Calls Try.prog 57 #[.agg #[.bool d, .pointer rp], .pointer p, .agg #[.int .i64 v.kind, .int .i64 v.num, .string v.str]] w (WoRes S d v t w)
set_option maxHeartbeats 4000000 in
set_option maxRecDepth 100000 in
theorem wo_lt {w : World} (hS : Fresh S w) (d : Bool) (rp : Option Addr) (v : GV) {p : Option Addr} {lb lo : Nat} {le : GV × Nat} {ll lr : T} (hl : TreeV S w p (.node lb lo le ll lr)) (ha : Avl (.node lb lo le ll lr)) (hso : Sorted d (lst (.node lb lo le ll lr))) (hh : Has d v (lst (.node lb lo le ll lr)))
    (hs : sz ll + 1 + sz lr < 10000000000) (hb : tot ll + le.2 + tot lr < bigN) (ih : WoSaid S d rp v ll) (h : tcmp d v le.1 < 0) :
    Calls Try.prog 57 #[.agg #[.bool d, .pointer rp], .pointer p, .agg #[.int .i64 v.kind, .int .i64 v.num, .string v.str]] w (WoRes S d v (.node lb lo le ll lr) w) := by
  have HI := Lib.hid ih
  clear ih
  obtain ⟨vk, vn, vs⟩ := v
  obtain ⟨rfl, rfl, lwv, ltv, llp, lrp, hlb, hlw, -, hll, hlr⟩ := hl.open
  obtain ⟨lsa, lsk, lsc, rfl⟩ := slice_of_nat hlw
  obtain ⟨⟨ek, en, es⟩, ew⟩ := le
  obtain ⟨y0, y1, y2, y3, y4, y5, -⟩ := nodeF hlb
  have HL := Lib.hid (And.intro hlw (And.intro hll hlr))
  have HA := Lib.hid ha
  have HS := Lib.hid hso
  have HSF := Lib.hid hS
  have HB := Lib.hid hb
  have HH := Lib.hid hh
  clear hl hlb hlw hll hlr hS ha hb hso hh
  go_enter Try.func57, Try.ntmps57
  go_wp2_with fail
  generalize hW0 : (w.alloc (.cells #[.bool d, .pointer rp] 27)).alloc (.cells #[.int .i64 vk, .int .i64 vn, .string vs] 38) = w0
  obtain ⟨he0, hb1, hb2⟩ := box2 w [.bool d, .pointer rp] [.int .i64 vk, .int .i64 vn, .string vs] _ _ w0 hW0
  clear hW0
  obtain ⟨q0, q1⟩ := boxT hb1
  obtain ⟨x0, x1, x2⟩ := boxV hb2
  clear hb1 hb2
  have Ew0 := Lib.hid he0
  have Fw0 := Lib.hid (Ext.refl w0)
  refine wp_region_mixE 10 [(0, 0), (1, 0), (2, 3), (3, 3), (4, 3), (5, 3), (6, 0), (7, 1), (8, 3)] (by kernel_rfl) (fun _ _ d _ _ h => by cases d <;> exact h) ?_
  intro w1 hw1
  simp only [List.map_cons, List.map_nil, mixPick_lt _ _ 0 rfl, mixPick_lt _ _ 1 rfl, mixPick_lt _ _ 2 rfl, mixPick_lt _ _ 3 rfl, mixPick_fork, List.getD_cons_zero, List.getD_cons_succ]
  generalize yielded _ = y
  have Ew1 := Lib.hid (Ew0.out.trans hw1)
  have Fw1 := Lib.hid (Fw0.out.trans hw1)
  have tew1 := fun W (h : Ext w1 W) => Ew1.out.trans h
  have tfw1 := fun W (h : Ext w1 W) => Fw1.out.trans h
  repeat (first | (refine mx_pu (v := ?_) rfl (fun W => ?_) ?_; rotate_left; (focus (go_simp <;> with_reducible rfl)); simp only [Act.put, List.setIfInBounds_toArray, List.set_cons_zero, List.set_cons_succ]) | (refine mx_st (v := ?_) rfl (fun W hW => ?_) ?_; rotate_left; (focus (go_simp <;> with_reducible rfl)); simp only [Act.put, List.setIfInBounds_toArray, List.set_cons_zero, List.set_cons_succ]))
  refine mx_call (f := ?_) (args := ?_) rfl ?_ ?_
  rotate_left 2
  focus (go_simp <;> (refine ⟨?_, ?_⟩ <;> with_reducible rfl))
  have hI := compare_c d rp ⟨vk, vn, vs⟩ ⟨ek, en, es⟩ w1
  with_reducible refine hI.mono ?_
  clear hI
  rintro e w2 ⟨rfl, hw2⟩
  refine ⟨_, rfl, hw2, ?_⟩
  simp only [Act.put, List.setIfInBounds_toArray, List.set_cons_zero, List.set_cons_succ]
  have Ew2 := Lib.hid (Ew1.out.trans hw2)
  have Fw2 := Lib.hid (Fw1.out.trans hw2)
  have tew2 := fun W (h : Ext w2 W) => Ew2.out.trans h
  have tfw2 := fun W (h : Ext w2 W) => Fw2.out.trans h
  clear tew1 tfw1
  repeat (first | (refine mx_pu (v := ?_) rfl (fun W => ?_) ?_; rotate_left; (focus (go_simp <;> with_reducible rfl)); simp only [Act.put, List.setIfInBounds_toArray, List.set_cons_zero, List.set_cons_succ]) | (refine mx_st (v := ?_) rfl (fun W hW => ?_) ?_; rotate_left; (focus (go_simp <;> with_reducible rfl)); simp only [Act.put, List.setIfInBounds_toArray, List.set_cons_zero, List.set_cons_succ]))
  refine mx_nil ?_
  generalize hc : tcmp d ⟨vk, vn, vs⟩ ⟨ek, en, es⟩ = c at *
  have HC := Lib.hid hc
  clear hc
  go_wp2_with fail
  refine wp_region_mixE 18 [(0, 0), (1, 3), (2, 3), (3, 3), (4, 0), (5, 0), (7, 3), (8, 3), (9, 3), (10, 0), (11, 3), (12, 3), (13, 3), (14, 0), (6, 1), (15, 1), (16, 3)] (by kernel_rfl) (fun _ _ d _ _ h => by cases d <;> exact h) ?_
  intro w3 hw3
  simp only [List.map_cons, List.map_nil, mixPick_lt _ _ 0 rfl, mixPick_lt _ _ 1 rfl, mixPick_lt _ _ 2 rfl, mixPick_lt _ _ 3 rfl, mixPick_fork, List.getD_cons_zero, List.getD_cons_succ]
  generalize yielded _ = y
  have Ew3 := Lib.hid (Ew2.out.trans hw3)
  have Fw3 := Lib.hid (Fw2.out.trans hw3)
  have tew3 := fun W (h : Ext w3 W) => Ew3.out.trans h
  have tfw3 := fun W (h : Ext w3 W) => Fw3.out.trans h
  clear tew2 tfw2
  repeat (first | (refine mx_pu (v := ?_) rfl (fun W => ?_) ?_; rotate_left; (focus (go_simp <;> with_reducible rfl)); simp only [Act.put, List.setIfInBounds_toArray, List.set_cons_zero, List.set_cons_succ]) | (refine mx_st (v := ?_) rfl (fun W hW => ?_) ?_; rotate_left; (focus (go_simp <;> with_reducible rfl)); simp only [Act.put, List.setIfInBounds_toArray, List.set_cons_zero, List.set_cons_succ]))
  refine mx_call (f := ?_) (args := ?_) rfl ?_ ?_
  rotate_left 2
  focus (go_simp <;> (refine ⟨?_, ?_⟩ <;> with_reducible rfl))
  have hI := HI.out w3 llp (HSF.out.ext Ew3.out) (HL.out.2.1.ext Ew3.out) HA.out.1 HS.out.left (Has.lt HS.out (by rw [HC.out]; exact h) HH.out) (by omega) (by have := HB.out; (try simp only at this ⊢); omega)
  with_reducible refine hI.mono ?_
  clear hI
  rintro e w4 ⟨p4, t4, rfl, hw4, v4, l4, a4, h4, h4'⟩
  refine ⟨_, rfl, hw4, ?_⟩
  simp only [Act.put, List.setIfInBounds_toArray, List.set_cons_zero, List.set_cons_succ]
  have Ew4 := Lib.hid (Ew3.out.trans hw4)
  have Fw4 := Lib.hid (Fw3.out.trans hw4)
  have tew4 := fun W (h : Ext w4 W) => Ew4.out.trans h
  have tfw4 := fun W (h : Ext w4 W) => Fw4.out.trans h
  clear tew3 tfw3
  have hsz : sz t4 ≤ sz ll := by rw [← sz_lst, l4, ← sz_lst]; exact del_length_le _ _ _
  have htt : tot t4 ≤ tot ll := by rw [← tot_lst, l4, ← tot_lst]; exact del_sum_le _ _ _
  have H4 := Lib.hid l4
  clear l4
  repeat (first | (refine mx_pu (v := ?_) rfl (fun W => ?_) ?_; rotate_left; (focus (go_simp <;> with_reducible rfl)); simp only [Act.put, List.setIfInBounds_toArray, List.set_cons_zero, List.set_cons_succ]) | (refine mx_st (v := ?_) rfl (fun W hW => ?_) ?_; rotate_left; (focus (go_simp <;> with_reducible rfl)); simp only [Act.put, List.setIfInBounds_toArray, List.set_cons_zero, List.set_cons_succ]))
  refine mx_call (f := ?_) (args := ?_) rfl ?_ ?_
  rotate_left 2
  focus (go_simp <;> (refine ⟨?_, ?_⟩ <;> with_reducible rfl))
  have hI := balance_c (HSF.out.ext Ew4.out) (e := (⟨ek, en, es⟩, ew)) v4 (HL.out.2.2.ext Ew4.out) (HL.out.1.ext Ew4.out) (by omega) (by have := HB.out; (try simp only at this ⊢); omega) a4 HA.out.2.1 (by have := HA.out.2.2; omega) (by have := HA.out.2.2; omega)
  with_reducible refine hI.mono ?_
  clear hI
  rintro e w5 ⟨p5, t5, rfl, hw5, v5, b5⟩
  refine ⟨_, rfl, hw5, ?_⟩
  simp only [Act.put, List.setIfInBounds_toArray, List.set_cons_zero, List.set_cons_succ]
  repeat (first | (refine mx_pu (v := ?_) rfl (fun W => ?_) ?_; rotate_left; (focus (go_simp <;> with_reducible rfl)); simp only [Act.put, List.setIfInBounds_toArray, List.set_cons_zero, List.set_cons_succ]) | (refine mx_st (v := ?_) rfl (fun W hW => ?_) ?_; rotate_left; (focus (go_simp <;> with_reducible rfl)); simp only [Act.put, List.setIfInBounds_toArray, List.set_cons_zero, List.set_cons_succ]))
  refine mx_nil ?_
  go_wp2_with fail
  go_ret
  obtain ⟨g0, g1, g2, g3, g4⟩ := b5
  refine ⟨p5, t5, rfl, Ew4.out.trans hw5, v5, ?_, g1, ?_, ?_⟩
  · rw [g0, H4.out]
    exact (del_lt HS.out (by rw [HC.out]; exact h)).symm
  · have := HA.out.2.2
    simp only [ht]
    rcases Nat.lt_or_ge (ht t4 + 1) (ht lr) with k | k
    · omega
    · have := g4 (by omega) (by omega)
      omega
  · have := HA.out.2.2
    simp only [ht]
    omega
set_option maxHeartbeats 4000000 in
set_option maxRecDepth 100000 in
theorem wo_gt {w : World} (hS : Fresh S w) (d : Bool) (rp : Option Addr) (v : GV) {p : Option Addr} {lb lo : Nat} {le : GV × Nat} {ll lr : T} (hl : TreeV S w p (.node lb lo le ll lr)) (ha : Avl (.node lb lo le ll lr)) (hso : Sorted d (lst (.node lb lo le ll lr))) (hh : Has d v (lst (.node lb lo le ll lr)))
    (hs : sz ll + 1 + sz lr < 10000000000) (hb : tot ll + le.2 + tot lr < bigN) (ih : WoSaid S d rp v lr) (h : 0 < tcmp d v le.1) :
    Calls Try.prog 57 #[.agg #[.bool d, .pointer rp], .pointer p, .agg #[.int .i64 v.kind, .int .i64 v.num, .string v.str]] w (WoRes S d v (.node lb lo le ll lr) w) := by
  have HI := Lib.hid ih
  clear ih
  obtain ⟨vk, vn, vs⟩ := v
  obtain ⟨rfl, rfl, lwv, ltv, llp, lrp, hlb, hlw, -, hll, hlr⟩ := hl.open
  obtain ⟨lsa, lsk, lsc, rfl⟩ := slice_of_nat hlw
  obtain ⟨⟨ek, en, es⟩, ew⟩ := le
  obtain ⟨y0, y1, y2, y3, y4, y5, -⟩ := nodeF hlb
  have HL := Lib.hid (And.intro hlw (And.intro hll hlr))
  have HA := Lib.hid ha
  have HS := Lib.hid hso
  have HSF := Lib.hid hS
  have HB := Lib.hid hb
  have HH := Lib.hid hh
  clear hl hlb hlw hll hlr hS ha hb hso hh
  go_enter Try.func57, Try.ntmps57
  go_wp2_with fail
  generalize hW0 : (w.alloc (.cells #[.bool d, .pointer rp] 27)).alloc (.cells #[.int .i64 vk, .int .i64 vn, .string vs] 38) = w0
  obtain ⟨he0, hb1, hb2⟩ := box2 w [.bool d, .pointer rp] [.int .i64 vk, .int .i64 vn, .string vs] _ _ w0 hW0
  clear hW0
  obtain ⟨q0, q1⟩ := boxT hb1
  obtain ⟨x0, x1, x2⟩ := boxV hb2
  clear hb1 hb2
  have Ew0 := Lib.hid he0
  have Fw0 := Lib.hid (Ext.refl w0)
  refine wp_region_mixE 10 [(0, 0), (1, 0), (2, 3), (3, 3), (4, 3), (5, 3), (6, 0), (7, 1), (8, 3)] (by kernel_rfl) (fun _ _ d _ _ h => by cases d <;> exact h) ?_
  intro w1 hw1
  simp only [List.map_cons, List.map_nil, mixPick_lt _ _ 0 rfl, mixPick_lt _ _ 1 rfl, mixPick_lt _ _ 2 rfl, mixPick_lt _ _ 3 rfl, mixPick_fork, List.getD_cons_zero, List.getD_cons_succ]
  generalize yielded _ = y
  have Ew1 := Lib.hid (Ew0.out.trans hw1)
  have Fw1 := Lib.hid (Fw0.out.trans hw1)
  have tew1 := fun W (h : Ext w1 W) => Ew1.out.trans h
  have tfw1 := fun W (h : Ext w1 W) => Fw1.out.trans h
  repeat (first | (refine mx_pu (v := ?_) rfl (fun W => ?_) ?_; rotate_left; (focus (go_simp <;> with_reducible rfl)); simp only [Act.put, List.setIfInBounds_toArray, List.set_cons_zero, List.set_cons_succ]) | (refine mx_st (v := ?_) rfl (fun W hW => ?_) ?_; rotate_left; (focus (go_simp <;> with_reducible rfl)); simp only [Act.put, List.setIfInBounds_toArray, List.set_cons_zero, List.set_cons_succ]))
  refine mx_call (f := ?_) (args := ?_) rfl ?_ ?_
  rotate_left 2
  focus (go_simp <;> (refine ⟨?_, ?_⟩ <;> with_reducible rfl))
  have hI := compare_c d rp ⟨vk, vn, vs⟩ ⟨ek, en, es⟩ w1
  with_reducible refine hI.mono ?_
  clear hI
  rintro e w2 ⟨rfl, hw2⟩
  refine ⟨_, rfl, hw2, ?_⟩
  simp only [Act.put, List.setIfInBounds_toArray, List.set_cons_zero, List.set_cons_succ]
  have Ew2 := Lib.hid (Ew1.out.trans hw2)
  have Fw2 := Lib.hid (Fw1.out.trans hw2)
  have tew2 := fun W (h : Ext w2 W) => Ew2.out.trans h
  have tfw2 := fun W (h : Ext w2 W) => Fw2.out.trans h
  clear tew1 tfw1
  repeat (first | (refine mx_pu (v := ?_) rfl (fun W => ?_) ?_; rotate_left; (focus (go_simp <;> with_reducible rfl)); simp only [Act.put, List.setIfInBounds_toArray, List.set_cons_zero, List.set_cons_succ]) | (refine mx_st (v := ?_) rfl (fun W hW => ?_) ?_; rotate_left; (focus (go_simp <;> with_reducible rfl)); simp only [Act.put, List.setIfInBounds_toArray, List.set_cons_zero, List.set_cons_succ]))
  refine mx_nil ?_
  generalize hc : tcmp d ⟨vk, vn, vs⟩ ⟨ek, en, es⟩ = c at *
  have HC := Lib.hid hc
  clear hc
  go_wp2_with fail
  refine wp_region_mixE 18 [(0, 3), (1, 3), (2, 3), (3, 0), (4, 3), (5, 3), (6, 3), (7, 0), (8, 0), (9, 3), (10, 3), (11, 3), (12, 0), (13, 0), (14, 1), (15, 1), (16, 3)] (by kernel_rfl) (fun _ _ d _ _ h => by cases d <;> exact h) ?_
  intro w3 hw3
  simp only [List.map_cons, List.map_nil, mixPick_lt _ _ 0 rfl, mixPick_lt _ _ 1 rfl, mixPick_lt _ _ 2 rfl, mixPick_lt _ _ 3 rfl, mixPick_fork, List.getD_cons_zero, List.getD_cons_succ]
  generalize yielded _ = y
  have Ew3 := Lib.hid (Ew2.out.trans hw3)
  have Fw3 := Lib.hid (Fw2.out.trans hw3)
  have tew3 := fun W (h : Ext w3 W) => Ew3.out.trans h
  have tfw3 := fun W (h : Ext w3 W) => Fw3.out.trans h
  clear tew2 tfw2
  repeat (first | (refine mx_pu (v := ?_) rfl (fun W => ?_) ?_; rotate_left; (focus (go_simp <;> with_reducible rfl)); simp only [Act.put, List.setIfInBounds_toArray, List.set_cons_zero, List.set_cons_succ]) | (refine mx_st (v := ?_) rfl (fun W hW => ?_) ?_; rotate_left; (focus (go_simp <;> with_reducible rfl)); simp only [Act.put, List.setIfInBounds_toArray, List.set_cons_zero, List.set_cons_succ]))
  refine mx_call (f := ?_) (args := ?_) rfl ?_ ?_
  rotate_left 2
  focus (go_simp <;> (refine ⟨?_, ?_⟩ <;> with_reducible rfl))
  have hI := HI.out w3 lrp (HSF.out.ext Ew3.out) (HL.out.2.2.ext Ew3.out) HA.out.2.1 HS.out.right (Has.gt HS.out (by rw [HC.out]; exact h) HH.out) (by omega) (by have := HB.out; (try simp only at this ⊢); omega)
  with_reducible refine hI.mono ?_
  clear hI
  rintro e w4 ⟨p4, t4, rfl, hw4, v4, l4, a4, h4, h4'⟩
  refine ⟨_, rfl, hw4, ?_⟩
  simp only [Act.put, List.setIfInBounds_toArray, List.set_cons_zero, List.set_cons_succ]
  have Ew4 := Lib.hid (Ew3.out.trans hw4)
  have Fw4 := Lib.hid (Fw3.out.trans hw4)
  have tew4 := fun W (h : Ext w4 W) => Ew4.out.trans h
  have tfw4 := fun W (h : Ext w4 W) => Fw4.out.trans h
  clear tew3 tfw3
  have hsz : sz t4 ≤ sz lr := by rw [← sz_lst, l4, ← sz_lst]; exact del_length_le _ _ _
  have htt : tot t4 ≤ tot lr := by rw [← tot_lst, l4, ← tot_lst]; exact del_sum_le _ _ _
  have H4 := Lib.hid l4
  clear l4
  repeat (first | (refine mx_pu (v := ?_) rfl (fun W => ?_) ?_; rotate_left; (focus (go_simp <;> with_reducible rfl)); simp only [Act.put, List.setIfInBounds_toArray, List.set_cons_zero, List.set_cons_succ]) | (refine mx_st (v := ?_) rfl (fun W hW => ?_) ?_; rotate_left; (focus (go_simp <;> with_reducible rfl)); simp only [Act.put, List.setIfInBounds_toArray, List.set_cons_zero, List.set_cons_succ]))
  refine mx_call (f := ?_) (args := ?_) rfl ?_ ?_
  rotate_left 2
  focus (go_simp <;> (refine ⟨?_, ?_⟩ <;> with_reducible rfl))
  have hI := balance_c (HSF.out.ext Ew4.out) (e := (⟨ek, en, es⟩, ew)) (HL.out.2.1.ext Ew4.out) v4 (HL.out.1.ext Ew4.out) (by omega) (by have := HB.out; (try simp only at this ⊢); omega) HA.out.1 a4 (by have := HA.out.2.2; omega) (by have := HA.out.2.2; omega)
  with_reducible refine hI.mono ?_
  clear hI
  rintro e w5 ⟨p5, t5, rfl, hw5, v5, b5⟩
  refine ⟨_, rfl, hw5, ?_⟩
  simp only [Act.put, List.setIfInBounds_toArray, List.set_cons_zero, List.set_cons_succ]
  repeat (first | (refine mx_pu (v := ?_) rfl (fun W => ?_) ?_; rotate_left; (focus (go_simp <;> with_reducible rfl)); simp only [Act.put, List.setIfInBounds_toArray, List.set_cons_zero, List.set_cons_succ]) | (refine mx_st (v := ?_) rfl (fun W hW => ?_) ?_; rotate_left; (focus (go_simp <;> with_reducible rfl)); simp only [Act.put, List.setIfInBounds_toArray, List.set_cons_zero, List.set_cons_succ]))
  refine mx_nil ?_
  go_wp2_with fail
  go_ret
  obtain ⟨g0, g1, g2, g3, g4⟩ := b5
  refine ⟨p5, t5, rfl, Ew4.out.trans hw5, v5, ?_, g1, ?_, ?_⟩
  · rw [g0, H4.out]
    exact (del_gt HS.out (by rw [HC.out]; exact h)).symm
  · have := HA.out.2.2
    simp only [ht]
    rcases Nat.lt_or_ge (ht t4 + 1) (ht ll) with k | k
    · omega
    · have := g4 (by omega) (by omega)
      omega
  · have := HA.out.2.2
    simp only [ht]
    omega
set_option maxHeartbeats 4000000 in
set_option maxRecDepth 100000 in
theorem wo_eq {w : World} (hS : Fresh S w) (d : Bool) (rp : Option Addr) (v : GV) {p : Option Addr} {lb lo : Nat} {le : GV × Nat} {ll lr : T} (hl : TreeV S w p (.node lb lo le ll lr)) (ha : Avl (.node lb lo le ll lr)) (hso : Sorted d (lst (.node lb lo le ll lr))) (hh : Has d v (lst (.node lb lo le ll lr)))
    (hs : sz ll + 1 + sz lr < 10000000000) (hb : tot ll + le.2 + tot lr < bigN) (h : tcmp d v le.1 = 0) :
    Calls Try.prog 57 #[.agg #[.bool d, .pointer rp], .pointer p, .agg #[.int .i64 v.kind, .int .i64 v.num, .string v.str]] w (WoRes S d v (.node lb lo le ll lr) w) := by
  obtain ⟨vk, vn, vs⟩ := v
  obtain ⟨rfl, rfl, lwv, ltv, llp, lrp, hlb, hlw, -, hll, hlr⟩ := hl.open
  obtain ⟨lsa, lsk, lsc, rfl⟩ := slice_of_nat hlw
  obtain ⟨⟨ek, en, es⟩, ew⟩ := le
  obtain ⟨y0, y1, y2, y3, y4, y5, -⟩ := nodeF hlb
  have HL := Lib.hid (And.intro hlw (And.intro hll hlr))
  have HA := Lib.hid ha
  have HS := Lib.hid hso
  have HSF := Lib.hid hS
  have HB := Lib.hid hb
  have HH := Lib.hid hh
  clear hl hlb hlw hll hlr hS ha hb hso hh
  go_enter Try.func57, Try.ntmps57
  go_wp2_with fail
  generalize hW0 : (w.alloc (.cells #[.bool d, .pointer rp] 27)).alloc (.cells #[.int .i64 vk, .int .i64 vn, .string vs] 38) = w0
  obtain ⟨he0, hb1, hb2⟩ := box2 w [.bool d, .pointer rp] [.int .i64 vk, .int .i64 vn, .string vs] _ _ w0 hW0
  clear hW0
  obtain ⟨q0, q1⟩ := boxT hb1
  obtain ⟨x0, x1, x2⟩ := boxV hb2
  clear hb1 hb2
  have Ew0 := Lib.hid he0
  have Fw0 := Lib.hid (Ext.refl w0)
  refine wp_region_mixE 10 [(0, 0), (1, 0), (2, 3), (3, 3), (4, 3), (5, 3), (6, 0), (7, 1), (8, 3)] (by kernel_rfl) (fun _ _ d _ _ h => by cases d <;> exact h) ?_
  intro w1 hw1
  simp only [List.map_cons, List.map_nil, mixPick_lt _ _ 0 rfl, mixPick_lt _ _ 1 rfl, mixPick_lt _ _ 2 rfl, mixPick_lt _ _ 3 rfl, mixPick_fork, List.getD_cons_zero, List.getD_cons_succ]
  generalize yielded _ = y
  have Ew1 := Lib.hid (Ew0.out.trans hw1)
  have Fw1 := Lib.hid (Fw0.out.trans hw1)
  have tew1 := fun W (h : Ext w1 W) => Ew1.out.trans h
  have tfw1 := fun W (h : Ext w1 W) => Fw1.out.trans h
  repeat (first | (refine mx_pu (v := ?_) rfl (fun W => ?_) ?_; rotate_left; (focus (go_simp <;> with_reducible rfl)); simp only [Act.put, List.setIfInBounds_toArray, List.set_cons_zero, List.set_cons_succ]) | (refine mx_st (v := ?_) rfl (fun W hW => ?_) ?_; rotate_left; (focus (go_simp <;> with_reducible rfl)); simp only [Act.put, List.setIfInBounds_toArray, List.set_cons_zero, List.set_cons_succ]))
  refine mx_call (f := ?_) (args := ?_) rfl ?_ ?_
  rotate_left 2
  focus (go_simp <;> (refine ⟨?_, ?_⟩ <;> with_reducible rfl))
  have hI := compare_c d rp ⟨vk, vn, vs⟩ ⟨ek, en, es⟩ w1
  with_reducible refine hI.mono ?_
  clear hI
  rintro e w2 ⟨rfl, hw2⟩
  refine ⟨_, rfl, hw2, ?_⟩
  simp only [Act.put, List.setIfInBounds_toArray, List.set_cons_zero, List.set_cons_succ]
  have Ew2 := Lib.hid (Ew1.out.trans hw2)
  have Fw2 := Lib.hid (Fw1.out.trans hw2)
  have tew2 := fun W (h : Ext w2 W) => Ew2.out.trans h
  have tfw2 := fun W (h : Ext w2 W) => Fw2.out.trans h
  clear tew1 tfw1
  repeat (first | (refine mx_pu (v := ?_) rfl (fun W => ?_) ?_; rotate_left; (focus (go_simp <;> with_reducible rfl)); simp only [Act.put, List.setIfInBounds_toArray, List.set_cons_zero, List.set_cons_succ]) | (refine mx_st (v := ?_) rfl (fun W hW => ?_) ?_; rotate_left; (focus (go_simp <;> with_reducible rfl)); simp only [Act.put, List.setIfInBounds_toArray, List.set_cons_zero, List.set_cons_succ]))
  refine mx_nil ?_
  generalize hc : tcmp d ⟨vk, vn, vs⟩ ⟨ek, en, es⟩ = c at *
  have HC := Lib.hid hc
  clear hc
  subst h
  have ew2 := Ew2.out
  rcases Classical.em (lr = .nil) with hr | hr
  · subst hr
    obtain rfl : lrp = none := HL.out.2.2.none_iff.2 rfl
    go_wp2_with fail
    go_ret
    refine ⟨llp, ll, rfl, ew2, HL.out.2.1.ext ew2, ?_, HA.out.1, by simp only [ht]; omega, ?_⟩
    · have := del_eq HS.out HC.out
      simp only [lst] at this ⊢
      rw [this, List.append_nil]
    · have := HA.out.2.2
      simp only [ht] at this ⊢
      omega
  · obtain ⟨lrx, rfl⟩ : ∃ x, lrp = some x := by
      cases lrp with
      | none => exact absurd (HL.out.2.2.none_iff.1 rfl) hr
      | some x => exact ⟨x, rfl⟩
    have HR := Lib.hid hr
    clear hr
    go_wp2_with fail
    have hI := split_c lr S w2 (some lrx) (HSF.out.ext ew2) (HL.out.2.2.ext ew2) HA.out.2.1 HR.out (by omega) (by have := HB.out; (try simp only at this ⊢); omega)
    with_reducible refine hI.mono ?_
    clear hI
    rintro x w3 ⟨⟨⟨fk, fn, fs⟩, fw⟩, fa, fl, fc, q1, t1, rfl, hw3, n1, v1, l1, a1, g1, g2⟩
    have ea1 := (Fw2.out.trans hw3).trans (Ext.alloc w3 (.cells #[.int .i64 fk, .int .i64 fn, .string fs, .slice fa fl fc] 84))
    have HF := Lib.hid (And.intro n1 (And.intro v1 (And.intro l1 a1)))
    clear n1 v1 l1 a1
    have hs1 : sz t1 + 1 = sz lr := by rw [← sz_lst, ← sz_lst, HF.out.2.2.1]; rfl
    have ht1 : fw + tot t1 = tot lr := by rw [← tot_lst, ← tot_lst, HF.out.2.2.1, sumW_cons]
    go_wp2_with fail
    have hb2 := Blk.new w3 [.int .i64 fk, .int .i64 fn, .string fs, .slice fa fl fc] 84
    have hw4 := Ext.alloc w3 (.cells #[.int .i64 fk, .int .i64 fn, .string fs, .slice fa fl fc] 84)
    generalize w3.alloc (.cells #[.int .i64 fk, .int .i64 fn, .string fs, .slice fa fl fc] 84) = w4 at hb2 hw4 ea1 ⊢
    obtain ⟨z0, z1, z2, z3⟩ := boxE (w1 := w) hb2
    have Ew4 := Lib.hid ((ew2.trans hw3).trans hw4)
    have Fw4 := Lib.hid ea1
    clear hb2 tew2 tfw2 ew2 ea1
    have Gw4 := Lib.hid (Ext.refl w4)
    refine wp_region_mixE 9 [(0, 3), (1, 3), (2, 3), (3, 0), (4, 0), (5, 3), (6, 1), (7, 3)] (by kernel_rfl) (fun _ _ d _ _ h => by cases d <;> exact h) ?_
    intro w5 hw5
    simp only [List.map_cons, List.map_nil, mixPick_lt _ _ 0 rfl, mixPick_lt _ _ 1 rfl, mixPick_lt _ _ 2 rfl, mixPick_lt _ _ 3 rfl, mixPick_fork, List.getD_cons_zero, List.getD_cons_succ]
    generalize yielded _ = y
    have Ew5 := Lib.hid (Ew4.out.trans hw5)
    have Fw5 := Lib.hid (Fw4.out.trans hw5)
    have tew5 := fun W (h : Ext w5 W) => Ew5.out.trans h
    have tfw5 := fun W (h : Ext w5 W) => Fw5.out.trans h
    have tg5 := fun W (h : Ext w5 W) => hw5.trans h
    repeat (first | (refine mx_pu (v := ?_) rfl (fun W => ?_) ?_; rotate_left; (focus (go_simp <;> with_reducible rfl)); simp only [Act.put, List.setIfInBounds_toArray, List.set_cons_zero, List.set_cons_succ]) | (refine mx_st (v := ?_) rfl (fun W hW => ?_) ?_; rotate_left; (focus (go_simp <;> with_reducible rfl)); simp only [Act.put, List.setIfInBounds_toArray, List.set_cons_zero, List.set_cons_succ]))
    refine mx_call (f := ?_) (args := ?_) rfl ?_ ?_
    rotate_left 2
    focus (go_simp <;> (refine ⟨?_, ?_⟩ <;> with_reducible rfl))
    have hI := balance_c (HSF.out.ext Ew5.out) (e := (⟨fk, fn, fs⟩, fw)) (HL.out.2.1.ext Ew5.out) ((HF.out.2.1.ext hw4).ext hw5) ((HF.out.1.ext hw4).ext hw5) (by omega) (by have := HB.out; (try simp only at this ⊢); omega) HA.out.1 HF.out.2.2.2 (by have := HA.out.2.2; omega) (by have := HA.out.2.2; omega)
    with_reducible refine hI.mono ?_
    clear hI
    rintro e w6 ⟨p6, t6, rfl, hw6, v6, b6⟩
    refine ⟨_, rfl, hw6, ?_⟩
    simp only [Act.put, List.setIfInBounds_toArray, List.set_cons_zero, List.set_cons_succ]
    repeat (first | (refine mx_pu (v := ?_) rfl (fun W => ?_) ?_; rotate_left; (focus (go_simp <;> with_reducible rfl)); simp only [Act.put, List.setIfInBounds_toArray, List.set_cons_zero, List.set_cons_succ]) | (refine mx_st (v := ?_) rfl (fun W hW => ?_) ?_; rotate_left; (focus (go_simp <;> with_reducible rfl)); simp only [Act.put, List.setIfInBounds_toArray, List.set_cons_zero, List.set_cons_succ]))
    refine mx_nil ?_
    go_wp2_with fail
    go_ret
    obtain ⟨k0, k1, k2, k3, k4⟩ := b6
    refine ⟨p6, t6, rfl, Ew5.out.trans hw6, v6, ?_, k1, ?_, ?_⟩
    · have := del_eq HS.out HC.out
      simp only [lst] at this ⊢
      rw [this, k0, HF.out.2.2.1]
    · have := HA.out.2.2
      simp only [ht]
      rcases Nat.lt_or_ge (ht t1 + 1) (ht ll) with k | k
      · omega
      · have := k4 (by omega) (by omega)
        omega
    · have := HA.out.2.2
      simp only [ht]
      omega
/-- without -/
theorem without_c (d : Bool) (rp : Option Addr) (v : GV) : ∀ t : T, WoSaid S d rp v t
  | .nil => fun w p hS hp _ _ hh _ _ => by
    obtain ⟨x, hx, _⟩ := hh
    simp [lst] at hx
  | .node lb lo le ll lr => fun w p hS hp ha hso hh hs hb => by
    rcases tcmp_range d v le.1 with h | h | h
    · exact wo_lt hS d rp v hp ha hso hh hs hb (without_c d rp v ll) (by omega)
    · exact wo_eq hS d rp v hp ha hso hh hs hb h
    · exact wo_gt hS d rp v hp ha hso hh hs hb (without_c d rp v lr) (by omega)
end Go.Proofs.Ytbbnpicddmplbaa

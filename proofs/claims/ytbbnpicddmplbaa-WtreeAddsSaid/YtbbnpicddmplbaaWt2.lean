/- Package wtree: balance. -/
import Derived.Test.YtbbnpicddmplbaaWt
namespace Go.Proofs.Ytbbnpicddmplbaa
open Go.RowKit Go.Deep
set_option linter.unusedVariables false
set_option linter.unusedSimpArgs false
variable {S : Nat → Prop}


/-- A node's cells, now and later. -/
theorem nodeF {w : World} {b : Nat} {e : GV × Nat} {wv lp rp tv : Value} {h s : Nat} {t : TypeId} (hb : Blk w b (nodeCells e wv lp rp h s tv) t) :
    (∀ W, Ext w W → W.cell? ⟨b, 0, none⟩ = some (.int .i64 e.1.kind)) ∧ (∀ W, Ext w W → W.cell? ⟨b, 1, none⟩ = some (.int .i64 e.1.num)) ∧ (∀ W, Ext w W → W.cell? ⟨b, 2, none⟩ = some (.string e.1.str)) ∧ (∀ W, Ext w W → W.cell? ⟨b, 3, none⟩ = some wv) ∧
    (∀ W, Ext w W → W.cell? ⟨b, 4, none⟩ = some lp) ∧ (∀ W, Ext w W → W.cell? ⟨b, 5, none⟩ = some rp) ∧ (∀ W, Ext w W → W.cell? ⟨b, 6, none⟩ = some (.int .i64 h)) ∧ (∀ W, Ext w W → W.cell? ⟨b, 7, none⟩ = some (.int .i64 s)) ∧ (∀ W, Ext w W → W.cell? ⟨b, 8, none⟩ = some tv) :=
  ⟨fun W e => (hb.ext e).cell 0, fun W e => (hb.ext e).cell 1, fun W e => (hb.ext e).cell 2, fun W e => (hb.ext e).cell 3, fun W e => (hb.ext e).cell 4, fun W e => (hb.ext e).cell 5, fun W e => (hb.ext e).cell 6, fun W e => (hb.ext e).cell 7, fun W e => (hb.ext e).cell 8⟩
set_option maxHeartbeats 4000000 in
set_option maxRecDepth 100000 in
theorem bal_A1 {w : World} (hS : Fresh S w) {lp rp : Option Addr} {lb lo : Nat} {le : GV × Nat} {ll lr r : T} {e : GV × Nat} {wv : Value} (hl : TreeV S w lp (.node lb lo le ll lr)) (hr : TreeV S w rp r) (hw : NatV S w wv e.2)
    (hs : sz ll + sz lr + sz r < 100000000000) (hb : tot ll + le.2 + tot lr + e.2 + tot r < bigN) (h1 : ht r + 1 < max (ht ll) (ht lr) + 1) (h2 : ht lr ≤ ht ll) :
    Calls Try.prog 59 #[.pointer lp, .agg #[.int .i64 e.1.kind, .int .i64 e.1.num, .string e.1.str, wv], .pointer rp] w
      fun e' w' => ∃ b b', e' = .returned (.pointer (some ⟨b, 0, none⟩)) ∧ Ext w w' ∧ TreeV S w' (some ⟨b, 0, none⟩) (.node b 0 le ll (.node b' 0 e lr r)) := by
  have hh := ht_le_sz ll
  have hh' := ht_le_sz lr
  have hh'' := ht_le_sz r
  have HL := Lib.hid hl
  have HR := Lib.hid hr
  obtain ⟨rfl, rfl, lwv, ltv, llp, lrp, hlb, hlw, -, hll, hlr⟩ := hl.open
  obtain ⟨lsa, lsk, lsc, rfl⟩ := slice_of_nat hlw
  obtain ⟨y0, y1, y2, y3, y4, y5, -⟩ := nodeF hlb
  have HLL := Lib.hid (And.intro hlw (And.intro hll hlr))
  clear hl hr hlb hlw hll hlr
  obtain ⟨sa, sk, sc, rfl⟩ := slice_of_nat hw
  obtain ⟨⟨ek, en, es⟩, ew⟩ := e
  have HW := Lib.hid hw
  have HB := Lib.hid hb
  have HSF := Lib.hid hS
  have hb0 := Blk.new w [.int .i64 ek, .int .i64 en, .string es, .slice sa sk sc] 84
  have he0 := Ext.alloc w (.cells #[.int .i64 ek, .int .i64 en, .string es, .slice sa sk sc] 84)
  clear hw hb hS
  go_enter Try.func59, Try.ntmps59
  go_wp2_with fail
  generalize w.alloc (.cells #[.int .i64 ek, .int .i64 en, .string es, .slice sa sk sc] 84) = w0 at hb0 he0 ⊢
  obtain ⟨x0, x1, x2, x3⟩ := boxE (w1 := w) hb0
  clear hb0
  have Ew0 := Lib.hid he0
  have Fw0 := Lib.hid (Ext.refl w0)
  refine (heightOf_c (HL.out.ext he0)).mono ?_
  rintro e w' ⟨rfl, rfl⟩
  go_wp2_with fail
  refine (heightOf_c (HR.out.ext he0)).mono ?_
  rintro e w' ⟨rfl, rfl⟩
  go_wp2_with fail
  have hH : ht (BT.node lb 0 le ll lr) = max (ht ll) (ht lr) + 1 := rfl
  generalize ht (BT.node lb 0 le ll lr) = H at *
  have e1 : IntKind.i64.wrap ((ht r : Int) + 1) = (ht r : Int) + 1 := IntWalk.i64_in _ (by omega)
  have d1 : (ht r : Int) + 1 < (H : Int) := by omega
  clear hH
  refine wp_region_mixE 19 [(0, 3), (1, 3), (2, 3), (3, 3), (4, 3), (5, 3), (6, 3), (7, 3), (8, 0), (10, 3), (11, 3), (12, 3), (13, 0), (9, 1), (14, 1), (15, 3), (16, 3), (17, 3)] (by kernel_rfl) (fun _ _ d _ _ h => by cases d <;> exact h) ?_
  intro w1 hw1
  simp only [List.map_cons, List.map_nil, mixPick_lt _ _ 0 rfl, mixPick_lt _ _ 1 rfl, mixPick_lt _ _ 2 rfl, mixPick_lt _ _ 3 rfl, mixPick_fork, List.getD_cons_zero, List.getD_cons_succ]
  have Ew1 := Lib.hid (Ew0.out.trans hw1)
  have Fw1 := Lib.hid (Fw0.out.trans hw1)
  have tew1 := fun W (h : Ext w1 W) => Ew1.out.trans h
  have tfw1 := fun W (h : Ext w1 W) => Fw1.out.trans h
  repeat (first | (refine mx_pu (v := ?_) rfl (fun W => ?_) ?_; rotate_left; (focus (go_simp <;> with_reducible rfl)); simp only [Act.put, List.setIfInBounds_toArray, List.set_cons_zero, List.set_cons_succ]) | (refine mx_no3 rfl ?_; simp only [Act.put, List.setIfInBounds_toArray, List.set_cons_zero, List.set_cons_succ]) | (refine mx_st (v := ?_) rfl (fun W hW => ?_) ?_; rotate_left; (focus (go_simp <;> with_reducible rfl)); simp only [Act.put, List.setIfInBounds_toArray, List.set_cons_zero, List.set_cons_succ]) | (refine mx_no0 rfl ?_; simp only [Act.put, List.setIfInBounds_toArray, List.set_cons_zero, List.set_cons_succ]) | (refine mx_no1 Ext.grows rfl ?_; simp only [Act.put, List.setIfInBounds_toArray, List.set_cons_zero, List.set_cons_succ]))
  refine mx_call (f := ?_) (args := ?_) rfl ?_ ?_
  rotate_left 2
  focus (go_simp <;> (refine ⟨?_, ?_⟩ <;> with_reducible rfl))
  refine (heightOf_c (HLL.out.2.1.ext Ew1.out)).mono ?_
  rintro e w' ⟨rfl, rfl⟩
  refine ⟨_, rfl, Ext.refl _, ?_⟩
  simp only [Act.put, List.setIfInBounds_toArray, List.set_cons_zero, List.set_cons_succ]
  repeat (first | (refine mx_pu (v := ?_) rfl (fun W => ?_) ?_; rotate_left; (focus (go_simp <;> with_reducible rfl)); simp only [Act.put, List.setIfInBounds_toArray, List.set_cons_zero, List.set_cons_succ]) | (refine mx_no3 rfl ?_; simp only [Act.put, List.setIfInBounds_toArray, List.set_cons_zero, List.set_cons_succ]) | (refine mx_st (v := ?_) rfl (fun W hW => ?_) ?_; rotate_left; (focus (go_simp <;> with_reducible rfl)); simp only [Act.put, List.setIfInBounds_toArray, List.set_cons_zero, List.set_cons_succ]) | (refine mx_no0 rfl ?_; simp only [Act.put, List.setIfInBounds_toArray, List.set_cons_zero, List.set_cons_succ]) | (refine mx_no1 Ext.grows rfl ?_; simp only [Act.put, List.setIfInBounds_toArray, List.set_cons_zero, List.set_cons_succ]))
  refine mx_call (f := ?_) (args := ?_) rfl ?_ ?_
  rotate_left 2
  focus (go_simp <;> (refine ⟨?_, ?_⟩ <;> with_reducible rfl))
  refine (heightOf_c (HLL.out.2.2.ext Ew1.out)).mono ?_
  rintro e w' ⟨rfl, rfl⟩
  refine ⟨_, rfl, Ext.refl _, ?_⟩
  simp only [Act.put, List.setIfInBounds_toArray, List.set_cons_zero, List.set_cons_succ]
  repeat (first | (refine mx_pu (v := ?_) rfl (fun W => ?_) ?_; rotate_left; (focus (go_simp <;> with_reducible rfl)); simp only [Act.put, List.setIfInBounds_toArray, List.set_cons_zero, List.set_cons_succ]) | (refine mx_no3 rfl ?_; simp only [Act.put, List.setIfInBounds_toArray, List.set_cons_zero, List.set_cons_succ]) | (refine mx_st (v := ?_) rfl (fun W hW => ?_) ?_; rotate_left; (focus (go_simp <;> with_reducible rfl)); simp only [Act.put, List.setIfInBounds_toArray, List.set_cons_zero, List.set_cons_succ]) | (refine mx_no0 rfl ?_; simp only [Act.put, List.setIfInBounds_toArray, List.set_cons_zero, List.set_cons_succ]) | (refine mx_no1 Ext.grows rfl ?_; simp only [Act.put, List.setIfInBounds_toArray, List.set_cons_zero, List.set_cons_succ]))
  refine mx_nil ?_
  go_wp2_with fail
  refine wp_region_mixE 18 [(0, 3), (1, 3), (2, 3), (3, 0), (4, 3), (5, 3), (6, 3), (7, 0), (8, 3), (9, 3), (10, 3), (11, 0), (12, 0), (13, 3), (14, 1), (15, 1), (16, 3)] (by kernel_rfl) (fun _ _ d _ _ h => by cases d <;> exact h) ?_
  intro w2 hw2
  simp only [List.map_cons, List.map_nil, mixPick_lt _ _ 0 rfl, mixPick_lt _ _ 1 rfl, mixPick_lt _ _ 2 rfl, mixPick_lt _ _ 3 rfl, mixPick_fork, List.getD_cons_zero, List.getD_cons_succ]
  generalize yielded _ = y
  have Ew2 := Lib.hid (Ew1.out.trans hw2)
  have Fw2 := Lib.hid (Fw1.out.trans hw2)
  have tew2 := fun W (h : Ext w2 W) => Ew2.out.trans h
  have tfw2 := fun W (h : Ext w2 W) => Fw2.out.trans h
  clear tew1 tfw1
  repeat (first | (refine mx_pu (v := ?_) rfl (fun W => ?_) ?_; rotate_left; (focus (go_simp <;> with_reducible rfl)); simp only [Act.put, List.setIfInBounds_toArray, List.set_cons_zero, List.set_cons_succ]) | (refine mx_st (v := ?_) rfl (fun W hW => ?_) ?_; rotate_left; (focus (go_simp <;> with_reducible rfl)); simp only [Act.put, List.setIfInBounds_toArray, List.set_cons_zero, List.set_cons_succ]))
  refine mx_call (f := ?_) (args := ?_) rfl ?_ ?_
  rotate_left 2
  focus (go_simp <;> (refine ⟨?_, ?_⟩ <;> with_reducible rfl))
  with_reducible refine (join_c (HSF.out.ext Ew2.out) (e := (⟨ek, en, es⟩, ew)) (HLL.out.2.2.ext Ew2.out) (HR.out.ext Ew2.out) (HW.out.ext Ew2.out) (by omega) (by have := HB.out; (try simp only at this ⊢); omega)).mono ?_
  rintro e w3 ⟨b', rfl, hw3, t3⟩
  refine ⟨_, rfl, hw3, ?_⟩
  simp only [Act.put, List.setIfInBounds_toArray, List.set_cons_zero, List.set_cons_succ]
  have Ew3 := Lib.hid (Ew2.out.trans hw3)
  have Fw3 := Lib.hid (Fw2.out.trans hw3)
  have tew3 := fun W (h : Ext w3 W) => Ew3.out.trans h
  have tfw3 := fun W (h : Ext w3 W) => Fw3.out.trans h
  repeat (first | (refine mx_pu (v := ?_) rfl (fun W => ?_) ?_; rotate_left; (focus (go_simp <;> with_reducible rfl)); simp only [Act.put, List.setIfInBounds_toArray, List.set_cons_zero, List.set_cons_succ]) | (refine mx_st (v := ?_) rfl (fun W hW => ?_) ?_; rotate_left; (focus (go_simp <;> with_reducible rfl)); simp only [Act.put, List.setIfInBounds_toArray, List.set_cons_zero, List.set_cons_succ]))
  refine mx_call (f := ?_) (args := ?_) rfl ?_ ?_
  rotate_left 2
  focus (go_simp <;> (refine ⟨?_, ?_⟩ <;> with_reducible rfl))
  with_reducible refine (join_c (HSF.out.ext Ew3.out) (e := le) (HLL.out.2.1.ext Ew3.out) t3 (HLL.out.1.ext Ew3.out) (by simp only [sz]; omega) (by have := HB.out; (try simp only [tot] at this ⊢); omega)).mono ?_
  rintro e w4 ⟨b, rfl, hw4, t4⟩
  refine ⟨_, rfl, hw4, ?_⟩
  simp only [Act.put, List.setIfInBounds_toArray, List.set_cons_zero, List.set_cons_succ]
  repeat (first | (refine mx_pu (v := ?_) rfl (fun W => ?_) ?_; rotate_left; (focus (go_simp <;> with_reducible rfl)); simp only [Act.put, List.setIfInBounds_toArray, List.set_cons_zero, List.set_cons_succ]) | (refine mx_st (v := ?_) rfl (fun W hW => ?_) ?_; rotate_left; (focus (go_simp <;> with_reducible rfl)); simp only [Act.put, List.setIfInBounds_toArray, List.set_cons_zero, List.set_cons_succ]))
  refine mx_nil ?_
  go_wp2_with fail
  go_ret
  exact ⟨b, b', rfl, Ew3.out.trans hw4, t4⟩

set_option maxHeartbeats 4000000 in
set_option maxRecDepth 100000 in
theorem bal_A2 {w : World} (hS : Fresh S w) {lp rp : Option Addr} {lb lo mb mo : Nat} {le me : GV × Nat} {ll ml mr r : T} {e : GV × Nat} {wv : Value} (hl : TreeV S w lp (.node lb lo le ll (.node mb mo me ml mr))) (hr : TreeV S w rp r) (hw : NatV S w wv e.2) (hs : sz ll + sz ml + sz mr + sz r < 100000000000) (hb : tot ll + le.2 + (tot ml + me.2 + tot mr) + e.2 + tot r < bigN) (h1 : ht r + 1 < max (ht ll) (max (ht ml) (ht mr) + 1) + 1) (h2 : ht ll < max (ht ml) (ht mr) + 1) :
    Calls Try.prog 59 #[.pointer lp, .agg #[.int .i64 e.1.kind, .int .i64 e.1.num, .string e.1.str, wv], .pointer rp] w
      fun e' w' => ∃ b b1 b2, e' = .returned (.pointer (some ⟨b, 0, none⟩)) ∧ Ext w w' ∧ TreeV S w' (some ⟨b, 0, none⟩) (.node b 0 me (.node b1 0 le ll ml) (.node b2 0 e mr r)) := by
  obtain ⟨lr, hlr0⟩ : ∃ x : T, x = .node mb mo me ml mr := ⟨_, rfl⟩
  rw [← hlr0] at hl
  have hlrh : ht lr = max (ht ml) (ht mr) + 1 := by rw [hlr0]; rfl
  have hlrs : sz lr = sz ml + 1 + sz mr := by rw [hlr0]; rfl
  have q1 := ht_le_sz ml
  have q2 := ht_le_sz mr
  have hh := ht_le_sz ll
  have hh' := ht_le_sz lr
  have hh'' := ht_le_sz r
  have HL := Lib.hid hl
  have HR := Lib.hid hr
  obtain ⟨rfl, rfl, lwv, ltv, llp, lrp, hlb, hlw, -, hll, hlr⟩ := hl.open
  obtain ⟨lsa, lsk, lsc, rfl⟩ := slice_of_nat hlw
  obtain ⟨y0, y1, y2, y3, y4, y5, -⟩ := nodeF hlb
  have HLL := Lib.hid (And.intro hlw (And.intro hll hlr))
  have hm : TreeV S w lrp (.node mb mo me ml mr) := hlr0 ▸ hlr
  obtain ⟨rfl, rfl, mwv, mtv, mlp, mrp, hmb, hmw, -, hml, hmr⟩ := hm.open
  obtain ⟨msa, msk, msc, rfl⟩ := slice_of_nat hmw
  obtain ⟨z0, z1, z2, z3, z4, z5, -⟩ := nodeF hmb
  have HM := Lib.hid (And.intro hmw (And.intro hml hmr))
  clear hmb hmw hml hmr hm
  clear hl hr hlb hlw hll hlr hlr0
  obtain ⟨sa, sk, sc, rfl⟩ := slice_of_nat hw
  obtain ⟨⟨ek, en, es⟩, ew⟩ := e
  have HW := Lib.hid hw
  have HB := Lib.hid hb
  have HSF := Lib.hid hS
  have hb0 := Blk.new w [.int .i64 ek, .int .i64 en, .string es, .slice sa sk sc] 84
  have he0 := Ext.alloc w (.cells #[.int .i64 ek, .int .i64 en, .string es, .slice sa sk sc] 84)
  clear hw hb hS
  go_enter Try.func59, Try.ntmps59
  go_wp2_with fail
  generalize w.alloc (.cells #[.int .i64 ek, .int .i64 en, .string es, .slice sa sk sc] 84) = w0 at hb0 he0 ⊢
  obtain ⟨x0, x1, x2, x3⟩ := boxE (w1 := w) hb0
  clear hb0
  have Ew0 := Lib.hid he0
  have Fw0 := Lib.hid (Ext.refl w0)
  refine (heightOf_c (HL.out.ext he0)).mono ?_
  rintro e w' ⟨rfl, rfl⟩
  go_wp2_with fail
  refine (heightOf_c (HR.out.ext he0)).mono ?_
  rintro e w' ⟨rfl, rfl⟩
  go_wp2_with fail
  have hH : ht (BT.node lb 0 le ll lr) = max (ht ll) (ht lr) + 1 := rfl
  generalize ht (BT.node lb 0 le ll lr) = H at *
  have e1 : IntKind.i64.wrap ((ht r : Int) + 1) = (ht r : Int) + 1 := IntWalk.i64_in _ (by omega)
  have d1 : (ht r : Int) + 1 < (H : Int) := by omega
  have d2 : ¬ ht lr ≤ ht ll := by omega
  clear hH hlrh hlrs
  refine wp_region_mixE 19 [(0, 3), (1, 3), (2, 3), (3, 3), (4, 3), (5, 3), (6, 3), (7, 3), (8, 0), (10, 3), (11, 3), (12, 3), (13, 0), (9, 1), (14, 1), (15, 3), (16, 3), (17, 3)] (by kernel_rfl) (fun _ _ d _ _ h => by cases d <;> exact h) ?_
  intro w1 hw1
  simp only [List.map_cons, List.map_nil, mixPick_lt _ _ 0 rfl, mixPick_lt _ _ 1 rfl, mixPick_lt _ _ 2 rfl, mixPick_lt _ _ 3 rfl, mixPick_fork, List.getD_cons_zero, List.getD_cons_succ]
  have Ew1 := Lib.hid (Ew0.out.trans hw1)
  have Fw1 := Lib.hid (Fw0.out.trans hw1)
  have tew1 := fun W (h : Ext w1 W) => Ew1.out.trans h
  have tfw1 := fun W (h : Ext w1 W) => Fw1.out.trans h
  repeat (first | (refine mx_pu (v := ?_) rfl (fun W => ?_) ?_; rotate_left; (focus (go_simp <;> with_reducible rfl)); simp only [Act.put, List.setIfInBounds_toArray, List.set_cons_zero, List.set_cons_succ]) | (refine mx_no3 rfl ?_; simp only [Act.put, List.setIfInBounds_toArray, List.set_cons_zero, List.set_cons_succ]) | (refine mx_st (v := ?_) rfl (fun W hW => ?_) ?_; rotate_left; (focus (go_simp <;> with_reducible rfl)); simp only [Act.put, List.setIfInBounds_toArray, List.set_cons_zero, List.set_cons_succ]) | (refine mx_no0 rfl ?_; simp only [Act.put, List.setIfInBounds_toArray, List.set_cons_zero, List.set_cons_succ]) | (refine mx_no1 Ext.grows rfl ?_; simp only [Act.put, List.setIfInBounds_toArray, List.set_cons_zero, List.set_cons_succ]))
  refine mx_call (f := ?_) (args := ?_) rfl ?_ ?_
  rotate_left 2
  focus (go_simp <;> (refine ⟨?_, ?_⟩ <;> with_reducible rfl))
  refine (heightOf_c (HLL.out.2.1.ext Ew1.out)).mono ?_
  rintro e w' ⟨rfl, rfl⟩
  refine ⟨_, rfl, Ext.refl _, ?_⟩
  simp only [Act.put, List.setIfInBounds_toArray, List.set_cons_zero, List.set_cons_succ]
  repeat (first | (refine mx_pu (v := ?_) rfl (fun W => ?_) ?_; rotate_left; (focus (go_simp <;> with_reducible rfl)); simp only [Act.put, List.setIfInBounds_toArray, List.set_cons_zero, List.set_cons_succ]) | (refine mx_no3 rfl ?_; simp only [Act.put, List.setIfInBounds_toArray, List.set_cons_zero, List.set_cons_succ]) | (refine mx_st (v := ?_) rfl (fun W hW => ?_) ?_; rotate_left; (focus (go_simp <;> with_reducible rfl)); simp only [Act.put, List.setIfInBounds_toArray, List.set_cons_zero, List.set_cons_succ]) | (refine mx_no0 rfl ?_; simp only [Act.put, List.setIfInBounds_toArray, List.set_cons_zero, List.set_cons_succ]) | (refine mx_no1 Ext.grows rfl ?_; simp only [Act.put, List.setIfInBounds_toArray, List.set_cons_zero, List.set_cons_succ]))
  refine mx_call (f := ?_) (args := ?_) rfl ?_ ?_
  rotate_left 2
  focus (go_simp <;> (refine ⟨?_, ?_⟩ <;> with_reducible rfl))
  refine (heightOf_c (HLL.out.2.2.ext Ew1.out)).mono ?_
  rintro e w' ⟨rfl, rfl⟩
  refine ⟨_, rfl, Ext.refl _, ?_⟩
  simp only [Act.put, List.setIfInBounds_toArray, List.set_cons_zero, List.set_cons_succ]
  repeat (first | (refine mx_pu (v := ?_) rfl (fun W => ?_) ?_; rotate_left; (focus (go_simp <;> with_reducible rfl)); simp only [Act.put, List.setIfInBounds_toArray, List.set_cons_zero, List.set_cons_succ]) | (refine mx_no3 rfl ?_; simp only [Act.put, List.setIfInBounds_toArray, List.set_cons_zero, List.set_cons_succ]) | (refine mx_st (v := ?_) rfl (fun W hW => ?_) ?_; rotate_left; (focus (go_simp <;> with_reducible rfl)); simp only [Act.put, List.setIfInBounds_toArray, List.set_cons_zero, List.set_cons_succ]) | (refine mx_no0 rfl ?_; simp only [Act.put, List.setIfInBounds_toArray, List.set_cons_zero, List.set_cons_succ]) | (refine mx_no1 Ext.grows rfl ?_; simp only [Act.put, List.setIfInBounds_toArray, List.set_cons_zero, List.set_cons_succ]))
  refine mx_nil ?_
  have ew1 := Ew1.out
  go_wp2_with fail
  clear ew1
  refine wp_region_mixE 27 [(0, 3), (1, 3), (2, 3), (3, 0), (4, 3), (5, 3), (6, 3), (7, 0), (8, 3), (9, 3), (10, 3), (11, 0), (13, 3), (14, 3), (15, 3), (16, 0), (17, 3), (18, 3), (19, 3), (20, 0), (21, 0), (22, 3), (12, 1), (23, 1), (24, 1), (25, 3)] (by kernel_rfl) (fun _ _ d _ _ h => by cases d <;> exact h) ?_
  intro w2 hw2
  simp only [List.map_cons, List.map_nil, mixPick_lt _ _ 0 rfl, mixPick_lt _ _ 1 rfl, mixPick_lt _ _ 2 rfl, mixPick_lt _ _ 3 rfl, mixPick_fork, List.getD_cons_zero, List.getD_cons_succ]
  generalize yielded _ = y
  have Ew2 := Lib.hid (Ew1.out.trans hw2)
  have Fw2 := Lib.hid (Fw1.out.trans hw2)
  have tew2 := fun W (h : Ext w2 W) => Ew2.out.trans h
  have tfw2 := fun W (h : Ext w2 W) => Fw2.out.trans h
  clear tew1 tfw1
  repeat (first | (refine mx_pu (v := ?_) rfl (fun W => ?_) ?_; rotate_left; (focus (go_simp <;> with_reducible rfl)); simp only [Act.put, List.setIfInBounds_toArray, List.set_cons_zero, List.set_cons_succ]) | (refine mx_st (v := ?_) rfl (fun W hW => ?_) ?_; rotate_left; (focus (go_simp <;> with_reducible rfl)); simp only [Act.put, List.setIfInBounds_toArray, List.set_cons_zero, List.set_cons_succ]))
  refine mx_call (f := ?_) (args := ?_) rfl ?_ ?_
  rotate_left 2
  focus (go_simp <;> (refine ⟨?_, ?_⟩ <;> with_reducible rfl))
  with_reducible refine (join_c (HSF.out.ext Ew2.out) (e := le) (HLL.out.2.1.ext Ew2.out) (HM.out.2.1.ext Ew2.out) (HLL.out.1.ext Ew2.out) (by (try simp only [sz]); omega) (by have := HB.out; (try simp only [tot] at this ⊢); omega)).mono ?_
  rintro e w3 ⟨b1, rfl, hw3, t1⟩
  refine ⟨_, rfl, hw3, ?_⟩
  simp only [Act.put, List.setIfInBounds_toArray, List.set_cons_zero, List.set_cons_succ]
  have Ew3 := Lib.hid (Ew2.out.trans hw3)
  have Fw3 := Lib.hid (Fw2.out.trans hw3)
  have tew3 := fun W (h : Ext w3 W) => Ew3.out.trans h
  have tfw3 := fun W (h : Ext w3 W) => Fw3.out.trans h
  repeat (first | (refine mx_pu (v := ?_) rfl (fun W => ?_) ?_; rotate_left; (focus (go_simp <;> with_reducible rfl)); simp only [Act.put, List.setIfInBounds_toArray, List.set_cons_zero, List.set_cons_succ]) | (refine mx_st (v := ?_) rfl (fun W hW => ?_) ?_; rotate_left; (focus (go_simp <;> with_reducible rfl)); simp only [Act.put, List.setIfInBounds_toArray, List.set_cons_zero, List.set_cons_succ]))
  refine mx_call (f := ?_) (args := ?_) rfl ?_ ?_
  rotate_left 2
  focus (go_simp <;> (refine ⟨?_, ?_⟩ <;> with_reducible rfl))
  with_reducible refine (join_c (HSF.out.ext Ew3.out) (e := (⟨ek, en, es⟩, ew)) (HM.out.2.2.ext Ew3.out) (HR.out.ext Ew3.out) (HW.out.ext Ew3.out) (by (try simp only [sz]); omega) (by have := HB.out; (try simp only [tot] at this ⊢); omega)).mono ?_
  rintro e w4 ⟨b2, rfl, hw4, t2⟩
  refine ⟨_, rfl, hw4, ?_⟩
  simp only [Act.put, List.setIfInBounds_toArray, List.set_cons_zero, List.set_cons_succ]
  have Ew4 := Lib.hid (Ew3.out.trans hw4)
  have Fw4 := Lib.hid (Fw3.out.trans hw4)
  have tew4 := fun W (h : Ext w4 W) => Ew4.out.trans h
  have tfw4 := fun W (h : Ext w4 W) => Fw4.out.trans h
  repeat (first | (refine mx_pu (v := ?_) rfl (fun W => ?_) ?_; rotate_left; (focus (go_simp <;> with_reducible rfl)); simp only [Act.put, List.setIfInBounds_toArray, List.set_cons_zero, List.set_cons_succ]) | (refine mx_st (v := ?_) rfl (fun W hW => ?_) ?_; rotate_left; (focus (go_simp <;> with_reducible rfl)); simp only [Act.put, List.setIfInBounds_toArray, List.set_cons_zero, List.set_cons_succ]))
  refine mx_call (f := ?_) (args := ?_) rfl ?_ ?_
  rotate_left 2
  focus (go_simp <;> (refine ⟨?_, ?_⟩ <;> with_reducible rfl))
  with_reducible refine (join_c (HSF.out.ext Ew4.out) (e := me) (t1.ext hw4) t2 (HM.out.1.ext Ew4.out) (by (try simp only [sz]); omega) (by have := HB.out; (try simp only [tot] at this ⊢); omega)).mono ?_
  rintro e w5 ⟨b, rfl, hw5, t3⟩
  refine ⟨_, rfl, hw5, ?_⟩
  simp only [Act.put, List.setIfInBounds_toArray, List.set_cons_zero, List.set_cons_succ]
  have Ew5 := Lib.hid (Ew4.out.trans hw5)
  have Fw5 := Lib.hid (Fw4.out.trans hw5)
  have tew5 := fun W (h : Ext w5 W) => Ew5.out.trans h
  have tfw5 := fun W (h : Ext w5 W) => Fw5.out.trans h
  repeat (first | (refine mx_pu (v := ?_) rfl (fun W => ?_) ?_; rotate_left; (focus (go_simp <;> with_reducible rfl)); simp only [Act.put, List.setIfInBounds_toArray, List.set_cons_zero, List.set_cons_succ]) | (refine mx_st (v := ?_) rfl (fun W hW => ?_) ?_; rotate_left; (focus (go_simp <;> with_reducible rfl)); simp only [Act.put, List.setIfInBounds_toArray, List.set_cons_zero, List.set_cons_succ]))
  refine mx_nil ?_
  go_wp2_with fail
  go_ret
  exact ⟨b, b1, b2, rfl, Ew5.out, t3⟩

set_option maxHeartbeats 4000000 in
set_option maxRecDepth 100000 in
theorem bal_B1 {w : World} (hS : Fresh S w) {lp rp : Option Addr} {rb ro : Nat} {re : GV × Nat} {rl rr l : T} {e : GV × Nat} {wv : Value} (hl : TreeV S w lp l) (hr : TreeV S w rp (.node rb ro re rl rr)) (hw : NatV S w wv e.2) (hs : sz rl + sz rr + sz l < 100000000000) (hb : tot l + e.2 + tot rl + re.2 + tot rr < bigN) (h1 : ht l + 1 < max (ht rl) (ht rr) + 1) (h2 : ht rl ≤ ht rr) :
    Calls Try.prog 59 #[.pointer lp, .agg #[.int .i64 e.1.kind, .int .i64 e.1.num, .string e.1.str, wv], .pointer rp] w
      fun e' w' => ∃ b b', e' = .returned (.pointer (some ⟨b, 0, none⟩)) ∧ Ext w w' ∧ TreeV S w' (some ⟨b, 0, none⟩) (.node b 0 re (.node b' 0 e l rl) rr) := by
  have hh := ht_le_sz rl
  have hh' := ht_le_sz rr
  have hh'' := ht_le_sz l
  have HL := Lib.hid hl
  have HR := Lib.hid hr
  obtain ⟨rfl, rfl, rwv, rtv, rlp, rrp, hrb, hrw, -, hrl, hrr⟩ := hr.open
  obtain ⟨rsa, rsk, rsc, rfl⟩ := slice_of_nat hrw
  obtain ⟨y0, y1, y2, y3, y4, y5, -⟩ := nodeF hrb
  have HRR := Lib.hid (And.intro hrw (And.intro hrl hrr))
  clear hl hr hrb hrw hrl hrr
  obtain ⟨sa, sk, sc, rfl⟩ := slice_of_nat hw
  obtain ⟨⟨ek, en, es⟩, ew⟩ := e
  have HW := Lib.hid hw
  have HB := Lib.hid hb
  have HSF := Lib.hid hS
  have hb0 := Blk.new w [.int .i64 ek, .int .i64 en, .string es, .slice sa sk sc] 84
  have he0 := Ext.alloc w (.cells #[.int .i64 ek, .int .i64 en, .string es, .slice sa sk sc] 84)
  clear hw hb hS
  go_enter Try.func59, Try.ntmps59
  go_wp2_with fail
  generalize w.alloc (.cells #[.int .i64 ek, .int .i64 en, .string es, .slice sa sk sc] 84) = w0 at hb0 he0 ⊢
  obtain ⟨x0, x1, x2, x3⟩ := boxE (w1 := w) hb0
  clear hb0
  have Ew0 := Lib.hid he0
  have Fw0 := Lib.hid (Ext.refl w0)
  refine (heightOf_c (HL.out.ext he0)).mono ?_
  rintro e w' ⟨rfl, rfl⟩
  go_wp2_with fail
  refine (heightOf_c (HR.out.ext he0)).mono ?_
  rintro e w' ⟨rfl, rfl⟩
  go_wp2_with fail
  have hH : ht (BT.node rb 0 re rl rr) = max (ht rl) (ht rr) + 1 := rfl
  generalize ht (BT.node rb 0 re rl rr) = H at *
  have e1 : IntKind.i64.wrap ((ht l : Int) + 1) = (ht l : Int) + 1 := IntWalk.i64_in _ (by omega)
  have e2 : IntKind.i64.wrap ((H : Int) + 1) = (H : Int) + 1 := IntWalk.i64_in _ (by omega)
  have d1 : (ht l : Int) + 1 < (H : Int) := by omega
  have d2 : ¬ (H : Int) + 1 < (ht l : Int) := by omega
  clear hH
  refine wp_region_mixE 19 [(0, 3), (1, 3), (2, 3), (3, 3), (4, 3), (5, 3), (6, 3), (7, 3), (8, 0), (10, 3), (11, 3), (12, 3), (13, 0), (9, 1), (14, 1), (15, 3), (16, 3), (17, 3)] (by kernel_rfl) (fun _ _ d _ _ h => by cases d <;> exact h) ?_
  intro w1 hw1
  simp only [List.map_cons, List.map_nil, mixPick_lt _ _ 0 rfl, mixPick_lt _ _ 1 rfl, mixPick_lt _ _ 2 rfl, mixPick_lt _ _ 3 rfl, mixPick_fork, List.getD_cons_zero, List.getD_cons_succ]
  have Ew1 := Lib.hid (Ew0.out.trans hw1)
  have Fw1 := Lib.hid (Fw0.out.trans hw1)
  have tew1 := fun W (h : Ext w1 W) => Ew1.out.trans h
  have tfw1 := fun W (h : Ext w1 W) => Fw1.out.trans h
  repeat (first | (refine mx_pu (v := ?_) rfl (fun W => ?_) ?_; rotate_left; (focus (go_simp <;> with_reducible rfl)); simp only [Act.put, List.setIfInBounds_toArray, List.set_cons_zero, List.set_cons_succ]) | (refine mx_no3 rfl ?_; simp only [Act.put, List.setIfInBounds_toArray, List.set_cons_zero, List.set_cons_succ]) | (refine mx_st (v := ?_) rfl (fun W hW => ?_) ?_; rotate_left; (focus (go_simp <;> with_reducible rfl)); simp only [Act.put, List.setIfInBounds_toArray, List.set_cons_zero, List.set_cons_succ]) | (refine mx_no0 rfl ?_; simp only [Act.put, List.setIfInBounds_toArray, List.set_cons_zero, List.set_cons_succ]) | (refine mx_no1 Ext.grows rfl ?_; simp only [Act.put, List.setIfInBounds_toArray, List.set_cons_zero, List.set_cons_succ]))
  refine mx_nil ?_
  go_wp2_with fail
  refine wp_region_mixE 19 [(0, 3), (1, 3), (2, 3), (3, 3), (4, 3), (5, 3), (6, 3), (7, 3), (8, 0), (10, 3), (11, 3), (12, 3), (13, 0), (9, 1), (14, 1), (15, 3), (16, 3), (17, 3)] (by kernel_rfl) (fun _ _ d _ _ h => by cases d <;> exact h) ?_
  intro w2 hw2
  simp only [List.map_cons, List.map_nil, mixPick_lt _ _ 0 rfl, mixPick_lt _ _ 1 rfl, mixPick_lt _ _ 2 rfl, mixPick_lt _ _ 3 rfl, mixPick_fork, List.getD_cons_zero, List.getD_cons_succ]
  have Ew2 := Lib.hid (Ew1.out.trans hw2)
  have Fw2 := Lib.hid (Fw1.out.trans hw2)
  have tew2 := fun W (h : Ext w2 W) => Ew2.out.trans h
  have tfw2 := fun W (h : Ext w2 W) => Fw2.out.trans h
  clear tew1 tfw1
  repeat (first | (refine mx_pu (v := ?_) rfl (fun W => ?_) ?_; rotate_left; (focus (go_simp <;> with_reducible rfl)); simp only [Act.put, List.setIfInBounds_toArray, List.set_cons_zero, List.set_cons_succ]) | (refine mx_no3 rfl ?_; simp only [Act.put, List.setIfInBounds_toArray, List.set_cons_zero, List.set_cons_succ]) | (refine mx_st (v := ?_) rfl (fun W hW => ?_) ?_; rotate_left; (focus (go_simp <;> with_reducible rfl)); simp only [Act.put, List.setIfInBounds_toArray, List.set_cons_zero, List.set_cons_succ]) | (refine mx_no0 rfl ?_; simp only [Act.put, List.setIfInBounds_toArray, List.set_cons_zero, List.set_cons_succ]) | (refine mx_no1 Ext.grows rfl ?_; simp only [Act.put, List.setIfInBounds_toArray, List.set_cons_zero, List.set_cons_succ]))
  refine mx_call (f := ?_) (args := ?_) rfl ?_ ?_
  rotate_left 2
  focus (go_simp <;> (refine ⟨?_, ?_⟩ <;> with_reducible rfl))
  refine (heightOf_c (HRR.out.2.2.ext Ew2.out)).mono ?_
  rintro e w' ⟨rfl, rfl⟩
  refine ⟨_, rfl, Ext.refl _, ?_⟩
  simp only [Act.put, List.setIfInBounds_toArray, List.set_cons_zero, List.set_cons_succ]
  repeat (first | (refine mx_pu (v := ?_) rfl (fun W => ?_) ?_; rotate_left; (focus (go_simp <;> with_reducible rfl)); simp only [Act.put, List.setIfInBounds_toArray, List.set_cons_zero, List.set_cons_succ]) | (refine mx_no3 rfl ?_; simp only [Act.put, List.setIfInBounds_toArray, List.set_cons_zero, List.set_cons_succ]) | (refine mx_st (v := ?_) rfl (fun W hW => ?_) ?_; rotate_left; (focus (go_simp <;> with_reducible rfl)); simp only [Act.put, List.setIfInBounds_toArray, List.set_cons_zero, List.set_cons_succ]) | (refine mx_no0 rfl ?_; simp only [Act.put, List.setIfInBounds_toArray, List.set_cons_zero, List.set_cons_succ]) | (refine mx_no1 Ext.grows rfl ?_; simp only [Act.put, List.setIfInBounds_toArray, List.set_cons_zero, List.set_cons_succ]))
  refine mx_call (f := ?_) (args := ?_) rfl ?_ ?_
  rotate_left 2
  focus (go_simp <;> (refine ⟨?_, ?_⟩ <;> with_reducible rfl))
  refine (heightOf_c (HRR.out.2.1.ext Ew2.out)).mono ?_
  rintro e w' ⟨rfl, rfl⟩
  refine ⟨_, rfl, Ext.refl _, ?_⟩
  simp only [Act.put, List.setIfInBounds_toArray, List.set_cons_zero, List.set_cons_succ]
  repeat (first | (refine mx_pu (v := ?_) rfl (fun W => ?_) ?_; rotate_left; (focus (go_simp <;> with_reducible rfl)); simp only [Act.put, List.setIfInBounds_toArray, List.set_cons_zero, List.set_cons_succ]) | (refine mx_no3 rfl ?_; simp only [Act.put, List.setIfInBounds_toArray, List.set_cons_zero, List.set_cons_succ]) | (refine mx_st (v := ?_) rfl (fun W hW => ?_) ?_; rotate_left; (focus (go_simp <;> with_reducible rfl)); simp only [Act.put, List.setIfInBounds_toArray, List.set_cons_zero, List.set_cons_succ]) | (refine mx_no0 rfl ?_; simp only [Act.put, List.setIfInBounds_toArray, List.set_cons_zero, List.set_cons_succ]) | (refine mx_no1 Ext.grows rfl ?_; simp only [Act.put, List.setIfInBounds_toArray, List.set_cons_zero, List.set_cons_succ]))
  refine mx_nil ?_
  go_wp2_with fail
  refine wp_region_mixE 18 [(0, 3), (1, 0), (2, 3), (3, 3), (4, 3), (5, 0), (7, 3), (8, 3), (9, 3), (10, 0), (11, 3), (12, 3), (13, 3), (14, 0), (6, 1), (15, 1), (16, 3)] (by kernel_rfl) (fun _ _ d _ _ h => by cases d <;> exact h) ?_
  intro w3 hw3
  simp only [List.map_cons, List.map_nil, mixPick_lt _ _ 0 rfl, mixPick_lt _ _ 1 rfl, mixPick_lt _ _ 2 rfl, mixPick_lt _ _ 3 rfl, mixPick_fork, List.getD_cons_zero, List.getD_cons_succ]
  generalize yielded _ = y
  have Ew3 := Lib.hid (Ew2.out.trans hw3)
  have Fw3 := Lib.hid (Fw2.out.trans hw3)
  have tew3 := fun W (h : Ext w3 W) => Ew3.out.trans h
  have tfw3 := fun W (h : Ext w3 W) => Fw3.out.trans h
  clear tew2 tfw2
  repeat (first | (refine mx_pu (v := ?_) rfl (fun W => ?_) ?_; rotate_left; (focus (go_simp <;> with_reducible rfl)); simp only [Act.put, List.setIfInBounds_toArray, List.set_cons_zero, List.set_cons_succ]) | (refine mx_st (v := ?_) rfl (fun W hW => ?_) ?_; rotate_left; (focus (go_simp <;> with_reducible rfl)); simp only [Act.put, List.setIfInBounds_toArray, List.set_cons_zero, List.set_cons_succ]))
  refine mx_call (f := ?_) (args := ?_) rfl ?_ ?_
  rotate_left 2
  focus (go_simp <;> (refine ⟨?_, ?_⟩ <;> with_reducible rfl))
  with_reducible refine (join_c (HSF.out.ext Ew3.out) (e := (⟨ek, en, es⟩, ew)) (HL.out.ext Ew3.out) (HRR.out.2.1.ext Ew3.out) (HW.out.ext Ew3.out) (by (try simp only [sz]); omega) (by have := HB.out; (try simp only [tot] at this ⊢); omega)).mono ?_
  rintro e w4 ⟨b', rfl, hw4, t1⟩
  refine ⟨_, rfl, hw4, ?_⟩
  simp only [Act.put, List.setIfInBounds_toArray, List.set_cons_zero, List.set_cons_succ]
  have Ew4 := Lib.hid (Ew3.out.trans hw4)
  have Fw4 := Lib.hid (Fw3.out.trans hw4)
  have tew4 := fun W (h : Ext w4 W) => Ew4.out.trans h
  have tfw4 := fun W (h : Ext w4 W) => Fw4.out.trans h
  repeat (first | (refine mx_pu (v := ?_) rfl (fun W => ?_) ?_; rotate_left; (focus (go_simp <;> with_reducible rfl)); simp only [Act.put, List.setIfInBounds_toArray, List.set_cons_zero, List.set_cons_succ]) | (refine mx_st (v := ?_) rfl (fun W hW => ?_) ?_; rotate_left; (focus (go_simp <;> with_reducible rfl)); simp only [Act.put, List.setIfInBounds_toArray, List.set_cons_zero, List.set_cons_succ]))
  refine mx_call (f := ?_) (args := ?_) rfl ?_ ?_
  rotate_left 2
  focus (go_simp <;> (refine ⟨?_, ?_⟩ <;> with_reducible rfl))
  with_reducible refine (join_c (HSF.out.ext Ew4.out) (e := re) t1 (HRR.out.2.2.ext Ew4.out) (HRR.out.1.ext Ew4.out) (by (try simp only [sz]); omega) (by have := HB.out; (try simp only [tot] at this ⊢); omega)).mono ?_
  rintro e w5 ⟨b, rfl, hw5, t2⟩
  refine ⟨_, rfl, hw5, ?_⟩
  simp only [Act.put, List.setIfInBounds_toArray, List.set_cons_zero, List.set_cons_succ]
  have Ew5 := Lib.hid (Ew4.out.trans hw5)
  have Fw5 := Lib.hid (Fw4.out.trans hw5)
  have tew5 := fun W (h : Ext w5 W) => Ew5.out.trans h
  have tfw5 := fun W (h : Ext w5 W) => Fw5.out.trans h
  repeat (first | (refine mx_pu (v := ?_) rfl (fun W => ?_) ?_; rotate_left; (focus (go_simp <;> with_reducible rfl)); simp only [Act.put, List.setIfInBounds_toArray, List.set_cons_zero, List.set_cons_succ]) | (refine mx_st (v := ?_) rfl (fun W hW => ?_) ?_; rotate_left; (focus (go_simp <;> with_reducible rfl)); simp only [Act.put, List.setIfInBounds_toArray, List.set_cons_zero, List.set_cons_succ]))
  refine mx_nil ?_
  go_wp2_with fail
  go_ret
  exact ⟨b, b', rfl, Ew5.out, t2⟩

set_option maxHeartbeats 4000000 in
set_option maxRecDepth 100000 in
theorem bal_B2 {w : World} (hS : Fresh S w) {lp rp : Option Addr} {rb ro mb mo : Nat} {re me : GV × Nat} {ml mr rr l : T} {e : GV × Nat} {wv : Value} (hl : TreeV S w lp l) (hr : TreeV S w rp (.node rb ro re (.node mb mo me ml mr) rr)) (hw : NatV S w wv e.2) (hs : sz ml + sz mr + sz rr + sz l < 100000000000) (hb : tot l + e.2 + (tot ml + me.2 + tot mr) + re.2 + tot rr < bigN) (h1 : ht l + 1 < max (max (ht ml) (ht mr) + 1) (ht rr) + 1) (h2 : ht rr < max (ht ml) (ht mr) + 1) :
    Calls Try.prog 59 #[.pointer lp, .agg #[.int .i64 e.1.kind, .int .i64 e.1.num, .string e.1.str, wv], .pointer rp] w
      fun e' w' => ∃ b b1 b2, e' = .returned (.pointer (some ⟨b, 0, none⟩)) ∧ Ext w w' ∧ TreeV S w' (some ⟨b, 0, none⟩) (.node b 0 me (.node b1 0 e l ml) (.node b2 0 re mr rr)) := by
  obtain ⟨rl, hrl0⟩ : ∃ x : T, x = .node mb mo me ml mr := ⟨_, rfl⟩
  rw [← hrl0] at hr
  have hrlh : ht rl = max (ht ml) (ht mr) + 1 := by rw [hrl0]; rfl
  have hrls : sz rl = sz ml + 1 + sz mr := by rw [hrl0]; rfl
  have q1 := ht_le_sz ml
  have q2 := ht_le_sz mr
  have hh := ht_le_sz rl
  have hh' := ht_le_sz rr
  have hh'' := ht_le_sz l
  have HL := Lib.hid hl
  have HR := Lib.hid hr
  obtain ⟨rfl, rfl, rwv, rtv, rlp, rrp, hrb, hrw, -, hrl, hrr⟩ := hr.open
  obtain ⟨rsa, rsk, rsc, rfl⟩ := slice_of_nat hrw
  obtain ⟨y0, y1, y2, y3, y4, y5, -⟩ := nodeF hrb
  have HRR := Lib.hid (And.intro hrw (And.intro hrl hrr))
  have hm : TreeV S w rlp (.node mb mo me ml mr) := hrl0 ▸ hrl
  obtain ⟨rfl, rfl, mwv, mtv, mlp, mrp, hmb, hmw, -, hml, hmr⟩ := hm.open
  obtain ⟨msa, msk, msc, rfl⟩ := slice_of_nat hmw
  obtain ⟨z0, z1, z2, z3, z4, z5, -⟩ := nodeF hmb
  have HM := Lib.hid (And.intro hmw (And.intro hml hmr))
  clear hmb hmw hml hmr hm
  clear hl hr hrb hrw hrl hrr hrl0
  obtain ⟨sa, sk, sc, rfl⟩ := slice_of_nat hw
  obtain ⟨⟨ek, en, es⟩, ew⟩ := e
  have HW := Lib.hid hw
  have HB := Lib.hid hb
  have HSF := Lib.hid hS
  have hb0 := Blk.new w [.int .i64 ek, .int .i64 en, .string es, .slice sa sk sc] 84
  have he0 := Ext.alloc w (.cells #[.int .i64 ek, .int .i64 en, .string es, .slice sa sk sc] 84)
  clear hw hb hS
  go_enter Try.func59, Try.ntmps59
  go_wp2_with fail
  generalize w.alloc (.cells #[.int .i64 ek, .int .i64 en, .string es, .slice sa sk sc] 84) = w0 at hb0 he0 ⊢
  obtain ⟨x0, x1, x2, x3⟩ := boxE (w1 := w) hb0
  clear hb0
  have Ew0 := Lib.hid he0
  have Fw0 := Lib.hid (Ext.refl w0)
  refine (heightOf_c (HL.out.ext he0)).mono ?_
  rintro e w' ⟨rfl, rfl⟩
  go_wp2_with fail
  refine (heightOf_c (HR.out.ext he0)).mono ?_
  rintro e w' ⟨rfl, rfl⟩
  go_wp2_with fail
  have hH : ht (BT.node rb 0 re rl rr) = max (ht rl) (ht rr) + 1 := rfl
  generalize ht (BT.node rb 0 re rl rr) = H at *
  have e1 : IntKind.i64.wrap ((ht l : Int) + 1) = (ht l : Int) + 1 := IntWalk.i64_in _ (by omega)
  have e2 : IntKind.i64.wrap ((H : Int) + 1) = (H : Int) + 1 := IntWalk.i64_in _ (by omega)
  have d1 : (ht l : Int) + 1 < (H : Int) := by omega
  have d2 : ¬ (H : Int) + 1 < (ht l : Int) := by omega
  have d3 : ¬ ht rl ≤ ht rr := by omega
  clear hH hrlh hrls
  refine wp_region_mixE 19 [(0, 3), (1, 3), (2, 3), (3, 3), (4, 3), (5, 3), (6, 3), (7, 3), (8, 0), (10, 3), (11, 3), (12, 3), (13, 0), (9, 1), (14, 1), (15, 3), (16, 3), (17, 3)] (by kernel_rfl) (fun _ _ d _ _ h => by cases d <;> exact h) ?_
  intro w1 hw1
  simp only [List.map_cons, List.map_nil, mixPick_lt _ _ 0 rfl, mixPick_lt _ _ 1 rfl, mixPick_lt _ _ 2 rfl, mixPick_lt _ _ 3 rfl, mixPick_fork, List.getD_cons_zero, List.getD_cons_succ]
  have Ew1 := Lib.hid (Ew0.out.trans hw1)
  have Fw1 := Lib.hid (Fw0.out.trans hw1)
  have tew1 := fun W (h : Ext w1 W) => Ew1.out.trans h
  have tfw1 := fun W (h : Ext w1 W) => Fw1.out.trans h
  repeat (first | (refine mx_pu (v := ?_) rfl (fun W => ?_) ?_; rotate_left; (focus (go_simp <;> with_reducible rfl)); simp only [Act.put, List.setIfInBounds_toArray, List.set_cons_zero, List.set_cons_succ]) | (refine mx_no3 rfl ?_; simp only [Act.put, List.setIfInBounds_toArray, List.set_cons_zero, List.set_cons_succ]) | (refine mx_st (v := ?_) rfl (fun W hW => ?_) ?_; rotate_left; (focus (go_simp <;> with_reducible rfl)); simp only [Act.put, List.setIfInBounds_toArray, List.set_cons_zero, List.set_cons_succ]) | (refine mx_no0 rfl ?_; simp only [Act.put, List.setIfInBounds_toArray, List.set_cons_zero, List.set_cons_succ]) | (refine mx_no1 Ext.grows rfl ?_; simp only [Act.put, List.setIfInBounds_toArray, List.set_cons_zero, List.set_cons_succ]))
  refine mx_nil ?_
  go_wp2_with fail
  refine wp_region_mixE 19 [(0, 3), (1, 3), (2, 3), (3, 3), (4, 3), (5, 3), (6, 3), (7, 3), (8, 0), (10, 3), (11, 3), (12, 3), (13, 0), (9, 1), (14, 1), (15, 3), (16, 3), (17, 3)] (by kernel_rfl) (fun _ _ d _ _ h => by cases d <;> exact h) ?_
  intro w2 hw2
  simp only [List.map_cons, List.map_nil, mixPick_lt _ _ 0 rfl, mixPick_lt _ _ 1 rfl, mixPick_lt _ _ 2 rfl, mixPick_lt _ _ 3 rfl, mixPick_fork, List.getD_cons_zero, List.getD_cons_succ]
  have Ew2 := Lib.hid (Ew1.out.trans hw2)
  have Fw2 := Lib.hid (Fw1.out.trans hw2)
  have tew2 := fun W (h : Ext w2 W) => Ew2.out.trans h
  have tfw2 := fun W (h : Ext w2 W) => Fw2.out.trans h
  clear tew1 tfw1
  repeat (first | (refine mx_pu (v := ?_) rfl (fun W => ?_) ?_; rotate_left; (focus (go_simp <;> with_reducible rfl)); simp only [Act.put, List.setIfInBounds_toArray, List.set_cons_zero, List.set_cons_succ]) | (refine mx_no3 rfl ?_; simp only [Act.put, List.setIfInBounds_toArray, List.set_cons_zero, List.set_cons_succ]) | (refine mx_st (v := ?_) rfl (fun W hW => ?_) ?_; rotate_left; (focus (go_simp <;> with_reducible rfl)); simp only [Act.put, List.setIfInBounds_toArray, List.set_cons_zero, List.set_cons_succ]) | (refine mx_no0 rfl ?_; simp only [Act.put, List.setIfInBounds_toArray, List.set_cons_zero, List.set_cons_succ]) | (refine mx_no1 Ext.grows rfl ?_; simp only [Act.put, List.setIfInBounds_toArray, List.set_cons_zero, List.set_cons_succ]))
  refine mx_call (f := ?_) (args := ?_) rfl ?_ ?_
  rotate_left 2
  focus (go_simp <;> (refine ⟨?_, ?_⟩ <;> with_reducible rfl))
  refine (heightOf_c (HRR.out.2.2.ext Ew2.out)).mono ?_
  rintro e w' ⟨rfl, rfl⟩
  refine ⟨_, rfl, Ext.refl _, ?_⟩
  simp only [Act.put, List.setIfInBounds_toArray, List.set_cons_zero, List.set_cons_succ]
  repeat (first | (refine mx_pu (v := ?_) rfl (fun W => ?_) ?_; rotate_left; (focus (go_simp <;> with_reducible rfl)); simp only [Act.put, List.setIfInBounds_toArray, List.set_cons_zero, List.set_cons_succ]) | (refine mx_no3 rfl ?_; simp only [Act.put, List.setIfInBounds_toArray, List.set_cons_zero, List.set_cons_succ]) | (refine mx_st (v := ?_) rfl (fun W hW => ?_) ?_; rotate_left; (focus (go_simp <;> with_reducible rfl)); simp only [Act.put, List.setIfInBounds_toArray, List.set_cons_zero, List.set_cons_succ]) | (refine mx_no0 rfl ?_; simp only [Act.put, List.setIfInBounds_toArray, List.set_cons_zero, List.set_cons_succ]) | (refine mx_no1 Ext.grows rfl ?_; simp only [Act.put, List.setIfInBounds_toArray, List.set_cons_zero, List.set_cons_succ]))
  refine mx_call (f := ?_) (args := ?_) rfl ?_ ?_
  rotate_left 2
  focus (go_simp <;> (refine ⟨?_, ?_⟩ <;> with_reducible rfl))
  refine (heightOf_c (HRR.out.2.1.ext Ew2.out)).mono ?_
  rintro e w' ⟨rfl, rfl⟩
  refine ⟨_, rfl, Ext.refl _, ?_⟩
  simp only [Act.put, List.setIfInBounds_toArray, List.set_cons_zero, List.set_cons_succ]
  repeat (first | (refine mx_pu (v := ?_) rfl (fun W => ?_) ?_; rotate_left; (focus (go_simp <;> with_reducible rfl)); simp only [Act.put, List.setIfInBounds_toArray, List.set_cons_zero, List.set_cons_succ]) | (refine mx_no3 rfl ?_; simp only [Act.put, List.setIfInBounds_toArray, List.set_cons_zero, List.set_cons_succ]) | (refine mx_st (v := ?_) rfl (fun W hW => ?_) ?_; rotate_left; (focus (go_simp <;> with_reducible rfl)); simp only [Act.put, List.setIfInBounds_toArray, List.set_cons_zero, List.set_cons_succ]) | (refine mx_no0 rfl ?_; simp only [Act.put, List.setIfInBounds_toArray, List.set_cons_zero, List.set_cons_succ]) | (refine mx_no1 Ext.grows rfl ?_; simp only [Act.put, List.setIfInBounds_toArray, List.set_cons_zero, List.set_cons_succ]))
  refine mx_nil ?_
  have ew2 := Ew2.out
  go_wp2_with fail
  clear ew2
  refine wp_region_mixE 27 [(0, 3), (1, 0), (2, 3), (3, 3), (4, 3), (5, 0), (7, 3), (8, 3), (9, 3), (10, 0), (11, 3), (12, 3), (13, 3), (14, 0), (15, 3), (16, 3), (17, 3), (18, 0), (19, 3), (20, 3), (21, 3), (22, 0), (6, 1), (23, 1), (24, 1), (25, 3)] (by kernel_rfl) (fun _ _ d _ _ h => by cases d <;> exact h) ?_
  intro w3 hw3
  simp only [List.map_cons, List.map_nil, mixPick_lt _ _ 0 rfl, mixPick_lt _ _ 1 rfl, mixPick_lt _ _ 2 rfl, mixPick_lt _ _ 3 rfl, mixPick_fork, List.getD_cons_zero, List.getD_cons_succ]
  generalize yielded _ = y
  have Ew3 := Lib.hid (Ew2.out.trans hw3)
  have Fw3 := Lib.hid (Fw2.out.trans hw3)
  have tew3 := fun W (h : Ext w3 W) => Ew3.out.trans h
  have tfw3 := fun W (h : Ext w3 W) => Fw3.out.trans h
  clear tew2 tfw2
  repeat (first | (refine mx_pu (v := ?_) rfl (fun W => ?_) ?_; rotate_left; (focus (go_simp <;> with_reducible rfl)); simp only [Act.put, List.setIfInBounds_toArray, List.set_cons_zero, List.set_cons_succ]) | (refine mx_st (v := ?_) rfl (fun W hW => ?_) ?_; rotate_left; (focus (go_simp <;> with_reducible rfl)); simp only [Act.put, List.setIfInBounds_toArray, List.set_cons_zero, List.set_cons_succ]))
  refine mx_call (f := ?_) (args := ?_) rfl ?_ ?_
  rotate_left 2
  focus (go_simp <;> (refine ⟨?_, ?_⟩ <;> with_reducible rfl))
  with_reducible refine (join_c (HSF.out.ext Ew3.out) (e := (⟨ek, en, es⟩, ew)) (HL.out.ext Ew3.out) (HM.out.2.1.ext Ew3.out) (HW.out.ext Ew3.out) (by (try simp only [sz]); omega) (by have := HB.out; (try simp only [tot] at this ⊢); omega)).mono ?_
  rintro e w4 ⟨b1, rfl, hw4, t1⟩
  refine ⟨_, rfl, hw4, ?_⟩
  simp only [Act.put, List.setIfInBounds_toArray, List.set_cons_zero, List.set_cons_succ]
  have Ew4 := Lib.hid (Ew3.out.trans hw4)
  have Fw4 := Lib.hid (Fw3.out.trans hw4)
  have tew4 := fun W (h : Ext w4 W) => Ew4.out.trans h
  have tfw4 := fun W (h : Ext w4 W) => Fw4.out.trans h
  repeat (first | (refine mx_pu (v := ?_) rfl (fun W => ?_) ?_; rotate_left; (focus (go_simp <;> with_reducible rfl)); simp only [Act.put, List.setIfInBounds_toArray, List.set_cons_zero, List.set_cons_succ]) | (refine mx_st (v := ?_) rfl (fun W hW => ?_) ?_; rotate_left; (focus (go_simp <;> with_reducible rfl)); simp only [Act.put, List.setIfInBounds_toArray, List.set_cons_zero, List.set_cons_succ]))
  refine mx_call (f := ?_) (args := ?_) rfl ?_ ?_
  rotate_left 2
  focus (go_simp <;> (refine ⟨?_, ?_⟩ <;> with_reducible rfl))
  with_reducible refine (join_c (HSF.out.ext Ew4.out) (e := re) (HM.out.2.2.ext Ew4.out) (HRR.out.2.2.ext Ew4.out) (HRR.out.1.ext Ew4.out) (by (try simp only [sz]); omega) (by have := HB.out; (try simp only [tot] at this ⊢); omega)).mono ?_
  rintro e w5 ⟨b2, rfl, hw5, t2⟩
  refine ⟨_, rfl, hw5, ?_⟩
  simp only [Act.put, List.setIfInBounds_toArray, List.set_cons_zero, List.set_cons_succ]
  have Ew5 := Lib.hid (Ew4.out.trans hw5)
  have Fw5 := Lib.hid (Fw4.out.trans hw5)
  have tew5 := fun W (h : Ext w5 W) => Ew5.out.trans h
  have tfw5 := fun W (h : Ext w5 W) => Fw5.out.trans h
  repeat (first | (refine mx_pu (v := ?_) rfl (fun W => ?_) ?_; rotate_left; (focus (go_simp <;> with_reducible rfl)); simp only [Act.put, List.setIfInBounds_toArray, List.set_cons_zero, List.set_cons_succ]) | (refine mx_st (v := ?_) rfl (fun W hW => ?_) ?_; rotate_left; (focus (go_simp <;> with_reducible rfl)); simp only [Act.put, List.setIfInBounds_toArray, List.set_cons_zero, List.set_cons_succ]))
  refine mx_call (f := ?_) (args := ?_) rfl ?_ ?_
  rotate_left 2
  focus (go_simp <;> (refine ⟨?_, ?_⟩ <;> with_reducible rfl))
  with_reducible refine (join_c (HSF.out.ext Ew5.out) (e := me) (t1.ext hw5) t2 (HM.out.1.ext Ew5.out) (by (try simp only [sz]); omega) (by have := HB.out; (try simp only [tot] at this ⊢); omega)).mono ?_
  rintro e w6 ⟨b, rfl, hw6, t3⟩
  refine ⟨_, rfl, hw6, ?_⟩
  simp only [Act.put, List.setIfInBounds_toArray, List.set_cons_zero, List.set_cons_succ]
  have Ew6 := Lib.hid (Ew5.out.trans hw6)
  have Fw6 := Lib.hid (Fw5.out.trans hw6)
  have tew6 := fun W (h : Ext w6 W) => Ew6.out.trans h
  have tfw6 := fun W (h : Ext w6 W) => Fw6.out.trans h
  repeat (first | (refine mx_pu (v := ?_) rfl (fun W => ?_) ?_; rotate_left; (focus (go_simp <;> with_reducible rfl)); simp only [Act.put, List.setIfInBounds_toArray, List.set_cons_zero, List.set_cons_succ]) | (refine mx_st (v := ?_) rfl (fun W hW => ?_) ?_; rotate_left; (focus (go_simp <;> with_reducible rfl)); simp only [Act.put, List.setIfInBounds_toArray, List.set_cons_zero, List.set_cons_succ]))
  refine mx_nil ?_
  go_wp2_with fail
  go_ret
  exact ⟨b, b1, b2, rfl, Ew6.out, t3⟩

set_option maxHeartbeats 4000000 in
set_option maxRecDepth 100000 in
theorem bal_C {w : World} (hS : Fresh S w) {lp rp : Option Addr} {l r : T} {e : GV × Nat} {wv : Value} (hl : TreeV S w lp l) (hr : TreeV S w rp r) (hw : NatV S w wv e.2) (hs : sz l + sz r < 100000000000) (hb : tot l + e.2 + tot r < bigN) (h1 : ht l ≤ ht r + 1) (h2 : ht r ≤ ht l + 1) :
    Calls Try.prog 59 #[.pointer lp, .agg #[.int .i64 e.1.kind, .int .i64 e.1.num, .string e.1.str, wv], .pointer rp] w
      fun e' w' => ∃ b, e' = .returned (.pointer (some ⟨b, 0, none⟩)) ∧ Ext w w' ∧ TreeV S w' (some ⟨b, 0, none⟩) (.node b 0 e l r) := by
  have hh := ht_le_sz r
  have hh'' := ht_le_sz l
  have HL := Lib.hid hl
  have HR := Lib.hid hr
  clear hl hr
  obtain ⟨sa, sk, sc, rfl⟩ := slice_of_nat hw
  obtain ⟨⟨ek, en, es⟩, ew⟩ := e
  have HW := Lib.hid hw
  have HB := Lib.hid hb
  have HSF := Lib.hid hS
  have hb0 := Blk.new w [.int .i64 ek, .int .i64 en, .string es, .slice sa sk sc] 84
  have he0 := Ext.alloc w (.cells #[.int .i64 ek, .int .i64 en, .string es, .slice sa sk sc] 84)
  clear hw hb hS
  go_enter Try.func59, Try.ntmps59
  go_wp2_with fail
  generalize w.alloc (.cells #[.int .i64 ek, .int .i64 en, .string es, .slice sa sk sc] 84) = w0 at hb0 he0 ⊢
  obtain ⟨x0, x1, x2, x3⟩ := boxE (w1 := w) hb0
  clear hb0
  have Ew0 := Lib.hid he0
  have Fw0 := Lib.hid (Ext.refl w0)
  refine (heightOf_c (HL.out.ext he0)).mono ?_
  rintro e w' ⟨rfl, rfl⟩
  go_wp2_with fail
  refine (heightOf_c (HR.out.ext he0)).mono ?_
  rintro e w' ⟨rfl, rfl⟩
  go_wp2_with fail
  have e1 : IntKind.i64.wrap ((ht l : Int) + 1) = (ht l : Int) + 1 := IntWalk.i64_in _ (by omega)
  have e2 : IntKind.i64.wrap ((ht r : Int) + 1) = (ht r : Int) + 1 := IntWalk.i64_in _ (by omega)
  have d1 : ¬ (ht l : Int) + 1 < (ht r : Int) := by omega
  have d2 : ¬ (ht r : Int) + 1 < (ht l : Int) := by omega
  have d1' : decide ((ht l : Int) + 1 < (ht r : Int)) = false := by simp; omega
  have d2' : decide ((ht r : Int) + 1 < (ht l : Int)) = false := by simp; omega
  clear h1 h2
  refine wp_region_mixE 19 [(0, 3), (1, 3), (2, 3), (3, 3), (4, 3), (5, 3), (6, 3), (7, 3), (8, 0), (10, 3), (11, 3), (12, 3), (13, 0), (9, 1), (14, 1), (15, 3), (16, 3), (17, 3)] (by kernel_rfl) (fun _ _ d _ _ h => by cases d <;> exact h) ?_
  intro w1 hw1
  simp only [List.map_cons, List.map_nil, mixPick_lt _ _ 0 rfl, mixPick_lt _ _ 1 rfl, mixPick_lt _ _ 2 rfl, mixPick_lt _ _ 3 rfl, mixPick_fork, List.getD_cons_zero, List.getD_cons_succ]
  have Ew1 := Lib.hid (Ew0.out.trans hw1)
  have Fw1 := Lib.hid (Fw0.out.trans hw1)
  have tew1 := fun W (h : Ext w1 W) => Ew1.out.trans h
  have tfw1 := fun W (h : Ext w1 W) => Fw1.out.trans h
  repeat (first | (refine mx_pu (v := ?_) rfl (fun W => ?_) ?_; rotate_left; (focus (go_simp <;> with_reducible rfl)); simp only [Act.put, List.setIfInBounds_toArray, List.set_cons_zero, List.set_cons_succ]) | (refine mx_no3 rfl ?_; simp only [Act.put, List.setIfInBounds_toArray, List.set_cons_zero, List.set_cons_succ]) | (refine mx_st (v := ?_) rfl (fun W hW => ?_) ?_; rotate_left; (focus (go_simp <;> with_reducible rfl)); simp only [Act.put, List.setIfInBounds_toArray, List.set_cons_zero, List.set_cons_succ]) | (refine mx_no0 rfl ?_; simp only [Act.put, List.setIfInBounds_toArray, List.set_cons_zero, List.set_cons_succ]) | (refine mx_no1 Ext.grows rfl ?_; simp only [Act.put, List.setIfInBounds_toArray, List.set_cons_zero, List.set_cons_succ]))
  refine mx_nil ?_
  go_wp2_with fail
  refine wp_region_mixE 19 [(0, 3), (1, 3), (2, 3), (3, 3), (4, 3), (5, 3), (6, 3), (7, 3), (8, 0), (10, 3), (11, 3), (12, 3), (13, 0), (9, 1), (14, 1), (15, 3), (16, 3), (17, 3)] (by kernel_rfl) (fun _ _ d _ _ h => by cases d <;> exact h) ?_
  intro w2 hw2
  simp only [List.map_cons, List.map_nil, mixPick_lt _ _ 0 rfl, mixPick_lt _ _ 1 rfl, mixPick_lt _ _ 2 rfl, mixPick_lt _ _ 3 rfl, mixPick_fork, List.getD_cons_zero, List.getD_cons_succ]
  have Ew2 := Lib.hid (Ew1.out.trans hw2)
  have Fw2 := Lib.hid (Fw1.out.trans hw2)
  have tew2 := fun W (h : Ext w2 W) => Ew2.out.trans h
  have tfw2 := fun W (h : Ext w2 W) => Fw2.out.trans h
  clear tew1 tfw1
  repeat (first | (refine mx_pu (v := ?_) rfl (fun W => ?_) ?_; rotate_left; (focus (go_simp <;> with_reducible rfl)); simp only [Act.put, List.setIfInBounds_toArray, List.set_cons_zero, List.set_cons_succ]) | (refine mx_no3 rfl ?_; simp only [Act.put, List.setIfInBounds_toArray, List.set_cons_zero, List.set_cons_succ]) | (refine mx_st (v := ?_) rfl (fun W hW => ?_) ?_; rotate_left; (focus (go_simp <;> with_reducible rfl)); simp only [Act.put, List.setIfInBounds_toArray, List.set_cons_zero, List.set_cons_succ]) | (refine mx_no0 rfl ?_; simp only [Act.put, List.setIfInBounds_toArray, List.set_cons_zero, List.set_cons_succ]) | (refine mx_no1 Ext.grows rfl ?_; simp only [Act.put, List.setIfInBounds_toArray, List.set_cons_zero, List.set_cons_succ]))
  refine mx_nil ?_
  have fw2 := Fw2.out
  go_wp2_with fail
  clear fw2
  with_reducible refine (join_c (HSF.out.ext Ew2.out) (e := (⟨ek, en, es⟩, ew)) (HL.out.ext Ew2.out) (HR.out.ext Ew2.out) (HW.out.ext Ew2.out) (by omega) (by have := HB.out; (try simp only at this ⊢); omega)).mono ?_
  rintro e w3 ⟨b, rfl, hw3, t3⟩
  go_wp2_with fail
  go_ret
  exact ⟨b, rfl, Ew2.out.trans hw3, t3⟩
end Go.Proofs.Ytbbnpicddmplbaa

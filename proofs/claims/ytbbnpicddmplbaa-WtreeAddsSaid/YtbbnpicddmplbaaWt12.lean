/- Package wtree: split, without, Delete. -/
import Derived.Test.YtbbnpicddmplbaaAvl3
namespace Go.Proofs.Ytbbnpicddmplbaa
open Go.RowKit Go.Deep
set_option linter.unusedVariables false
set_option linter.unusedSimpArgs false
variable {S : Nat → Prop}


theorem Blk.set4 {w : World} {g : Nat} {x y z u a b c d : Value} {t : TypeId} (h : Blk w g [x, y, z, u] t) : Blk ((((w.setCell ⟨g, 0, none⟩ a).setCell ⟨g, 1, none⟩ b).setCell ⟨g, 2, none⟩ c).setCell ⟨g, 3, none⟩ d) g [a, b, c, d] t := by
  have := (((h.set 0 a).set 1 b).set 2 c).set 3 d
  simpa using this
theorem ExtBut.set4 (w : World) (g : Nat) (a b c d : Value) : ExtBut (fun x => x = g) w ((((w.setCell ⟨g, 0, none⟩ a).setCell ⟨g, 1, none⟩ b).setCell ⟨g, 2, none⟩ c).setCell ⟨g, 3, none⟩ d) :=
  ExtBut.trans (ExtBut.trans (ExtBut.trans (ExtBut.set g 0 a rfl) (ExtBut.set g 1 b rfl)) (ExtBut.set g 2 c rfl)) (ExtBut.set g 3 d rfl)
/-- What split hands back. -/
def SplitRes (S : Nat → Prop) (t : T) (w : World) (x : Ending) (w' : World) : Prop :=
  ∃ (e : GV × Nat) (sa : Option Addr) (sk sc : Nat) (q : Option Addr) (t' : T), x = .returned (.tuple #[.agg #[.int .i64 e.1.kind, .int .i64 e.1.num, .string e.1.str, .slice sa sk sc], .pointer q]) ∧ Ext w w' ∧ NatV S w' (.slice sa sk sc) e.2 ∧ TreeV S w' q t' ∧ lst t = e :: lst t' ∧ Avl t' ∧ ht t' ≤ ht t ∧ ht t ≤ ht t' + 1
set_option maxHeartbeats 2000000 in
set_option maxRecDepth 100000 in
theorem split_leaf {w : World} (hS : Fresh S w) {p : Option Addr} {lb lo : Nat} {le : GV × Nat} {lr : T} (hl : TreeV S w p (.node lb lo le .nil lr)) (ha : Avl (.node lb lo le .nil lr)) :
    Calls Try.prog 65 #[.pointer p] w (SplitRes S (.node lb lo le .nil lr) w) := by
  obtain ⟨rfl, rfl, lwv, ltv, llp, lrp, hlb, hlw, -, hll, hlr⟩ := hl.open
  obtain rfl : llp = none := hll.none_iff.2 rfl
  obtain ⟨lsa, lsk, lsc, rfl⟩ := slice_of_nat hlw
  obtain ⟨⟨ek, en, es⟩, ew⟩ := le
  obtain ⟨y0, y1, y2, y3, y4, y5, -⟩ := nodeF hlb
  have HL := Lib.hid (And.intro hlw hlr)
  have hlt : lb < w.heap.size := hlb.lt
  have HN := Lib.hid hlb
  have HA := Lib.hid ha
  have ea := Ext.alloc w (.cells #[.int .i64 0, .int .i64 0, .string ⟨#[]⟩, .slice none 0 0] 84)
  clear hl hlb hlw hll hlr hS ha
  go_enter Try.func65, Try.ntmps65
  go_wp2_with fail
  have hb0 := Blk.new w [.int .i64 0, .int .i64 0, .string ⟨#[]⟩, .slice none 0 0] 84
  have he0 := Ext.alloc w (.cells #[.int .i64 0, .int .i64 0, .string ⟨#[]⟩, .slice none 0 0] 84)
  generalize w.alloc (.cells #[.int .i64 0, .int .i64 0, .string ⟨#[]⟩, .slice none 0 0] 84) = w0 at hb0 he0 ⊢
  refine wp_region_mixB (fun b => b = w.heap.size) 11 [(0, 3), (1, 3), (2, 3), (3, 0), (4, 3), (5, 3), (6, 3), (7, 0), (8, 1), (9, 3)] (by kernel_rfl) (fun _ _ d _ _ h => by cases d <;> exact h) ?_
  intro w1 hw1
  simp only [List.map_cons, List.map_nil, mixPick_lt _ _ 0 rfl, mixPick_lt _ _ 1 rfl, mixPick_lt _ _ 2 rfl, mixPick_lt _ _ 3 rfl, mixPick_fork, List.getD_cons_zero, List.getD_cons_succ]
  generalize yielded _ = y
  have hw1' := he0.trans hw1
  have z0 : ∀ W, ExtBut (fun b => b = w.heap.size) w1 W → W.cell? ⟨lb, 0, none⟩ = some (.int .i64 ek) := fun W h => ((HN.out.ext hw1').but (by omega) h).cell 0
  have z1 : ∀ W, ExtBut (fun b => b = w.heap.size) w1 W → W.cell? ⟨lb, 1, none⟩ = some (.int .i64 en) := fun W h => ((HN.out.ext hw1').but (by omega) h).cell 1
  have z2 : ∀ W, ExtBut (fun b => b = w.heap.size) w1 W → W.cell? ⟨lb, 2, none⟩ = some (.string es) := fun W h => ((HN.out.ext hw1').but (by omega) h).cell 2
  have z3 : ∀ W, ExtBut (fun b => b = w.heap.size) w1 W → W.cell? ⟨lb, 3, none⟩ = some (.slice lsa lsk lsc) := fun W h => ((HN.out.ext hw1').but (by omega) h).cell 3
  have z5 : ∀ W, ExtBut (fun b => b = w.heap.size) w1 W → W.cell? ⟨lb, 5, none⟩ = some (.pointer lrp) := fun W h => ((HN.out.ext hw1').but (by omega) h).cell 5
  repeat (first | (refine mx_pu (v := ?_) rfl (fun W => ?_) ?_; rotate_left; (focus (go_simp <;> with_reducible rfl)); simp only [Act.put, List.setIfInBounds_toArray, List.set_cons_zero, List.set_cons_succ]) | (refine mx_st (v := ?_) rfl (fun W hW => ?_) ?_; rotate_left; (focus (go_simp <;> with_reducible rfl)); simp only [Act.put, List.setIfInBounds_toArray, List.set_cons_zero, List.set_cons_succ]))
  have hb1 := hb0.ext hw1
  have c0 := hb1.cell 0
  have c1 := hb1.cell 1
  have c2 := hb1.cell 2
  have c3 := hb1.cell 3
  have f0 := hb1.free 0
  have f1 := hb1.free 1
  have f2 := hb1.free 2
  have f3 := hb1.free 3
  have HB1 := Lib.hid hb1
  clear hb1
  refine mx_es (w' := ?_) rfl ?_ ?_ ?_
  rotate_left
  focus (go_simp <;> with_reducible rfl)
  · exact ExtBut.set4 w1 _ _ _ _ _
  clear c0 c1 c2 c3 f0 f1 f2 f3
  simp only [Act.put, List.setIfInBounds_toArray, List.set_cons_zero, List.set_cons_succ]
  repeat (first | (refine mx_pu (v := ?_) rfl (fun W => ?_) ?_; rotate_left; (focus (go_simp <;> with_reducible rfl)); simp only [Act.put, List.setIfInBounds_toArray, List.set_cons_zero, List.set_cons_succ]) | (refine mx_st (v := ?_) rfl (fun W hW => ?_) ?_; rotate_left; (focus (go_simp <;> with_reducible rfl)); simp only [Act.put, List.setIfInBounds_toArray, List.set_cons_zero, List.set_cons_succ]))
  refine mx_nil ?_
  go_wp2_with fail
  have hbt := ExtBut.set4 w1 (w.heap.size) (.int .i64 ek) (.int .i64 en) (.string es) (.slice lsa lsk lsc)
  have hk := (HB1.out).set4 (a := .int .i64 ek) (b := .int .i64 en) (c := .string es) (d := .slice lsa lsk lsc)
  generalize (((World.setCell w1 ⟨w.heap.size, 0, none⟩ (.int .i64 ek)).setCell ⟨w.heap.size, 1, none⟩ (.int .i64 en)).setCell ⟨w.heap.size, 2, none⟩ (.string es)).setCell ⟨w.heap.size, 3, none⟩ (.slice lsa lsk lsc) = w9 at hk hbt ⊢
  have c0 := hk.cell 0
  have c1 := hk.cell 1
  have c2 := hk.cell 2
  have c3 := hk.cell 3
  clear hk
  refine bodyPost_ret (v := .tuple #[.agg #[.int .i64 ek, .int .i64 en, .string es, .slice lsa lsk lsc], .pointer lrp]) (by simp [results, Try.results65, go_sem, c0, c1, c2, c3]) rfl ?_
  refine ⟨(⟨ek, en, es⟩, ew), lsa, lsk, lsc, lrp, lr, rfl, hbt.ext hw1' (fun b h => by omega), ?_, ?_, rfl, HA.out.2.1, by simp only [ht]; omega, ?_⟩
  · exact (((HL.out.1.old.ext hw1').but (fun b h => by have := h.2; omega) hbt).mono (fun b h => h.1))
  · exact (((HL.out.2.old.ext hw1').but (fun b h => by have := h.2; omega) hbt).mono (fun b h => h.1))
  · have := HA.out.2.2.2
    simp only [ht] at this ⊢
    omega
set_option maxHeartbeats 4000000 in
set_option maxRecDepth 100000 in
theorem split_node {w : World} (hS : Fresh S w) {p : Option Addr} {lb lo : Nat} {le : GV × Nat} {ll lr : T} (hl : TreeV S w p (.node lb lo le ll lr)) (ha : Avl (.node lb lo le ll lr)) (hne : ll ≠ .nil) (hs : sz ll + 1 + sz lr < 10000000000) (hb : tot ll + le.2 + tot lr < bigN)
    (ih : ∀ (S : Nat → Prop) (w : World) (p : Option Addr), Fresh S w → TreeV S w p ll → Calls Try.prog 65 #[.pointer p] w (SplitRes S ll w)) :
    Calls Try.prog 65 #[.pointer p] w (SplitRes S (.node lb lo le ll lr) w) := by
  obtain ⟨rfl, rfl, lwv, ltv, llp, lrp, hlb, hlw, -, hll, hlr⟩ := hl.open
  obtain ⟨llx, rfl⟩ : ∃ x, llp = some x := by
    cases llp with
    | none => exact absurd (hll.none_iff.1 rfl) hne
    | some x => exact ⟨x, rfl⟩
  obtain ⟨lsa, lsk, lsc, rfl⟩ := slice_of_nat hlw
  obtain ⟨⟨ek, en, es⟩, ew⟩ := le
  obtain ⟨y0, y1, y2, y3, y4, y5, -⟩ := nodeF hlb
  have HL := Lib.hid (And.intro hlw (And.intro hll hlr))
  have hlt : lb < w.heap.size := hlb.lt
  have HN := Lib.hid hlb
  have HA := Lib.hid ha
  have HSF := Lib.hid hS
  have HI := Lib.hid ih
  have HB := Lib.hid hb
  have ea := Ext.alloc w (.cells #[.int .i64 0, .int .i64 0, .string ⟨#[]⟩, .slice none 0 0] 84)
  clear hl hlb hlw hll hlr hS ha ih hb hne
  go_enter Try.func65, Try.ntmps65
  go_wp2_with fail
  have hb0 := Blk.new w [.int .i64 0, .int .i64 0, .string ⟨#[]⟩, .slice none 0 0] 84
  have he0 := Ext.alloc w (.cells #[.int .i64 0, .int .i64 0, .string ⟨#[]⟩, .slice none 0 0] 84)
  generalize w.alloc (.cells #[.int .i64 0, .int .i64 0, .string ⟨#[]⟩, .slice none 0 0] 84) = w0 at hb0 he0 ⊢
  have hfr : Fresh (fun b => S b ∧ b ≠ w.heap.size) w0 := fun b h => ⟨HSF.out.ext he0 b h, by have := hb0.lt; omega⟩
  have hold : ∀ b, S b ∧ b < w.heap.size → S b ∧ b ≠ w.heap.size := fun b h => ⟨h.1, by have := h.2; omega⟩
  have hI := HI.out (fun b => S b ∧ b ≠ w.heap.size) w0 (some llx) hfr ((HL.out.2.1.old.mono hold).ext he0)
  with_reducible refine hI.mono ?_
  clear hI
  rintro x w1 ⟨⟨⟨fk, fn, fs⟩, fw⟩, fa, fl, fc, q1, t1, rfl, hw1, n1, v1, l1, a1, g1, g2⟩
  have ew1 := he0.trans hw1
  have ea1 := ew1.trans (Ext.alloc w1 (.cells #[.int .i64 fk, .int .i64 fn, .string fs, .slice fa fl fc] 84))
  have HF := Lib.hid (And.intro hfr (And.intro hold (And.intro n1 (And.intro v1 (And.intro l1 a1)))))
  have HB0 := Lib.hid (hb0.ext hw1)
  clear hfr hold n1 v1 l1 a1 hb0 HI
  have hs1 : sz t1 + 1 = sz ll := by rw [← sz_lst, ← sz_lst, HF.out.2.2.2.2.1]; rfl
  have ht1 : fw + tot t1 = tot ll := by rw [← tot_lst, ← tot_lst, HF.out.2.2.2.2.1, sumW_cons]
  go_wp2_with fail
  have hb2 := Blk.new w1 [.int .i64 fk, .int .i64 fn, .string fs, .slice fa fl fc] 84
  have hw2 := Ext.alloc w1 (.cells #[.int .i64 fk, .int .i64 fn, .string fs, .slice fa fl fc] 84)
  generalize w1.alloc (.cells #[.int .i64 fk, .int .i64 fn, .string fs, .slice fa fl fc] 84) = w2 at hb2 hw2 ea1 ⊢
  obtain ⟨x0, x1, x2, x3⟩ := boxE (w1 := w) hb2
  have Ew2 := Lib.hid ea1
  have Fw2 := Lib.hid (Ext.refl w2)
  clear hb2 ea1
  refine wp_region_mixE 14 [(0, 0), (1, 3), (2, 3), (3, 3), (4, 3), (5, 0), (6, 3), (7, 3), (8, 3), (9, 0), (10, 1), (11, 2), (12, 3)] (by kernel_rfl) (fun _ _ d _ _ h => by cases d <;> exact h) ?_
  intro w3 hw3
  simp only [List.map_cons, List.map_nil, mixPick_lt _ _ 0 rfl, mixPick_lt _ _ 1 rfl, mixPick_lt _ _ 2 rfl, mixPick_lt _ _ 3 rfl, mixPick_fork, List.getD_cons_zero, List.getD_cons_succ]
  generalize yielded _ = y
  have Ew3 := Lib.hid (Ew2.out.trans hw3)
  have Fw3 := Lib.hid (Fw2.out.trans hw3)
  have tew3 := fun W (h : Ext w3 W) => Ew3.out.trans h
  have tfw3 := fun W (h : Ext w3 W) => Fw3.out.trans h
  repeat (first | (refine mx_pu (v := ?_) rfl (fun W => ?_) ?_; rotate_left; (focus (go_simp <;> with_reducible rfl)); simp only [Act.put, List.setIfInBounds_toArray, List.set_cons_zero, List.set_cons_succ]) | (refine mx_st (v := ?_) rfl (fun W hW => ?_) ?_; rotate_left; (focus (go_simp <;> with_reducible rfl)); simp only [Act.put, List.setIfInBounds_toArray, List.set_cons_zero, List.set_cons_succ]))
  refine mx_call (f := ?_) (args := ?_) rfl ?_ ?_
  rotate_left 2
  focus (go_simp <;> (refine ⟨?_, ?_⟩ <;> with_reducible rfl))
  have hI := balance_c (S := fun b => S b ∧ b ≠ w.heap.size) (w := w3) (fun b h => ⟨HSF.out.ext Ew3.out b h, by have := ((HB0.out.ext hw2).ext hw3).lt; omega⟩) (e := (⟨ek, en, es⟩, ew)) ((HF.out.2.2.2.1.ext hw2).ext hw3) ((HL.out.2.2.old.mono HF.out.2.1).ext Ew3.out) ((HL.out.1.old.mono HF.out.2.1).ext Ew3.out) (by omega) (by have := HB.out; (try simp only at this ⊢); omega) HF.out.2.2.2.2.2 HA.out.2.1 (by have := HA.out.2.2; omega) (by have := HA.out.2.2; omega)
  with_reducible refine hI.mono ?_
  clear hI
  rintro e w4 ⟨p4, t4, rfl, hw4, v4, b4⟩
  refine ⟨_, rfl, hw4, ?_⟩
  simp only [Act.put, List.setIfInBounds_toArray, List.set_cons_zero, List.set_cons_succ]
  have Ew4 := Lib.hid (Ew3.out.trans hw4)
  have Fw4 := Lib.hid (Fw3.out.trans hw4)
  have tew4 := fun W (h : Ext w4 W) => Ew4.out.trans h
  have tfw4 := fun W (h : Ext w4 W) => Fw4.out.trans h
  clear tew3 tfw3
  repeat (first | (refine mx_pu (v := ?_) rfl (fun W => ?_) ?_; rotate_left; (focus (go_simp <;> with_reducible rfl)); simp only [Act.put, List.setIfInBounds_toArray, List.set_cons_zero, List.set_cons_succ]) | (refine mx_st (v := ?_) rfl (fun W hW => ?_) ?_; rotate_left; (focus (go_simp <;> with_reducible rfl)); simp only [Act.put, List.setIfInBounds_toArray, List.set_cons_zero, List.set_cons_succ]))
  have hb4 := ((HB0.out.ext hw2).ext hw3).ext hw4
  have c0 := hb4.cell 0
  have c1 := hb4.cell 1
  have c2 := hb4.cell 2
  have c3 := hb4.cell 3
  have f0 := hb4.free 0
  have f1 := hb4.free 1
  have f2 := hb4.free 2
  have f3 := hb4.free 3
  have HB4 := Lib.hid (And.intro hb4 (And.intro v4 b4))
  clear hb4 v4 b4
  refine mx_ts (w' := ?_) rfl ?_ ?_
  rotate_left
  focus (go_simp <;> with_reducible rfl)
  clear c0 c1 c2 c3 f0 f1 f2 f3
  simp only [Act.put, List.setIfInBounds_toArray, List.set_cons_zero, List.set_cons_succ]
  repeat (first | (refine mx_pu (v := ?_) rfl (fun W => ?_) ?_; rotate_left; (focus (go_simp <;> with_reducible rfl)); simp only [Act.put, List.setIfInBounds_toArray, List.set_cons_zero, List.set_cons_succ]) | (refine mx_st (v := ?_) rfl (fun W hW => ?_) ?_; rotate_left; (focus (go_simp <;> with_reducible rfl)); simp only [Act.put, List.setIfInBounds_toArray, List.set_cons_zero, List.set_cons_succ]))
  refine mx_nil ?_
  go_wp2_with fail
  have hbt := ExtBut.set4 w4 (w.heap.size) (.int .i64 fk) (.int .i64 fn) (.string fs) (.slice fa fl fc)
  have hk := (HB4.out.1).set4 (a := .int .i64 fk) (b := .int .i64 fn) (c := .string fs) (d := .slice fa fl fc)
  generalize (((World.setCell w4 ⟨w.heap.size, 0, none⟩ (.int .i64 fk)).setCell ⟨w.heap.size, 1, none⟩ (.int .i64 fn)).setCell ⟨w.heap.size, 2, none⟩ (.string fs)).setCell ⟨w.heap.size, 3, none⟩ (.slice fa fl fc) = w9 at hk hbt ⊢
  have c0 := hk.cell 0
  have c1 := hk.cell 1
  have c2 := hk.cell 2
  have c3 := hk.cell 3
  clear hk
  refine bodyPost_ret (v := .tuple #[.agg #[.int .i64 fk, .int .i64 fn, .string fs, .slice fa fl fc], .pointer p4]) (by simp [results, Try.results65, go_sem, c0, c1, c2, c3]) rfl ?_
  obtain ⟨r1, r2, r3, r4, r5⟩ := HB4.out.2.2
  refine ⟨(⟨fk, fn, fs⟩, fw), fa, fl, fc, p4, t4, rfl, hbt.ext Ew4.out (fun b h => by omega), ?_, ?_, ?_, r2, ?_, ?_⟩
  · exact ((((HF.out.2.2.1.ext hw2).ext hw3).ext hw4).but (fun b h => h.2) hbt).mono (fun b h => h.1)
  · exact (HB4.out.2.1.but (fun b h => h.2) hbt).mono (fun b h => h.1)
  · rw [r1]
    simp only [lst]
    rw [HF.out.2.2.2.2.1]
    rfl
  · have := HA.out.2.2
    simp only [ht]
    rcases Nat.lt_or_ge (ht t1 + 1) (ht lr) with k | k
    · omega
    · have := r5 (by omega) (by omega)
      omega
  · have := HA.out.2.2
    simp only [ht]
    omega
/-- split -/
theorem split_c : ∀ (t : T) (S : Nat → Prop) (w : World) (p : Option Addr), Fresh S w → TreeV S w p t → Avl t → t ≠ .nil → sz t < 10000000000 → tot t < bigN → Calls Try.prog 65 #[.pointer p] w (SplitRes S t w)
  | .nil, _, _, _, _, _, _, h, _, _ => absurd rfl h
  | .node lb lo le .nil lr, S, w, p, hS, hp, ha, _, _, _ => split_leaf hS hp ha
  | .node lb lo le (.node b o e l r) lr, S, w, p, hS, hp, ha, _, hs, hb => split_node hS hp ha (fun h => by cases h) hs hb (fun S w p hS hp => split_c (.node b o e l r) S w p hS hp ha.1 (fun h => by cases h) (by simp only [sz] at hs ⊢; omega) (by simp only [tot] at hb ⊢; omega))
end Go.Proofs.Ytbbnpicddmplbaa

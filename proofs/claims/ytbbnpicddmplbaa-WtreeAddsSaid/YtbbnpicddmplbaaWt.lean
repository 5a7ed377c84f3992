/- Package wtree in memory: a tree's nodes, and the contracts of heightOf, sizeOf, totalOf, join, balance. -/
import Derived.Test.YtbbnpicddmplbaaAvl
import Derived.Test.YtbbnpicddmplbaaVal2
import Derived.Test.YtbbnpicddmplbaaNat2
import Derived.Test.YtbbnpicddmplbaaMix
namespace Go.Proofs.Ytbbnpicddmplbaa
open Go.RowKit Go.Deep
set_option linter.unusedVariables false
set_option linter.unusedSimpArgs false
variable {S : Nat → Prop}

/-- The cells of a node. -/
def nodeCells (e : GV × Nat) (wv lp rp : Value) (h s : Nat) (tv : Value) : List Value :=
  [.int .i64 e.1.kind, .int .i64 e.1.num, .string e.1.str, wv, lp, rp, .int .i64 h, .int .i64 s, tv]
/-- The tree t lies in w. -/
def TreeAt (S : Nat → Prop) (w : World) : T → Prop
  | .nil => True
  | .node b o e l r => (o = 0 ∧ S b) ∧ (∃ wv tv, Blk w b (nodeCells e wv l.ptr r.ptr (max (ht l) (ht r) + 1) (sz l + 1 + sz r) tv) 90 ∧ NatV S w wv e.2 ∧ NatV S w tv (tot l + e.2 + tot r)) ∧ TreeAt S w l ∧ TreeAt S w r
theorem TreeAt.ext {w w' : World} (e : Ext w w') : ∀ {t : T}, TreeAt S w t → TreeAt S w' t
  | .nil, _ => trivial
  | .node _ _ _ _ _, ⟨h0, ⟨wv, tv, h1, h2, h3⟩, h4, h5⟩ => ⟨h0, ⟨wv, tv, h1.ext e, h2.ext e, h3.ext e⟩, h4.ext e, h5.ext e⟩

/-- The pointer p leads to the tree t. -/
def TreeV (S : Nat → Prop) (w : World) (p : Option Addr) (t : T) : Prop := t.ptr = .pointer p ∧ TreeAt S w t
theorem TreeV.ext {w w' : World} (e : Ext w w') {p : Option Addr} {t : T} (h : TreeV S w p t) : TreeV S w' p t := ⟨h.1, h.2.ext e⟩
theorem TreeAt.mono {S' : Nat → Prop} {w : World} (hm : ∀ b, S b → S' b) : ∀ {t : T}, TreeAt S w t → TreeAt S' w t
  | .nil, _ => trivial
  | .node _ _ _ _ _, ⟨h0, ⟨wv, tv, h1, h2, h3⟩, h4, h5⟩ => ⟨⟨h0.1, hm _ h0.2⟩, ⟨wv, tv, h1, h2.mono hm, h3.mono hm⟩, h4.mono hm, h5.mono hm⟩
theorem TreeAt.old {w : World} : ∀ {t : T}, TreeAt S w t → TreeAt (fun b => S b ∧ b < w.heap.size) w t
  | .nil, _ => trivial
  | .node _ _ _ _ _, ⟨h0, ⟨wv, tv, h1, h2, h3⟩, h4, h5⟩ => ⟨⟨h0.1, h0.2, h1.lt⟩, ⟨wv, tv, h1, h2.old, h3.old⟩, h4.old, h5.old⟩
theorem TreeV.mono {S' : Nat → Prop} {w : World} (hm : ∀ b, S b → S' b) {p : Option Addr} {t : T} (h : TreeV S w p t) : TreeV S' w p t := ⟨h.1, h.2.mono hm⟩
theorem TreeV.old {w : World} {p : Option Addr} {t : T} (h : TreeV S w p t) : TreeV (fun b => S b ∧ b < w.heap.size) w p t := ⟨h.1, h.2.old⟩
theorem TreeAt.but {G : Nat → Prop} {w w' : World} (hg : ∀ b, S b → ¬ G b) (e : ExtBut G w w') : ∀ {t : T}, TreeAt S w t → TreeAt S w' t
  | .nil, _ => trivial
  | .node _ _ _ _ _, ⟨h0, ⟨wv, tv, h1, h2, h3⟩, h4, h5⟩ => ⟨h0, ⟨wv, tv, h1.but (hg _ h0.2) e, h2.but hg e, h3.but hg e⟩, h4.but hg e, h5.but hg e⟩
theorem TreeV.but {G : Nat → Prop} {w w' : World} (hg : ∀ b, S b → ¬ G b) (e : ExtBut G w w') {p : Option Addr} {t : T} (h : TreeV S w p t) : TreeV S w' p t := ⟨h.1, h.2.but hg e⟩
theorem TreeV.nil (w : World) : TreeV S w none .nil := ⟨rfl, trivial⟩
theorem TreeV.none_iff {w : World} {p : Option Addr} {t : T} (h : TreeV S w p t) : p = none ↔ t = .nil := by
  cases t with
  | nil => have := h.1; simp only [BT.ptr] at this; cases this; simp
  | node b o e l r => have := h.1; simp only [BT.ptr] at this; cases this; simp
theorem ptr_pointer (t : T) : ∃ p, t.ptr = .pointer p := by cases t <;> exact ⟨_, rfl⟩
/-- A node, opened: its cells, now and later, and its two subtrees. -/
theorem TreeV.open {w : World} {p : Option Addr} {b o : Nat} {e : GV × Nat} {l r : T} (h : TreeV S w p (.node b o e l r)) :
    o = 0 ∧ p = some ⟨b, 0, none⟩ ∧ ∃ wv tv lp rp, Blk w b (nodeCells e wv (.pointer lp) (.pointer rp) (max (ht l) (ht r) + 1) (sz l + 1 + sz r) tv) 90 ∧ NatV S w wv e.2 ∧ NatV S w tv (tot l + e.2 + tot r) ∧ TreeV S w lp l ∧ TreeV S w rp r := by
  obtain ⟨h1, ⟨rfl, hSb⟩, ⟨wv, tv, h2, h3, h4⟩, h5, h6⟩ := h
  obtain ⟨lp, hl⟩ := ptr_pointer l
  obtain ⟨rp, hr⟩ := ptr_pointer r
  rw [hl, hr] at h2
  refine ⟨rfl, ?_, wv, tv, lp, rp, h2, h3, h4, ⟨hl, h5⟩, ⟨hr, h6⟩⟩
  simp only [BT.ptr] at h1
  cases h1
  rfl
theorem TreeV.mk {w : World} {b : Nat} {e : GV × Nat} {l r : T} {wv tv : Value} {lp rp : Option Addr} {h s : Nat} (hSb : S b) (h2 : Blk w b (nodeCells e wv (.pointer lp) (.pointer rp) h s tv) 90) (hh : h = max (ht l) (ht r) + 1) (hs : s = sz l + 1 + sz r)
    (h3 : NatV S w wv e.2) (h4 : NatV S w tv (tot l + e.2 + tot r)) (hl : TreeV S w lp l) (hr : TreeV S w rp r) : TreeV S w (some ⟨b, 0, none⟩) (.node b 0 e l r) := by
  subst hh hs
  refine ⟨rfl, ⟨rfl, hSb⟩, ⟨wv, tv, ?_, h3, h4⟩, hl.2, hr.2⟩
  rw [hl.1, hr.1]
  exact h2
theorem slice_of_nat {w : World} {v : Value} {n : Nat} (h : NatV S w v n) : ∃ a k c, v = .slice a k c := by
  obtain ⟨l, ⟨a, c, h, _⟩, _⟩ := h
  exact ⟨a, l.length, c, h⟩
set_option maxHeartbeats 400000 in
theorem heightOf_c {w : World} {p : Option Addr} {t : T} (h : TreeV S w p t) :
    Calls Try.prog 50 #[.pointer p] w fun e w' => e = .returned (.int .i64 (ht t : Nat)) ∧ w = w' := by
  cases t with
  | nil =>
    obtain rfl : p = none := h.none_iff.2 rfl
    clear h
    go_enter Try.func50, Try.ntmps50
    go_wp2
    go_ret
    exact ⟨rfl, rfl⟩
  | node b o e l r =>
    obtain ⟨rfl, rfl, wv, tv, lp, rp, hb, -⟩ := h.open
    have hc : w.cell? ⟨b, 6, none⟩ = some (.int .i64 (ht (.node b 0 e l r) : Nat)) := hb.cell 6
    clear hb h
    go_enter Try.func50, Try.ntmps50
    go_wp2
    go_ret
    exact ⟨rfl, rfl⟩
set_option maxHeartbeats 400000 in
theorem sizeOf_c {w : World} {p : Option Addr} {t : T} (h : TreeV S w p t) :
    Calls Try.prog 43 #[.pointer p] w fun e w' => e = .returned (.int .i64 (sz t : Nat)) ∧ w = w' := by
  cases t with
  | nil =>
    obtain rfl : p = none := h.none_iff.2 rfl
    clear h
    go_enter Try.func43, Try.ntmps43
    go_wp2
    go_ret
    exact ⟨rfl, rfl⟩
  | node b o e l r =>
    obtain ⟨rfl, rfl, wv, tv, lp, rp, hb, -⟩ := h.open
    have hc : w.cell? ⟨b, 7, none⟩ = some (.int .i64 (sz (.node b 0 e l r) : Nat)) := hb.cell 7
    clear hb h
    go_enter Try.func43, Try.ntmps43
    go_wp2
    go_ret
    exact ⟨rfl, rfl⟩
set_option maxHeartbeats 400000 in
theorem totalOf_c {w : World} {p : Option Addr} {t : T} (h : TreeV S w p t) :
    ∃ a k c, NatV S w (.slice a k c) (tot t) ∧ ∀ W, Ext w W → Calls Try.prog 42 #[.pointer p] W fun e w' => e = .returned (.slice a k c) ∧ W = w' := by
  cases t with
  | nil =>
    obtain rfl : p = none := h.none_iff.2 rfl
    refine ⟨none, 0, 0, NatV.zero w, fun W _ => ?_⟩
    go_enter Try.func42, Try.ntmps42
    go_wp2
    go_ret
    exact ⟨rfl, rfl⟩
  | node b o e l r =>
    obtain ⟨rfl, rfl, wv, tv, lp, rp, hb, -, ht, -⟩ := h.open
    obtain ⟨sa, sk, sc, rfl⟩ := slice_of_nat ht
    refine ⟨sa, sk, sc, ht, fun W hW => ?_⟩
    have hc : W.cell? ⟨b, 8, none⟩ = some (.slice sa sk sc) := (hb.ext hW).cell 8
    clear hb ht hW h
    go_enter Try.func42, Try.ntmps42
    go_wp2
    go_ret
    exact ⟨rfl, rfl⟩

theorem nats3 {w : World} {a b c : Value} {x y z : Nat} (ha : NatV S w a x) (hb : NatV S w b y) (hc : NatV S w c z) : NatsV S w [a, b, c] [x, y, z] :=
  ⟨rfl, fun i hi => by
    match i, hi with
    | 0, _ => exact ha
    | 1, _ => exact hb
    | 2, _ => exact hc⟩
/-- What an entry's box holds, now and later. -/
theorem boxE {w w1 : World} {g : Nat} {k n : Int} {s : ByteArray} {wv : Value} {t : TypeId} (h : Blk w g [.int .i64 k, .int .i64 n, .string s, wv] t) :
    (∀ W, Ext w W → W.cell? ⟨g, 0, none⟩ = some (.int .i64 k)) ∧ (∀ W, Ext w W → W.cell? ⟨g, 1, none⟩ = some (.int .i64 n)) ∧ (∀ W, Ext w W → W.cell? ⟨g, 2, none⟩ = some (.string s)) ∧ (∀ W, Ext w W → W.cell? ⟨g, 3, none⟩ = some wv) :=
  ⟨fun W e => (h.ext e).cell 0, fun W e => (h.ext e).cell 1, fun W e => (h.ext e).cell 2, fun W e => (h.ext e).cell 3⟩

set_option maxHeartbeats 4000000 in
set_option maxRecDepth 100000 in
theorem join_c {w : World} (hS : Fresh S w) {lp rp : Option Addr} {l r : T} {e : GV × Nat} {wv : Value} (hl : TreeV S w lp l) (hr : TreeV S w rp r) (hw : NatV S w wv e.2) (hs : sz l + sz r < 1000000000000) (hb : tot l + e.2 + tot r < bigN) :
    Calls Try.prog 56 #[.pointer lp, .agg #[.int .i64 e.1.kind, .int .i64 e.1.num, .string e.1.str, wv], .pointer rp] w
      fun e' w' => ∃ b, e' = .returned (.pointer (some ⟨b, 0, none⟩)) ∧ Ext w w' ∧ TreeV S w' (some ⟨b, 0, none⟩) (.node b 0 e l r) := by
  obtain ⟨sa, sk, sc, rfl⟩ := slice_of_nat hw
  obtain ⟨⟨ek, en, es⟩, ew⟩ := e
  obtain ⟨la, lk, lc, ntl, ctl⟩ := totalOf_c hl
  obtain ⟨ra, rk, rc, ntr, ctr⟩ := totalOf_c hr
  have hh1 := ht_le_sz l
  have hh2 := ht_le_sz r
  have HL := Lib.hid (And.intro hl (And.intro ntl ctl))
  have HR := Lib.hid (And.intro hr (And.intro ntr ctr))
  have HW := Lib.hid hw
  have HB := Lib.hid hb
  have HSF := Lib.hid hS
  clear hl ntl ctl hr ntr ctr hw hb hS
  have HX := Lib.hid (boxE (w1 := w) (Blk.new w [.int .i64 ek, .int .i64 en, .string es, .slice sa sk sc] 84))
  have s1 : IntKind.i64.wrap ((sz l : Int) + 1) = (sz l : Int) + 1 := IntWalk.i64_in _ (by omega)
  have s2 : IntKind.i64.wrap ((sz l : Int) + 1 + (sz r : Int)) = (sz l : Int) + 1 + (sz r : Int) := IntWalk.i64_in _ (by omega)
  rcases Nat.lt_or_ge (ht l) (ht r) with hm | hm
  · have hm' : (ht l : Int) < (ht r : Int) := by omega
    have s3 : IntKind.i64.wrap ((ht r : Int) + 1) = (ht r : Int) + 1 := IntWalk.i64_in _ (by omega)
    go_enter Try.func56, Try.ntmps56
    go_wp2_with fail
    refine wp_region_mixE 27 [(0, 0), (1, 3), (2, 3), (3, 3), (5, 3), (9, 3), (12, 3), (15, 3), (17, 3), (18, 0), (19, 3), (4, 1), (6, 1), (7, 3), (8, 3), (10, 1), (11, 3), (13, 1), (14, 3), (16, 1), (20, 1), (21, 1), (22, 1), (23, 3), (24, 1), (25, 3)] (by kernel_rfl) (fun _ _ d _ _ h => by cases d <;> exact h) ?_
    intro w1 hw1
    simp only [List.map_cons, List.map_nil, mixPick_lt _ _ 0 rfl, mixPick_lt _ _ 1 rfl, mixPick_lt _ _ 2 rfl, mixPick_lt _ _ 3 rfl, mixPick_fork, List.getD_cons_zero, List.getD_cons_succ]
    generalize yielded _ = y
    obtain ⟨x0, x1, x2, x3⟩ := HX.out
    have tr1 := fun W (h : Ext w1 W) => hw1.trans h
    have hw0 : Ext w w1 := (Ext.alloc _ _).trans hw1
    repeat (first | (refine mx_pu (v := ?_) rfl (fun W => ?_) ?_; rotate_left; (focus (go_simp <;> with_reducible rfl)); simp only [Act.put, List.setIfInBounds_toArray, List.set_cons_zero, List.set_cons_succ]) | (refine mx_st (v := ?_) rfl (fun W hW => ?_) ?_; rotate_left; (focus (go_simp <;> with_reducible rfl)); simp only [Act.put, List.setIfInBounds_toArray, List.set_cons_zero, List.set_cons_succ]))
    refine mx_call (f := ?_) (args := ?_) rfl ?_ ?_
    rotate_left 2
    focus (go_simp <;> (refine ⟨?_, ?_⟩ <;> with_reducible rfl))
    refine (heightOf_c (HL.out.1.ext hw0)).mono ?_
    rintro e w' ⟨rfl, rfl⟩
    refine ⟨_, rfl, Ext.refl _, ?_⟩
    simp only [Act.put, List.setIfInBounds_toArray, List.set_cons_zero, List.set_cons_succ]
    repeat (first | (refine mx_pu (v := ?_) rfl (fun W => ?_) ?_; rotate_left; (focus (go_simp <;> with_reducible rfl)); simp only [Act.put, List.setIfInBounds_toArray, List.set_cons_zero, List.set_cons_succ]) | (refine mx_st (v := ?_) rfl (fun W hW => ?_) ?_; rotate_left; (focus (go_simp <;> with_reducible rfl)); simp only [Act.put, List.setIfInBounds_toArray, List.set_cons_zero, List.set_cons_succ]))
    refine mx_call (f := ?_) (args := ?_) rfl ?_ ?_
    rotate_left 2
    focus (go_simp <;> (refine ⟨?_, ?_⟩ <;> with_reducible rfl))
    refine (heightOf_c (HR.out.1.ext hw0)).mono ?_
    rintro e w' ⟨rfl, rfl⟩
    refine ⟨_, rfl, Ext.refl _, ?_⟩
    simp only [Act.put, List.setIfInBounds_toArray, List.set_cons_zero, List.set_cons_succ]
    repeat (first | (refine mx_pu (v := ?_) rfl (fun W => ?_) ?_; rotate_left; (focus (go_simp <;> with_reducible rfl)); simp only [Act.put, List.setIfInBounds_toArray, List.set_cons_zero, List.set_cons_succ]) | (refine mx_st (v := ?_) rfl (fun W hW => ?_) ?_; rotate_left; (focus (go_simp <;> with_reducible rfl)); simp only [Act.put, List.setIfInBounds_toArray, List.set_cons_zero, List.set_cons_succ]))
    refine mx_call (f := ?_) (args := ?_) rfl ?_ ?_
    rotate_left 2
    focus (go_simp <;> (refine ⟨?_, ?_⟩ <;> with_reducible rfl))
    refine (sizeOf_c (HL.out.1.ext hw0)).mono ?_
    rintro e w' ⟨rfl, rfl⟩
    refine ⟨_, rfl, Ext.refl _, ?_⟩
    simp only [Act.put, List.setIfInBounds_toArray, List.set_cons_zero, List.set_cons_succ]
    repeat (first | (refine mx_pu (v := ?_) rfl (fun W => ?_) ?_; rotate_left; (focus (go_simp <;> with_reducible rfl)); simp only [Act.put, List.setIfInBounds_toArray, List.set_cons_zero, List.set_cons_succ]) | (refine mx_st (v := ?_) rfl (fun W hW => ?_) ?_; rotate_left; (focus (go_simp <;> with_reducible rfl)); simp only [Act.put, List.setIfInBounds_toArray, List.set_cons_zero, List.set_cons_succ]))
    refine mx_call (f := ?_) (args := ?_) rfl ?_ ?_
    rotate_left 2
    focus (go_simp <;> (refine ⟨?_, ?_⟩ <;> with_reducible rfl))
    refine (sizeOf_c (HR.out.1.ext hw0)).mono ?_
    rintro e w' ⟨rfl, rfl⟩
    refine ⟨_, rfl, Ext.refl _, ?_⟩
    simp only [Act.put, List.setIfInBounds_toArray, List.set_cons_zero, List.set_cons_succ]
    repeat (first | (refine mx_pu (v := ?_) rfl (fun W => ?_) ?_; rotate_left; (focus (go_simp <;> with_reducible rfl)); simp only [Act.put, List.setIfInBounds_toArray, List.set_cons_zero, List.set_cons_succ]) | (refine mx_st (v := ?_) rfl (fun W hW => ?_) ?_; rotate_left; (focus (go_simp <;> with_reducible rfl)); simp only [Act.put, List.setIfInBounds_toArray, List.set_cons_zero, List.set_cons_succ]))
    refine mx_call (f := ?_) (args := ?_) rfl ?_ ?_
    rotate_left 2
    focus (go_simp <;> (refine ⟨?_, ?_⟩ <;> with_reducible rfl))
    refine (HL.out.2.2 _ hw0).mono ?_
    rintro e w' ⟨rfl, rfl⟩
    refine ⟨_, rfl, Ext.refl _, ?_⟩
    simp only [Act.put, List.setIfInBounds_toArray, List.set_cons_zero, List.set_cons_succ]
    repeat (first | (refine mx_pu (v := ?_) rfl (fun W => ?_) ?_; rotate_left; (focus (go_simp <;> with_reducible rfl)); simp only [Act.put, List.setIfInBounds_toArray, List.set_cons_zero, List.set_cons_succ]) | (refine mx_st (v := ?_) rfl (fun W hW => ?_) ?_; rotate_left; (focus (go_simp <;> with_reducible rfl)); simp only [Act.put, List.setIfInBounds_toArray, List.set_cons_zero, List.set_cons_succ]))
    refine mx_call (f := ?_) (args := ?_) rfl ?_ ?_
    rotate_left 2
    focus (go_simp <;> (refine ⟨?_, ?_⟩ <;> with_reducible rfl))
    refine (HR.out.2.2 _ hw0).mono ?_
    rintro e w' ⟨rfl, rfl⟩
    refine ⟨_, rfl, Ext.refl _, ?_⟩
    simp only [Act.put, List.setIfInBounds_toArray, List.set_cons_zero, List.set_cons_succ]
    repeat (first | (refine mx_pu (v := ?_) rfl (fun W => ?_) ?_; rotate_left; (focus (go_simp <;> with_reducible rfl)); simp only [Act.put, List.setIfInBounds_toArray, List.set_cons_zero, List.set_cons_succ]) | (refine mx_st (v := ?_) rfl (fun W hW => ?_) ?_; rotate_left; (focus (go_simp <;> with_reducible rfl)); simp only [Act.put, List.setIfInBounds_toArray, List.set_cons_zero, List.set_cons_succ]))
    refine mx_al (v := ?_) (cs := ?_) (t := ?_) rfl ?_ (fun _ h => h) ?_
    rotate_left 3
    focus (go_simp <;> (first | with_reducible rfl | (refine ⟨?_, ?_⟩ <;> with_reducible rfl)))
    intro w2 hw2 hb2
    simp only [Act.put, List.setIfInBounds_toArray, List.set_cons_zero, List.set_cons_succ]
    repeat (first | (refine mx_pu (v := ?_) rfl (fun W => ?_) ?_; rotate_left; (focus (go_simp <;> with_reducible rfl)); simp only [Act.put, List.setIfInBounds_toArray, List.set_cons_zero, List.set_cons_succ]) | (refine mx_st (v := ?_) rfl (fun W hW => ?_) ?_; rotate_left; (focus (go_simp <;> with_reducible rfl)); simp only [Act.put, List.setIfInBounds_toArray, List.set_cons_zero, List.set_cons_succ]))
    refine mx_call (f := ?_) (args := ?_) rfl ?_ ?_
    rotate_left 2
    focus (go_simp <;> (refine ⟨?_, ?_⟩ <;> with_reducible rfl))
    have hb2' : Blk w2 w1.heap.size [.slice la lk lc, .slice sa sk sc, .slice ra rk rc] _ := hb2
    with_reducible refine (sum_nat' (HSF.out.ext (hw0.trans hw2)) (n := 3) (cap := 3) (vs := [.slice la lk lc, .slice sa sk sc, .slice ra rk rc]) (ns := [tot l, ew, tot r]) rfl (hb2'.row (HSF.out.ext hw0).now) ((nats3 HL.out.2.1 HW.out HR.out.2.1).ext (hw0.trans hw2)) (by have := HB.out; simp only [List.sum_cons, List.sum_nil]; omega) (by simp)).mono ?_
    rintro e w3 ⟨tv, rfl, hw3, htv⟩
    refine ⟨_, rfl, hw3, ?_⟩
    obtain ⟨ta, tk, tc, rfl⟩ := slice_of_nat htv
    simp only [Act.put, List.setIfInBounds_toArray, List.set_cons_zero, List.set_cons_succ]
    repeat (first | (refine mx_pu (v := ?_) rfl (fun W => ?_) ?_; rotate_left; (focus (go_simp <;> with_reducible rfl)); simp only [Act.put, List.setIfInBounds_toArray, List.set_cons_zero, List.set_cons_succ]) | (refine mx_st (v := ?_) rfl (fun W hW => ?_) ?_; rotate_left; (focus (go_simp <;> with_reducible rfl)); simp only [Act.put, List.setIfInBounds_toArray, List.set_cons_zero, List.set_cons_succ]))
    refine mx_al (v := ?_) (cs := ?_) (t := ?_) rfl ?_ (fun _ h => h) ?_
    rotate_left 3
    focus (go_simp <;> (first | with_reducible rfl | (refine ⟨?_, ?_⟩ <;> with_reducible rfl)))
    intro w4 hw4 hb4
    simp only [Act.put, List.setIfInBounds_toArray, List.set_cons_zero, List.set_cons_succ]
    repeat (first | (refine mx_pu (v := ?_) rfl (fun W => ?_) ?_; rotate_left; (focus (go_simp <;> with_reducible rfl)); simp only [Act.put, List.setIfInBounds_toArray, List.set_cons_zero, List.set_cons_succ]) | (refine mx_st (v := ?_) rfl (fun W hW => ?_) ?_; rotate_left; (focus (go_simp <;> with_reducible rfl)); simp only [Act.put, List.setIfInBounds_toArray, List.set_cons_zero, List.set_cons_succ]))
    refine mx_nil ?_
    go_wp2_with fail
    go_ret
    refine ⟨w3.heap.size, rfl, ((hw0.trans hw2).trans hw3).trans hw4, ?_⟩
    have h4 : Blk w4 w3.heap.size (nodeCells (⟨ek, en, es⟩, ew) (.slice sa sk sc) (.pointer lp) (.pointer rp) (max (ht l) (ht r) + 1) (sz l + 1 + sz r) (.slice ta tk tc)) 90 := by
      have e1 : ((max (ht l) (ht r) + 1 : Nat) : Int) = (ht r : Int) + 1 := by omega
      have e2 : ((sz l + 1 + sz r : Nat) : Int) = (sz l : Int) + 1 + (sz r : Int) := by omega
      simp only [nodeCells]
      rw [e1, e2]
      exact hb4
    exact TreeV.mk (HSF.out.ext ((hw0.trans hw2).trans hw3)).now h4 rfl rfl (HW.out.ext (((hw0.trans hw2).trans hw3).trans hw4)) (by have := htv.ext hw4; simpa [Nat.add_assoc] using this) (HL.out.1.ext (((hw0.trans hw2).trans hw3).trans hw4)) (HR.out.1.ext (((hw0.trans hw2).trans hw3).trans hw4))
  · have hm' : ¬ (ht l : Int) < (ht r : Int) := by omega
    have hm2 : ¬ ht l < ht r := by omega
    have s3 : IntKind.i64.wrap ((ht l : Int) + 1) = (ht l : Int) + 1 := IntWalk.i64_in _ (by omega)
    go_enter Try.func56, Try.ntmps56
    go_wp2_with fail
    refine wp_region_mixE 27 [(0, 0), (1, 3), (2, 3), (3, 3), (5, 3), (9, 3), (12, 3), (15, 3), (17, 3), (18, 0), (19, 3), (4, 1), (6, 1), (7, 3), (8, 3), (10, 1), (11, 3), (13, 1), (14, 3), (16, 1), (20, 1), (21, 1), (22, 1), (23, 3), (24, 1), (25, 3)] (by kernel_rfl) (fun _ _ d _ _ h => by cases d <;> exact h) ?_
    intro w1 hw1
    simp only [List.map_cons, List.map_nil, mixPick_lt _ _ 0 rfl, mixPick_lt _ _ 1 rfl, mixPick_lt _ _ 2 rfl, mixPick_lt _ _ 3 rfl, mixPick_fork, List.getD_cons_zero, List.getD_cons_succ]
    generalize yielded _ = y
    obtain ⟨x0, x1, x2, x3⟩ := HX.out
    have tr1 := fun W (h : Ext w1 W) => hw1.trans h
    have hw0 : Ext w w1 := (Ext.alloc _ _).trans hw1
    repeat (first | (refine mx_pu (v := ?_) rfl (fun W => ?_) ?_; rotate_left; (focus (go_simp <;> with_reducible rfl)); simp only [Act.put, List.setIfInBounds_toArray, List.set_cons_zero, List.set_cons_succ]) | (refine mx_st (v := ?_) rfl (fun W hW => ?_) ?_; rotate_left; (focus (go_simp <;> with_reducible rfl)); simp only [Act.put, List.setIfInBounds_toArray, List.set_cons_zero, List.set_cons_succ]))
    refine mx_call (f := ?_) (args := ?_) rfl ?_ ?_
    rotate_left 2
    focus (go_simp <;> (refine ⟨?_, ?_⟩ <;> with_reducible rfl))
    refine (heightOf_c (HL.out.1.ext hw0)).mono ?_
    rintro e w' ⟨rfl, rfl⟩
    refine ⟨_, rfl, Ext.refl _, ?_⟩
    simp only [Act.put, List.setIfInBounds_toArray, List.set_cons_zero, List.set_cons_succ]
    repeat (first | (refine mx_pu (v := ?_) rfl (fun W => ?_) ?_; rotate_left; (focus (go_simp <;> with_reducible rfl)); simp only [Act.put, List.setIfInBounds_toArray, List.set_cons_zero, List.set_cons_succ]) | (refine mx_st (v := ?_) rfl (fun W hW => ?_) ?_; rotate_left; (focus (go_simp <;> with_reducible rfl)); simp only [Act.put, List.setIfInBounds_toArray, List.set_cons_zero, List.set_cons_succ]))
    refine mx_call (f := ?_) (args := ?_) rfl ?_ ?_
    rotate_left 2
    focus (go_simp <;> (refine ⟨?_, ?_⟩ <;> with_reducible rfl))
    refine (heightOf_c (HR.out.1.ext hw0)).mono ?_
    rintro e w' ⟨rfl, rfl⟩
    refine ⟨_, rfl, Ext.refl _, ?_⟩
    simp only [Act.put, List.setIfInBounds_toArray, List.set_cons_zero, List.set_cons_succ]
    repeat (first | (refine mx_pu (v := ?_) rfl (fun W => ?_) ?_; rotate_left; (focus (go_simp <;> with_reducible rfl)); simp only [Act.put, List.setIfInBounds_toArray, List.set_cons_zero, List.set_cons_succ]) | (refine mx_st (v := ?_) rfl (fun W hW => ?_) ?_; rotate_left; (focus (go_simp <;> with_reducible rfl)); simp only [Act.put, List.setIfInBounds_toArray, List.set_cons_zero, List.set_cons_succ]))
    refine mx_call (f := ?_) (args := ?_) rfl ?_ ?_
    rotate_left 2
    focus (go_simp <;> (refine ⟨?_, ?_⟩ <;> with_reducible rfl))
    refine (sizeOf_c (HL.out.1.ext hw0)).mono ?_
    rintro e w' ⟨rfl, rfl⟩
    refine ⟨_, rfl, Ext.refl _, ?_⟩
    simp only [Act.put, List.setIfInBounds_toArray, List.set_cons_zero, List.set_cons_succ]
    repeat (first | (refine mx_pu (v := ?_) rfl (fun W => ?_) ?_; rotate_left; (focus (go_simp <;> with_reducible rfl)); simp only [Act.put, List.setIfInBounds_toArray, List.set_cons_zero, List.set_cons_succ]) | (refine mx_st (v := ?_) rfl (fun W hW => ?_) ?_; rotate_left; (focus (go_simp <;> with_reducible rfl)); simp only [Act.put, List.setIfInBounds_toArray, List.set_cons_zero, List.set_cons_succ]))
    refine mx_call (f := ?_) (args := ?_) rfl ?_ ?_
    rotate_left 2
    focus (go_simp <;> (refine ⟨?_, ?_⟩ <;> with_reducible rfl))
    refine (sizeOf_c (HR.out.1.ext hw0)).mono ?_
    rintro e w' ⟨rfl, rfl⟩
    refine ⟨_, rfl, Ext.refl _, ?_⟩
    simp only [Act.put, List.setIfInBounds_toArray, List.set_cons_zero, List.set_cons_succ]
    repeat (first | (refine mx_pu (v := ?_) rfl (fun W => ?_) ?_; rotate_left; (focus (go_simp <;> with_reducible rfl)); simp only [Act.put, List.setIfInBounds_toArray, List.set_cons_zero, List.set_cons_succ]) | (refine mx_st (v := ?_) rfl (fun W hW => ?_) ?_; rotate_left; (focus (go_simp <;> with_reducible rfl)); simp only [Act.put, List.setIfInBounds_toArray, List.set_cons_zero, List.set_cons_succ]))
    refine mx_call (f := ?_) (args := ?_) rfl ?_ ?_
    rotate_left 2
    focus (go_simp <;> (refine ⟨?_, ?_⟩ <;> with_reducible rfl))
    refine (HL.out.2.2 _ hw0).mono ?_
    rintro e w' ⟨rfl, rfl⟩
    refine ⟨_, rfl, Ext.refl _, ?_⟩
    simp only [Act.put, List.setIfInBounds_toArray, List.set_cons_zero, List.set_cons_succ]
    repeat (first | (refine mx_pu (v := ?_) rfl (fun W => ?_) ?_; rotate_left; (focus (go_simp <;> with_reducible rfl)); simp only [Act.put, List.setIfInBounds_toArray, List.set_cons_zero, List.set_cons_succ]) | (refine mx_st (v := ?_) rfl (fun W hW => ?_) ?_; rotate_left; (focus (go_simp <;> with_reducible rfl)); simp only [Act.put, List.setIfInBounds_toArray, List.set_cons_zero, List.set_cons_succ]))
    refine mx_call (f := ?_) (args := ?_) rfl ?_ ?_
    rotate_left 2
    focus (go_simp <;> (refine ⟨?_, ?_⟩ <;> with_reducible rfl))
    refine (HR.out.2.2 _ hw0).mono ?_
    rintro e w' ⟨rfl, rfl⟩
    refine ⟨_, rfl, Ext.refl _, ?_⟩
    simp only [Act.put, List.setIfInBounds_toArray, List.set_cons_zero, List.set_cons_succ]
    repeat (first | (refine mx_pu (v := ?_) rfl (fun W => ?_) ?_; rotate_left; (focus (go_simp <;> with_reducible rfl)); simp only [Act.put, List.setIfInBounds_toArray, List.set_cons_zero, List.set_cons_succ]) | (refine mx_st (v := ?_) rfl (fun W hW => ?_) ?_; rotate_left; (focus (go_simp <;> with_reducible rfl)); simp only [Act.put, List.setIfInBounds_toArray, List.set_cons_zero, List.set_cons_succ]))
    refine mx_al (v := ?_) (cs := ?_) (t := ?_) rfl ?_ (fun _ h => h) ?_
    rotate_left 3
    focus (go_simp <;> (first | with_reducible rfl | (refine ⟨?_, ?_⟩ <;> with_reducible rfl)))
    intro w2 hw2 hb2
    simp only [Act.put, List.setIfInBounds_toArray, List.set_cons_zero, List.set_cons_succ]
    repeat (first | (refine mx_pu (v := ?_) rfl (fun W => ?_) ?_; rotate_left; (focus (go_simp <;> with_reducible rfl)); simp only [Act.put, List.setIfInBounds_toArray, List.set_cons_zero, List.set_cons_succ]) | (refine mx_st (v := ?_) rfl (fun W hW => ?_) ?_; rotate_left; (focus (go_simp <;> with_reducible rfl)); simp only [Act.put, List.setIfInBounds_toArray, List.set_cons_zero, List.set_cons_succ]))
    refine mx_call (f := ?_) (args := ?_) rfl ?_ ?_
    rotate_left 2
    focus (go_simp <;> (refine ⟨?_, ?_⟩ <;> with_reducible rfl))
    have hb2' : Blk w2 w1.heap.size [.slice la lk lc, .slice sa sk sc, .slice ra rk rc] _ := hb2
    with_reducible refine (sum_nat' (HSF.out.ext (hw0.trans hw2)) (n := 3) (cap := 3) (vs := [.slice la lk lc, .slice sa sk sc, .slice ra rk rc]) (ns := [tot l, ew, tot r]) rfl (hb2'.row (HSF.out.ext hw0).now) ((nats3 HL.out.2.1 HW.out HR.out.2.1).ext (hw0.trans hw2)) (by have := HB.out; simp only [List.sum_cons, List.sum_nil]; omega) (by simp)).mono ?_
    rintro e w3 ⟨tv, rfl, hw3, htv⟩
    refine ⟨_, rfl, hw3, ?_⟩
    obtain ⟨ta, tk, tc, rfl⟩ := slice_of_nat htv
    simp only [Act.put, List.setIfInBounds_toArray, List.set_cons_zero, List.set_cons_succ]
    repeat (first | (refine mx_pu (v := ?_) rfl (fun W => ?_) ?_; rotate_left; (focus (go_simp <;> with_reducible rfl)); simp only [Act.put, List.setIfInBounds_toArray, List.set_cons_zero, List.set_cons_succ]) | (refine mx_st (v := ?_) rfl (fun W hW => ?_) ?_; rotate_left; (focus (go_simp <;> with_reducible rfl)); simp only [Act.put, List.setIfInBounds_toArray, List.set_cons_zero, List.set_cons_succ]))
    refine mx_al (v := ?_) (cs := ?_) (t := ?_) rfl ?_ (fun _ h => h) ?_
    rotate_left 3
    focus (go_simp <;> (first | with_reducible rfl | (refine ⟨?_, ?_⟩ <;> with_reducible rfl)))
    intro w4 hw4 hb4
    simp only [Act.put, List.setIfInBounds_toArray, List.set_cons_zero, List.set_cons_succ]
    repeat (first | (refine mx_pu (v := ?_) rfl (fun W => ?_) ?_; rotate_left; (focus (go_simp <;> with_reducible rfl)); simp only [Act.put, List.setIfInBounds_toArray, List.set_cons_zero, List.set_cons_succ]) | (refine mx_st (v := ?_) rfl (fun W hW => ?_) ?_; rotate_left; (focus (go_simp <;> with_reducible rfl)); simp only [Act.put, List.setIfInBounds_toArray, List.set_cons_zero, List.set_cons_succ]))
    refine mx_nil ?_
    go_wp2_with fail
    go_ret
    refine ⟨w3.heap.size, rfl, ((hw0.trans hw2).trans hw3).trans hw4, ?_⟩
    have h4 : Blk w4 w3.heap.size (nodeCells (⟨ek, en, es⟩, ew) (.slice sa sk sc) (.pointer lp) (.pointer rp) (max (ht l) (ht r) + 1) (sz l + 1 + sz r) (.slice ta tk tc)) 90 := by
      have e1 : ((max (ht l) (ht r) + 1 : Nat) : Int) = (ht l : Int) + 1 := by omega
      have e2 : ((sz l + 1 + sz r : Nat) : Int) = (sz l : Int) + 1 + (sz r : Int) := by omega
      simp only [nodeCells]
      rw [e1, e2]
      exact hb4
    exact TreeV.mk (HSF.out.ext ((hw0.trans hw2).trans hw3)).now h4 rfl rfl (HW.out.ext (((hw0.trans hw2).trans hw3).trans hw4)) (by have := htv.ext hw4; simpa [Nat.add_assoc] using this) (HL.out.1.ext (((hw0.trans hw2).trans hw3).trans hw4)) (HR.out.1.ext (((hw0.trans hw2).trans hw3).trans hw4))
end Go.Proofs.Ytbbnpicddmplbaa

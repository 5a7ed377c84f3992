/- Package wtree: Check. -/
import Derived.Test.YtbbnpicddmplbaaWt14
namespace Go.Proofs.Ytbbnpicddmplbaa
open Go.RowKit Go.Deep
set_option linter.unusedVariables false
set_option linter.unusedSimpArgs false
variable {S : Nat → Prop}


/-- The value visited last. -/
def lastOf (prev : Option GV) (l : List (GV × Nat)) : Option GV := match l.getLast? with
  | some x => some x.1
  | none => prev
theorem lastOf_nil (prev : Option GV) : lastOf prev [] = prev := rfl
theorem lastOf_step (prev : Option GV) (L R : List (GV × Nat)) (e : GV × Nat) : lastOf prev (L ++ e :: R) = lastOf (some e.1) R := by
  unfold lastOf
  rw [List.getLast?_append, List.getLast?_cons]
  cases R.getLast? <;> simp
theorem last_lt {d : Bool} {prev : Option GV} {L R : List (GV × Nat)} {e : GV × Nat} (hs : Sorted d (L ++ e :: R)) (hp : ∀ v, prev = some v → ∀ x ∈ L ++ e :: R, tcmp d v x.1 = -1) : ∀ v, lastOf prev L = some v → tcmp d v e.1 = -1 := by
  intro v hv
  unfold lastOf at hv
  cases hl : L.getLast? with
  | none => rw [hl] at hv; exact hp v hv e (List.mem_append_right _ (List.mem_cons_self ..))
  | some x =>
    rw [hl] at hv
    cases hv
    exact sorted_left hs x (List.mem_of_getLast? hl)
/-- The pointer lp leads to the value visited last. -/
def LastOK (S : Nat → Prop) (w : World) (lp : Option Addr) (prev : Option GV) : Prop :=
  (lp = none ∧ prev = none) ∨ ∃ b v, lp = some ⟨b, 0, none⟩ ∧ prev = some v ∧ S b ∧ w.cell? ⟨b, 0, none⟩ = some (.int .i64 v.kind) ∧ w.cell? ⟨b, 1, none⟩ = some (.int .i64 v.num) ∧ w.cell? ⟨b, 2, none⟩ = some (.string v.str)
theorem LastOK.but {G : Nat → Prop} {w w' : World} {lp : Option Addr} {prev : Option GV} (h : LastOK S w lp prev) (hg : ∀ b, S b → ¬ G b) (e : ExtBut G w w') : LastOK S w' lp prev := by
  rcases h with h | ⟨b, v, h1, h2, h3, h4, h5, h6⟩
  · exact .inl h
  · exact .inr ⟨b, v, h1, h2, h3, e.cell (hg b h3) h4, e.cell (hg b h3) h5, e.cell (hg b h3) h6⟩
/-- All values may stand in a tree. -/
def GoodL (l : List (GV × Nat)) : Prop := ∀ x ∈ l, x.1.valid = true ∧ 0 < x.2
/-- What the closure of Check hands back. -/
def VisRes (S : Nat → Prop) (gl : Nat) (r : Option GV) (w : World) (x : Ending) (w' : World) : Prop :=
  (∃ v, x = .returned v) ∧ ExtBut (fun b => b = gl) w w' ∧ ∃ lp', Blk w' gl [.pointer lp'] 25 ∧ LastOK S w' lp' r
/-- What the closure of Check says of a subtree. -/
def VisSaid (S : Nat → Prop) (d : Bool) (rp : Option Addr) (gc gv gl gt : Nat) (u : T) : Prop :=
  ∀ (w : World) (p lp : Option Addr) (prev : Option GV), Fresh S w → TreeV S w p u → Avl u → Sorted d (lst u) → GoodL (lst u) → sz u < 10000000000 → tot u < bigN →
    Blk w gc [.bool true] 4 → Blk w gv [.func (.func 55) #[] #[.pointer (some ⟨gc, 0, none⟩), .pointer (some ⟨gv, 0, none⟩), .pointer (some ⟨gl, 0, none⟩), .pointer (some ⟨gt, 0, none⟩)]] 96 →
    Blk w gl [.pointer lp] 25 → Blk w gt [.bool d, .pointer rp] 27 → LastOK S w lp prev → (∀ v, prev = some v → ∀ x ∈ lst u, tcmp d v x.1 = -1) →
    Calls Try.prog 55 #[.pointer p, .pointer (some ⟨gc, 0, none⟩), .pointer (some ⟨gv, 0, none⟩), .pointer (some ⟨gl, 0, none⟩), .pointer (some ⟨gt, 0, none⟩)] w (VisRes S gl (lastOf prev (lst u)) w)
set_option maxHeartbeats 400000 in
theorem vis_nil (d : Bool) (rp : Option Addr) (gc gv gl gt : Nat) : VisSaid S d rp gc gv gl gt .nil := by
  intro w p lp prev hS hp _ _ _ _ _ h1 h2 h3 h4 hl _
  obtain rfl : p = none := hp.none_iff.2 rfl
  have HL := Lib.hid (And.intro h3 hl)
  clear hS hp h1 h2 h3 h4 hl
  go_enter Try.func55, Try.ntmps55
  go_wp2_with fail
  go_end0
  exact ⟨⟨_, rfl⟩, ExtBut.refl _, lp, HL.out.1, HL.out.2⟩
set_option maxHeartbeats 4000000 in
set_option maxRecDepth 100000 in
theorem vis_node (d : Bool) (rp : Option Addr) (gc gv gl gt b o : Nat) (e : GV × Nat) (l r : T) (hne : (gc ≠ gl ∧ gv ≠ gl ∧ gt ≠ gl) ∧ ∀ b, S b → b ≠ gl) (il : VisSaid S d rp gc gv gl gt l) (ir : VisSaid S d rp gc gv gl gt r) : VisSaid S d rp gc gv gl gt (.node b o e l r) := by
  intro w p lp prev hS hp ha hso hgood hs hb h1 h2 h3 h4 hl hprev
  obtain ⟨⟨ek, en, es⟩, ew⟩ := e
  obtain ⟨rfl, rfl, wv, tv, llp, lrp, hnb, hnw, hnt, hll, hlr⟩ := hp.open
  obtain ⟨sa, sk, sc, rfl⟩ := slice_of_nat hnw
  obtain ⟨ta, tk, tc, rfl⟩ := slice_of_nat hnt
  have HN := Lib.hid (And.intro hnb (And.intro hnw (And.intro hnt (And.intro hll hlr))))
  have HA := Lib.hid (And.intro ha (And.intro hso (And.intro hgood (And.intro hb hS))))
  have HP := Lib.hid (And.intro hl hprev)
  have HK := Lib.hid (And.intro h1 (And.intro h2 (And.intro h3 h4)))
  have HI := Lib.hid (And.intro hne (And.intro il ir))
  have c1 := h1.cell 0
  have hlt3 := h3.lt
  have hSb := hp.2.1.2
  have HSb := Lib.hid hSb
  clear hp hnb hnw hnt hll hlr ha hso hgood hb hS hl hprev h1 h2 h3 h4 hne il ir hSb
  have hrun : ∀ (args : Array Value) (w : World), (callFunc 55 args).run Try.prog w = .ok (.enter 55 args) w := fun args w => by kernel_rfl
  go_enter Try.func55, Try.ntmps55
  go_wp2_with fail
  refine wp_region_mixB (fun b => b = gl) 7 [(0, 0), (1, 3), (2, 3), (3, 3), (4, 0), (5, 1)] (by kernel_rfl) (fun _ _ d _ _ h => by cases d <;> exact h) ?_
  intro w1 hw1
  simp only [List.map_cons, List.map_nil, mixPick_lt _ _ 0 rfl, mixPick_lt _ _ 1 rfl, mixPick_lt _ _ 2 rfl, mixPick_lt _ _ 3 rfl, mixPick_fork, List.getD_cons_zero, List.getD_cons_succ]
  generalize yielded _ = y
  have z2 : ∀ W, ExtBut (fun b => b = gl) w1 W → W.cell? ⟨gv, 0, none⟩ = some (.func (.func 55) #[] #[.pointer (some ⟨gc, 0, none⟩), .pointer (some ⟨gv, 0, none⟩), .pointer (some ⟨gl, 0, none⟩), .pointer (some ⟨gt, 0, none⟩)]) := fun W h => ((HK.out.2.1.ext hw1).but HI.out.1.1.2.1 h).cell 0
  have z4 : ∀ W, ExtBut (fun b => b = gl) w1 W → W.cell? ⟨b, 4, none⟩ = some (.pointer llp) := fun W h => ((HN.out.1.ext hw1).but (HI.out.1.2 b HSb.out) h).cell 4
  repeat (first | (refine mx_pu (v := ?_) rfl (fun W => ?_) ?_; rotate_left; (focus (go_simp <;> with_reducible rfl)); simp only [Act.put, List.setIfInBounds_toArray, List.set_cons_zero, List.set_cons_succ]) | (refine mx_st (v := ?_) rfl (fun W hW => ?_) ?_; rotate_left; (focus (go_simp <;> with_reducible rfl)); simp only [Act.put, List.setIfInBounds_toArray, List.set_cons_zero, List.set_cons_succ]))
  refine mx_call (f := ?_) (args := ?_) rfl ?_ ?_
  rotate_left 2
  focus (go_simp <;> (refine ⟨?_, ?_⟩ <;> with_reducible rfl))
  have hI := HI.out.2.1 w1 llp lp prev (HA.out.2.2.2.2.ext hw1) (HN.out.2.2.2.1.ext hw1) HA.out.1.1 HA.out.2.1.left (fun x hx => HA.out.2.2.1 x (List.mem_append_left _ hx)) (by simp only [sz] at hs; omega) (by have := HA.out.2.2.2.1; simp only [tot] at this; omega) (HK.out.1.ext hw1) (HK.out.2.1.ext hw1) (HK.out.2.2.1.ext hw1) (HK.out.2.2.2.ext hw1) (HP.out.1.but HI.out.1.2 (hw1.but _)) (fun v hv x hx => HP.out.2 v hv x (List.mem_append_left _ hx))
  with_reducible refine hI.mono ?_
  clear hI
  rintro x w2 ⟨⟨xv, rfl⟩, hx2, lp2, hb2, hl2⟩
  refine ⟨_, rfl, hx2, ?_⟩
  simp only [Act.put, List.setIfInBounds_toArray, List.set_cons_zero, List.set_cons_succ]
  refine mx_nil ?_
  have X := Lib.hid ((hw1.but (fun b => b = gl)).trans hx2)
  clear z2 z4 hx2 hw1
  have n2 := HN.out.1.but (HI.out.1.2 b HSb.out) X.out
  obtain ⟨y0, y1, y2, y3, y4, y5, y6, y7, y8⟩ := nodeF n2
  have hS2 : Fresh S w2 := fun b hb => HA.out.2.2.2.2 b (Nat.le_trans X.out.1 hb)
  have HN2 := Lib.hid (And.intro n2 (And.intro (HN.out.2.1.but HI.out.1.2 X.out) (And.intro (HN.out.2.2.1.but HI.out.1.2 X.out) (And.intro (HN.out.2.2.2.1.but HI.out.1.2 X.out) (HN.out.2.2.2.2.but HI.out.1.2 X.out)))))
  have HK2 := Lib.hid (And.intro (HK.out.1.but HI.out.1.1.1 X.out) (And.intro (HK.out.2.1.but HI.out.1.1.2.1 X.out) (And.intro hb2 (HK.out.2.2.2.but HI.out.1.1.2.2 X.out))))
  have HP2 := Lib.hid (And.intro hS2 (And.intro hl2 (last_lt HA.out.2.1 HP.out.2)))
  clear n2 hS2 hb2 hl2
  have Ew2 := Lib.hid (Ext.refl w2)
  have hh1 := ht_le_sz l
  have hh2 := ht_le_sz r
  have hs' : sz l + 1 + sz r < 10000000000 := hs
  have hbal := HA.out.1.2.2
  go_wp2_with fail
  refine wp_region_mixE 15 [(0, 3), (1, 3), (2, 3), (3, 0), (4, 3), (5, 3), (6, 3), (7, 0), (8, 3), (9, 3), (10, 3), (11, 0), (12, 1), (13, 3)] (by kernel_rfl) (fun _ _ d _ _ h => by cases d <;> exact h) ?_
  intro w3 hw3
  simp only [List.map_cons, List.map_nil, mixPick_lt _ _ 0 rfl, mixPick_lt _ _ 1 rfl, mixPick_lt _ _ 2 rfl, mixPick_lt _ _ 3 rfl, mixPick_fork, List.getD_cons_zero, List.getD_cons_succ]
  generalize yielded _ = y
  have Ew3 := Lib.hid (Ew2.out.trans hw3)
  have tew3 := fun W (h : Ext w3 W) => Ew3.out.trans h
  repeat (first | (refine mx_pu (v := ?_) rfl (fun W => ?_) ?_; rotate_left; (focus (go_simp <;> with_reducible rfl)); simp only [Act.put, List.setIfInBounds_toArray, List.set_cons_zero, List.set_cons_succ]) | (refine mx_st (v := ?_) rfl (fun W hW => ?_) ?_; rotate_left; (focus (go_simp <;> with_reducible rfl)); simp only [Act.put, List.setIfInBounds_toArray, List.set_cons_zero, List.set_cons_succ]))
  refine mx_call (f := ?_) (args := ?_) rfl ?_ ?_
  rotate_left 2
  focus (go_simp <;> (refine ⟨?_, ?_⟩ <;> with_reducible rfl))
  have hI := join_c (HP2.out.1.ext Ew3.out) (e := (⟨ek, en, es⟩, ew)) (HN2.out.2.2.2.1.ext Ew3.out) (HN2.out.2.2.2.2.ext Ew3.out) (HN2.out.2.1.ext Ew3.out) (by omega) HA.out.2.2.2.1
  with_reducible refine hI.mono ?_
  clear hI
  rintro x w4 ⟨jb, rfl, hw4, jt⟩
  refine ⟨_, rfl, hw4, ?_⟩
  obtain ⟨-, -, jwv, jtv, jlp, jrp, hjb, -, hjt, -, -⟩ := jt.open
  obtain ⟨ja, jk, jc, rfl⟩ := slice_of_nat hjt
  obtain ⟨-, -, -, -, -, -, u6, u7, u8⟩ := nodeF hjb
  have HJ := Lib.hid hjt
  clear jt hjb hjt
  simp only [Act.put, List.setIfInBounds_toArray, List.set_cons_zero, List.set_cons_succ]
  have Ew4 := Lib.hid (Ew3.out.trans hw4)
  have tew4 := fun W (h : Ext w4 W) => Ew4.out.trans h
  clear tew3
  repeat (first | (refine mx_pu (v := ?_) rfl (fun W => ?_) ?_; rotate_left; (focus (go_simp <;> with_reducible rfl)); simp only [Act.put, List.setIfInBounds_toArray, List.set_cons_zero, List.set_cons_succ]) | (refine mx_st (v := ?_) rfl (fun W hW => ?_) ?_; rotate_left; (focus (go_simp <;> with_reducible rfl)); simp only [Act.put, List.setIfInBounds_toArray, List.set_cons_zero, List.set_cons_succ]))
  refine mx_nil ?_
  have Fw4 := Lib.hid (Ext.refl w4)
  go_wp2_with fail
  refine wp_region_mixE 13 [(0, 3), (1, 3), (2, 3), (3, 0), (5, 3), (6, 3), (7, 3), (8, 0), (4, 1), (9, 1), (10, 3), (11, 3)] (by kernel_rfl) (fun _ _ d _ _ h => by cases d <;> exact h) ?_
  intro w5 hw5
  simp only [List.map_cons, List.map_nil, mixPick_lt _ _ 0 rfl, mixPick_lt _ _ 1 rfl, mixPick_lt _ _ 2 rfl, mixPick_lt _ _ 3 rfl, mixPick_fork, List.getD_cons_zero, List.getD_cons_succ]
  generalize yielded _ = y
  have Ew5 := Lib.hid (Ew4.out.trans hw5)
  have tew5 := fun W (h : Ext w5 W) => Ew5.out.trans h
  clear tew4
  have tg5 := fun W (h : Ext w5 W) => hw5.trans h
  have s1 : IntKind.i64.wrap ((ht l : Int) - (ht r : Int)) = (ht l : Int) - (ht r : Int) := IntWalk.i64_in _ (by omega)
  repeat (first | (refine mx_pu (v := ?_) rfl (fun W => ?_) ?_; rotate_left; (focus (go_simp <;> with_reducible rfl)); simp only [Act.put, List.setIfInBounds_toArray, List.set_cons_zero, List.set_cons_succ]) | (refine mx_st (v := ?_) rfl (fun W hW => ?_) ?_; rotate_left; (focus (go_simp <;> with_reducible rfl)); simp only [Act.put, List.setIfInBounds_toArray, List.set_cons_zero, List.set_cons_succ]))
  refine mx_call (f := ?_) (args := ?_) rfl ?_ ?_
  rotate_left 2
  focus (go_simp <;> (refine ⟨?_, ?_⟩ <;> with_reducible rfl))
  have hI := heightOf_c (HN2.out.2.2.2.1.ext Ew5.out)
  with_reducible refine hI.mono ?_
  clear hI
  rintro x w' ⟨rfl, rfl⟩
  refine ⟨_, rfl, Ext.refl _, ?_⟩
  simp only [Act.put, List.setIfInBounds_toArray, List.set_cons_zero, List.set_cons_succ]
  refine mx_call (f := ?_) (args := ?_) rfl ?_ ?_
  rotate_left 2
  focus (go_simp <;> (refine ⟨?_, ?_⟩ <;> with_reducible rfl))
  have hI := heightOf_c (HN2.out.2.2.2.2.ext Ew5.out)
  with_reducible refine hI.mono ?_
  clear hI
  rintro x w' ⟨rfl, rfl⟩
  refine ⟨_, rfl, Ext.refl _, ?_⟩
  simp only [Act.put, List.setIfInBounds_toArray, List.set_cons_zero, List.set_cons_succ]
  repeat (first | (refine mx_pu (v := ?_) rfl (fun W => ?_) ?_; rotate_left; (focus (go_simp <;> with_reducible rfl)); simp only [Act.put, List.setIfInBounds_toArray, List.set_cons_zero, List.set_cons_succ]) | (refine mx_st (v := ?_) rfl (fun W hW => ?_) ?_; rotate_left; (focus (go_simp <;> with_reducible rfl)); simp only [Act.put, List.setIfInBounds_toArray, List.set_cons_zero, List.set_cons_succ]))
  refine mx_nil ?_
  have ew5 := Ew5.out
  have fw5 := hw5
  go_wp2_with fail
  have hgd := HA.out.2.2.1 (⟨ek, en, es⟩, ew) (List.mem_append_right _ (List.mem_cons_self ..))
  have hI := value_valid ⟨ek, en, es⟩ w5
  rw [hgd.1] at hI
  with_reducible refine hI.mono ?_
  clear hI
  rintro x w6 ⟨rfl, hw6⟩
  have ew6 := ew5.trans hw6
  have fw6 := fw5.trans hw6
  clear ew5 fw5
  go_wp2_with fail
  obtain ⟨ln, dn, nn, en'⟩ := HN2.out.2.1
  have hI := cmp_nat (S := S) (dn.ext ew6) (u := .slice none 0 0) (m := []) ⟨none, 0, rfl, by simp, by simp, fun _ => rfl, Digs.nil, .inl rfl⟩
  have hc : cmpI ((nval ln : Nat) : Int) ((nval [] : Nat) : Int) = 1 := by rw [en']; exact cmpI_gt (by have := hgd.2; simp only [nval]; omega)
  rw [hc] at hI
  clear hc dn nn en' ln hgd
  with_reducible refine hI.mono ?_
  clear hI
  rintro x w7 ⟨rfl, nq, rfl⟩
  have ew7 := ew6.trans (Ext.drewN w6 nq)
  have fw7 := fw6.trans (Ext.drewN w6 nq)
  generalize w6.drewN nq = w7 at ew7 fw7 ⊢
  clear ew6 fw6 hw6 tg5 hw5
  obtain ⟨v0, -⟩ := one_cell HK2.out.2.2.1
  obtain ⟨q0, q1⟩ := boxT HK2.out.2.2.2
  have Ew7 := Lib.hid ew7
  have Fw7 := Lib.hid fw7
  go_wp2_with fail
  rcases HP2.out.2.1 with ⟨h1, h2⟩ | ⟨pb, pv, h1, h2, h3, h4, h5, h6⟩
  · subst h1
    refine wp_region_mixE 19 [(0, 0), (1, 3), (2, 3), (3, 0), (4, 0), (5, 3), (6, 3), (7, 3), (8, 0), (9, 3), (10, 3), (11, 3), (12, 3), (13, 0), (14, 1), (15, 3), (16, 3), (17, 3)] (by kernel_rfl) (fun _ _ d _ _ h => by cases d <;> exact h) ?_
    intro w8 hw8
    simp only [List.map_cons, List.map_nil, mixPick_lt _ _ 0 rfl, mixPick_lt _ _ 1 rfl, mixPick_lt _ _ 2 rfl, mixPick_lt _ _ 3 rfl, mixPick_fork, List.getD_cons_zero, List.getD_cons_succ]
    have Ew8 := Lib.hid (Ew7.out.trans hw8)
    have Fw8 := Lib.hid (Fw7.out.trans hw8)
    have tew8 := fun W (h : Ext w8 W) => Ew8.out.trans h
    have tfw8 := fun W (h : Ext w8 W) => Fw8.out.trans h
    repeat (first | (refine mx_pu (v := ?_) rfl (fun W => ?_) ?_; rotate_left; (focus (go_simp <;> with_reducible rfl)); simp only [Act.put, List.setIfInBounds_toArray, List.set_cons_zero, List.set_cons_succ]) | (refine mx_no3 rfl ?_; simp only [Act.put, List.setIfInBounds_toArray, List.set_cons_zero, List.set_cons_succ]) | (refine mx_st (v := ?_) rfl (fun W hW => ?_) ?_; rotate_left; (focus (go_simp <;> with_reducible rfl)); simp only [Act.put, List.setIfInBounds_toArray, List.set_cons_zero, List.set_cons_succ]) | (refine mx_no0 rfl ?_; simp only [Act.put, List.setIfInBounds_toArray, List.set_cons_zero, List.set_cons_succ]) | (refine mx_no1 Ext.grows rfl ?_; simp only [Act.put, List.setIfInBounds_toArray, List.set_cons_zero, List.set_cons_succ]))
    refine mx_nil ?_
    clear tew8 tfw8
    have ewr := Ew8.out
    have fwr := Fw8.out
    go_wp2_with fail
    refine wp_region_mixE 34 [(0, 3), (1, 3), (2, 3), (3, 0), (4, 3), (5, 3), (6, 3), (7, 0), (8, 3), (9, 3), (10, 3), (11, 3), (12, 3), (13, 0), (14, 3), (15, 3), (16, 3), (17, 0), (18, 3), (19, 3), (20, 3), (21, 3), (22, 3), (23, 3), (24, 0), (25, 3), (26, 3), (27, 3), (28, 0), (29, 1), (30, 3), (31, 3), (32, 3)] (by kernel_rfl) (fun _ _ d _ _ h => by cases d <;> exact h) ?_
    intro w10 hw10
    simp only [List.map_cons, List.map_nil, mixPick_lt _ _ 0 rfl, mixPick_lt _ _ 1 rfl, mixPick_lt _ _ 2 rfl, mixPick_lt _ _ 3 rfl, mixPick_fork, List.getD_cons_zero, List.getD_cons_succ]
    have Ew10 := Lib.hid (Ew8.out.trans hw10)
    have Fw10 := Lib.hid (Fw8.out.trans hw10)
    have tew10 := fun W (h : Ext w10 W) => Ew10.out.trans h
    have tfw10 := fun W (h : Ext w10 W) => Fw10.out.trans h
    clear ewr fwr
    repeat (first | (refine mx_pu (v := ?_) rfl (fun W => ?_) ?_; rotate_left; (focus (go_simp <;> with_reducible rfl)); simp only [Act.put, List.setIfInBounds_toArray, List.set_cons_zero, List.set_cons_succ]) | (refine mx_no3 rfl ?_; simp only [Act.put, List.setIfInBounds_toArray, List.set_cons_zero, List.set_cons_succ]) | (refine mx_st (v := ?_) rfl (fun W hW => ?_) ?_; rotate_left; (focus (go_simp <;> with_reducible rfl)); simp only [Act.put, List.setIfInBounds_toArray, List.set_cons_zero, List.set_cons_succ]) | (refine mx_no0 rfl ?_; simp only [Act.put, List.setIfInBounds_toArray, List.set_cons_zero, List.set_cons_succ]) | (refine mx_no1 Ext.grows rfl ?_; simp only [Act.put, List.setIfInBounds_toArray, List.set_cons_zero, List.set_cons_succ]))
    refine mx_call (f := ?_) (args := ?_) rfl ?_ ?_
    rotate_left 2
    focus (go_simp <;> (refine ⟨?_, ?_⟩ <;> with_reducible rfl))
    obtain ⟨l1, d1, m1, e1⟩ := HJ.out
    obtain ⟨l2, d2, m2, e2⟩ := HN2.out.2.2.1
    have hI := cmp_nat (S := S) (d1.ext Fw10.out) (d2.ext Ew10.out)
    have hc : cmpI ((nval l1 : Nat) : Int) ((nval l2 : Nat) : Int) = 0 := cmpI_eq (by rw [e1, e2])
    rw [hc] at hI
    clear hc d1 m1 e1 d2 m2 e2 l1 l2
    with_reducible refine hI.mono ?_
    clear hI
    rintro x w11 ⟨rfl, nq2, rfl⟩
    have hd := Ext.drewN w10 nq2
    generalize w10.drewN nq2 = w11 at hd ⊢
    refine ⟨_, rfl, hd, ?_⟩
    have hw11 := hd
    clear hd
    simp only [Act.put, List.setIfInBounds_toArray, List.set_cons_zero, List.set_cons_succ]
    have Ew11 := Lib.hid (Ew10.out.trans hw11)
    have Fw11 := Lib.hid (Fw10.out.trans hw11)
    have tew11 := fun W (h : Ext w11 W) => Ew11.out.trans h
    have tfw11 := fun W (h : Ext w11 W) => Fw11.out.trans h
    clear tew10 tfw10
    repeat (first | (refine mx_pu (v := ?_) rfl (fun W => ?_) ?_; rotate_left; (focus (go_simp <;> with_reducible rfl)); simp only [Act.put, List.setIfInBounds_toArray, List.set_cons_zero, List.set_cons_succ]) | (refine mx_no3 rfl ?_; simp only [Act.put, List.setIfInBounds_toArray, List.set_cons_zero, List.set_cons_succ]) | (refine mx_st (v := ?_) rfl (fun W hW => ?_) ?_; rotate_left; (focus (go_simp <;> with_reducible rfl)); simp only [Act.put, List.setIfInBounds_toArray, List.set_cons_zero, List.set_cons_succ]) | (refine mx_no0 rfl ?_; simp only [Act.put, List.setIfInBounds_toArray, List.set_cons_zero, List.set_cons_succ]) | (refine mx_no1 Ext.grows rfl ?_; simp only [Act.put, List.setIfInBounds_toArray, List.set_cons_zero, List.set_cons_succ]))
    refine mx_nil ?_
    have ewr := Ew11.out
    have t1 : decide (((ht l : Int) - (ht r : Int)) < -1) = false := by simp; omega
    have t2 : decide ((1 : Int) < ((ht l : Int) - (ht r : Int))) = false := by simp; omega
    obtain ⟨v0, v1⟩ := one_cell HK2.out.2.2.1
    go_wp2_with fail
    clear t1 t2
    have hbl := (HK2.out.2.2.1.ext ewr).set1 (a := .pointer (some ⟨b, 0, none⟩))
    have hxl : ExtBut (fun b => b = gl) w11 (w11.setCell ⟨gl, 0, none⟩ (.pointer (some ⟨b, 0, none⟩))) := ExtBut.set gl 0 _ rfl
    generalize w11.setCell ⟨gl, 0, none⟩ (.pointer (some ⟨b, 0, none⟩)) = w12 at hbl hxl ⊢
    have X2 := Lib.hid ((ewr.but (fun b => b = gl)).trans hxl)
    have HBL := Lib.hid hbl
    clear hbl hxl ewr
    refine wp_region_mixB (fun b => b = gl) 7 [(0, 0), (1, 3), (2, 3), (3, 3), (4, 0), (5, 1)] (by kernel_rfl) (fun _ _ d _ _ h => by cases d <;> exact h) ?_
    intro w13 hw13
    simp only [List.map_cons, List.map_nil, mixPick_lt _ _ 0 rfl, mixPick_lt _ _ 1 rfl, mixPick_lt _ _ 2 rfl, mixPick_lt _ _ 3 rfl, mixPick_fork, List.getD_cons_zero, List.getD_cons_succ]
    generalize yielded _ = y
    have z2 : ∀ W, ExtBut (fun b => b = gl) w13 W → W.cell? ⟨gv, 0, none⟩ = some (.func (.func 55) #[] #[.pointer (some ⟨gc, 0, none⟩), .pointer (some ⟨gv, 0, none⟩), .pointer (some ⟨gl, 0, none⟩), .pointer (some ⟨gt, 0, none⟩)]) := fun W h => (((HK2.out.2.1.but HI.out.1.1.2.1 X2.out).ext hw13).but HI.out.1.1.2.1 h).cell 0
    have z5 : ∀ W, ExtBut (fun b => b = gl) w13 W → W.cell? ⟨b, 5, none⟩ = some (.pointer lrp) := fun W h => (((HN2.out.1.but (HI.out.1.2 b HSb.out) X2.out).ext hw13).but (HI.out.1.2 b HSb.out) h).cell 5
    repeat (first | (refine mx_pu (v := ?_) rfl (fun W => ?_) ?_; rotate_left; (focus (go_simp <;> with_reducible rfl)); simp only [Act.put, List.setIfInBounds_toArray, List.set_cons_zero, List.set_cons_succ]) | (refine mx_st (v := ?_) rfl (fun W hW => ?_) ?_; rotate_left; (focus (go_simp <;> with_reducible rfl)); simp only [Act.put, List.setIfInBounds_toArray, List.set_cons_zero, List.set_cons_succ]))
    refine mx_call (f := ?_) (args := ?_) rfl ?_ ?_
    rotate_left 2
    focus (go_simp <;> (refine ⟨?_, ?_⟩ <;> with_reducible rfl))
    have nb := (HN2.out.1.but (HI.out.1.2 b HSb.out) X2.out).ext hw13
    have hI := HI.out.2.2 w13 lrp (some ⟨b, 0, none⟩) (some ⟨ek, en, es⟩) (fun k hk => HP2.out.1 k (Nat.le_trans X2.out.1 (Nat.le_trans hw13.size hk))) ((HN2.out.2.2.2.2.but HI.out.1.2 X2.out).ext hw13) HA.out.1.2.1 HA.out.2.1.right (fun x hx => HA.out.2.2.1 x (List.mem_append_right _ (List.mem_cons_of_mem _ hx))) (by omega) (by have := HA.out.2.2.2.1; simp only [tot] at this; omega) ((HK2.out.1.but HI.out.1.1.1 X2.out).ext hw13) ((HK2.out.2.1.but HI.out.1.1.2.1 X2.out).ext hw13) (HBL.out.ext hw13) ((HK2.out.2.2.2.but HI.out.1.1.2.2 X2.out).ext hw13) (.inr ⟨b, ⟨ek, en, es⟩, rfl, rfl, HSb.out, nb.cell 0, nb.cell 1, nb.cell 2⟩) (fun v hv x hx => by cases hv; exact sorted_right HA.out.2.1 x hx)
    clear nb
    with_reducible refine hI.mono ?_
    clear hI
    rintro x w14 ⟨⟨xv2, rfl⟩, hx14, lp3, hb3, hl3⟩
    refine ⟨_, rfl, hx14, ?_⟩
    simp only [Act.put, List.setIfInBounds_toArray, List.set_cons_zero, List.set_cons_succ]
    refine mx_nil ?_
    have HF := Lib.hid (And.intro (((X.out.trans X2.out).trans (hw13.but _)).trans hx14) (And.intro hb3 hl3))
    clear hx14 hb3 hl3 z2 z5
    go_wp2_with fail
    go_end0
    exact ⟨⟨_, rfl⟩, HF.out.1, lp3, HF.out.2.1, by simp only [lst]; rw [lastOf_step]; exact HF.out.2.2⟩
  · subst h1
    have hcm := HP2.out.2.2 pv h2
    have p0 : ∀ W, Ext w2 W → W.cell? ⟨pb, 0, none⟩ = some (.int .i64 pv.kind) := fun W h => h.cell h4
    have p1 : ∀ W, Ext w2 W → W.cell? ⟨pb, 1, none⟩ = some (.int .i64 pv.num) := fun W h => h.cell h5
    have p2 : ∀ W, Ext w2 W → W.cell? ⟨pb, 2, none⟩ = some (.string pv.str) := fun W h => h.cell h6
    have HPV := Lib.hid (And.intro hcm h2)
    clear hcm h2 h4 h5 h6
    refine wp_region_mixE 19 [(0, 0), (1, 3), (2, 3), (3, 0), (4, 0), (5, 3), (6, 3), (7, 3), (8, 0), (9, 3), (10, 3), (11, 3), (12, 3), (13, 0), (14, 1), (15, 3), (16, 3), (17, 3)] (by kernel_rfl) (fun _ _ d _ _ h => by cases d <;> exact h) ?_
    intro w8a hw8a
    simp only [List.map_cons, List.map_nil, mixPick_lt _ _ 0 rfl, mixPick_lt _ _ 1 rfl, mixPick_lt _ _ 2 rfl, mixPick_lt _ _ 3 rfl, mixPick_fork, List.getD_cons_zero, List.getD_cons_succ]
    have Ew8a := Lib.hid (Ew7.out.trans hw8a)
    have Fw8a := Lib.hid (Fw7.out.trans hw8a)
    have tew8a := fun W (h : Ext w8a W) => Ew8a.out.trans h
    have tfw8a := fun W (h : Ext w8a W) => Fw8a.out.trans h
    repeat (first | (refine mx_pu (v := ?_) rfl (fun W => ?_) ?_; rotate_left; (focus (go_simp <;> with_reducible rfl)); simp only [Act.put, List.setIfInBounds_toArray, List.set_cons_zero, List.set_cons_succ]) | (refine mx_no3 rfl ?_; simp only [Act.put, List.setIfInBounds_toArray, List.set_cons_zero, List.set_cons_succ]) | (refine mx_st (v := ?_) rfl (fun W hW => ?_) ?_; rotate_left; (focus (go_simp <;> with_reducible rfl)); simp only [Act.put, List.setIfInBounds_toArray, List.set_cons_zero, List.set_cons_succ]) | (refine mx_no0 rfl ?_; simp only [Act.put, List.setIfInBounds_toArray, List.set_cons_zero, List.set_cons_succ]) | (refine mx_no1 Ext.grows rfl ?_; simp only [Act.put, List.setIfInBounds_toArray, List.set_cons_zero, List.set_cons_succ]))
    refine mx_call (f := ?_) (args := ?_) rfl ?_ ?_
    rotate_left 2
    focus (go_simp <;> (refine ⟨?_, ?_⟩ <;> with_reducible rfl))
    have hI := compare_c d rp pv ⟨ek, en, es⟩ w8a
    rw [HPV.out.1] at hI
    with_reducible refine hI.mono ?_
    clear hI
    rintro x w8 ⟨rfl, hw8⟩
    refine ⟨_, rfl, hw8, ?_⟩
    simp only [Act.put, List.setIfInBounds_toArray, List.set_cons_zero, List.set_cons_succ]
    have Ew8 := Lib.hid (Ew8a.out.trans hw8)
    have Fw8 := Lib.hid (Fw8a.out.trans hw8)
    have tew8 := fun W (h : Ext w8 W) => Ew8.out.trans h
    have tfw8 := fun W (h : Ext w8 W) => Fw8.out.trans h
    clear tew8a tfw8a
    repeat (first | (refine mx_pu (v := ?_) rfl (fun W => ?_) ?_; rotate_left; (focus (go_simp <;> with_reducible rfl)); simp only [Act.put, List.setIfInBounds_toArray, List.set_cons_zero, List.set_cons_succ]) | (refine mx_no3 rfl ?_; simp only [Act.put, List.setIfInBounds_toArray, List.set_cons_zero, List.set_cons_succ]) | (refine mx_st (v := ?_) rfl (fun W hW => ?_) ?_; rotate_left; (focus (go_simp <;> with_reducible rfl)); simp only [Act.put, List.setIfInBounds_toArray, List.set_cons_zero, List.set_cons_succ]) | (refine mx_no0 rfl ?_; simp only [Act.put, List.setIfInBounds_toArray, List.set_cons_zero, List.set_cons_succ]) | (refine mx_no1 Ext.grows rfl ?_; simp only [Act.put, List.setIfInBounds_toArray, List.set_cons_zero, List.set_cons_succ]))
    refine mx_nil ?_
    clear tew8 tfw8
    have ewr := Ew8.out
    have fwr := Fw8.out
    go_wp2_with fail
    refine wp_region_mixE 34 [(0, 3), (1, 3), (2, 3), (3, 0), (4, 3), (5, 3), (6, 3), (7, 0), (8, 3), (9, 3), (10, 3), (11, 3), (12, 3), (13, 0), (14, 3), (15, 3), (16, 3), (17, 0), (18, 3), (19, 3), (20, 3), (21, 3), (22, 3), (23, 3), (24, 0), (25, 3), (26, 3), (27, 3), (28, 0), (29, 1), (30, 3), (31, 3), (32, 3)] (by kernel_rfl) (fun _ _ d _ _ h => by cases d <;> exact h) ?_
    intro w10 hw10
    simp only [List.map_cons, List.map_nil, mixPick_lt _ _ 0 rfl, mixPick_lt _ _ 1 rfl, mixPick_lt _ _ 2 rfl, mixPick_lt _ _ 3 rfl, mixPick_fork, List.getD_cons_zero, List.getD_cons_succ]
    have Ew10 := Lib.hid (Ew8.out.trans hw10)
    have Fw10 := Lib.hid (Fw8.out.trans hw10)
    have tew10 := fun W (h : Ext w10 W) => Ew10.out.trans h
    have tfw10 := fun W (h : Ext w10 W) => Fw10.out.trans h
    clear ewr fwr
    repeat (first | (refine mx_pu (v := ?_) rfl (fun W => ?_) ?_; rotate_left; (focus (go_simp <;> with_reducible rfl)); simp only [Act.put, List.setIfInBounds_toArray, List.set_cons_zero, List.set_cons_succ]) | (refine mx_no3 rfl ?_; simp only [Act.put, List.setIfInBounds_toArray, List.set_cons_zero, List.set_cons_succ]) | (refine mx_st (v := ?_) rfl (fun W hW => ?_) ?_; rotate_left; (focus (go_simp <;> with_reducible rfl)); simp only [Act.put, List.setIfInBounds_toArray, List.set_cons_zero, List.set_cons_succ]) | (refine mx_no0 rfl ?_; simp only [Act.put, List.setIfInBounds_toArray, List.set_cons_zero, List.set_cons_succ]) | (refine mx_no1 Ext.grows rfl ?_; simp only [Act.put, List.setIfInBounds_toArray, List.set_cons_zero, List.set_cons_succ]))
    refine mx_call (f := ?_) (args := ?_) rfl ?_ ?_
    rotate_left 2
    focus (go_simp <;> (refine ⟨?_, ?_⟩ <;> with_reducible rfl))
    obtain ⟨l1, d1, m1, e1⟩ := HJ.out
    obtain ⟨l2, d2, m2, e2⟩ := HN2.out.2.2.1
    have hI := cmp_nat (S := S) (d1.ext Fw10.out) (d2.ext Ew10.out)
    have hc : cmpI ((nval l1 : Nat) : Int) ((nval l2 : Nat) : Int) = 0 := cmpI_eq (by rw [e1, e2])
    rw [hc] at hI
    clear hc d1 m1 e1 d2 m2 e2 l1 l2
    with_reducible refine hI.mono ?_
    clear hI
    rintro x w11 ⟨rfl, nq2, rfl⟩
    have hd := Ext.drewN w10 nq2
    generalize w10.drewN nq2 = w11 at hd ⊢
    refine ⟨_, rfl, hd, ?_⟩
    have hw11 := hd
    clear hd
    simp only [Act.put, List.setIfInBounds_toArray, List.set_cons_zero, List.set_cons_succ]
    have Ew11 := Lib.hid (Ew10.out.trans hw11)
    have Fw11 := Lib.hid (Fw10.out.trans hw11)
    have tew11 := fun W (h : Ext w11 W) => Ew11.out.trans h
    have tfw11 := fun W (h : Ext w11 W) => Fw11.out.trans h
    clear tew10 tfw10
    repeat (first | (refine mx_pu (v := ?_) rfl (fun W => ?_) ?_; rotate_left; (focus (go_simp <;> with_reducible rfl)); simp only [Act.put, List.setIfInBounds_toArray, List.set_cons_zero, List.set_cons_succ]) | (refine mx_no3 rfl ?_; simp only [Act.put, List.setIfInBounds_toArray, List.set_cons_zero, List.set_cons_succ]) | (refine mx_st (v := ?_) rfl (fun W hW => ?_) ?_; rotate_left; (focus (go_simp <;> with_reducible rfl)); simp only [Act.put, List.setIfInBounds_toArray, List.set_cons_zero, List.set_cons_succ]) | (refine mx_no0 rfl ?_; simp only [Act.put, List.setIfInBounds_toArray, List.set_cons_zero, List.set_cons_succ]) | (refine mx_no1 Ext.grows rfl ?_; simp only [Act.put, List.setIfInBounds_toArray, List.set_cons_zero, List.set_cons_succ]))
    refine mx_nil ?_
    have ewr := Ew11.out
    have t1 : decide (((ht l : Int) - (ht r : Int)) < -1) = false := by simp; omega
    have t2 : decide ((1 : Int) < ((ht l : Int) - (ht r : Int))) = false := by simp; omega
    obtain ⟨v0, v1⟩ := one_cell HK2.out.2.2.1
    go_wp2_with fail
    clear t1 t2
    have hbl := (HK2.out.2.2.1.ext ewr).set1 (a := .pointer (some ⟨b, 0, none⟩))
    have hxl : ExtBut (fun b => b = gl) w11 (w11.setCell ⟨gl, 0, none⟩ (.pointer (some ⟨b, 0, none⟩))) := ExtBut.set gl 0 _ rfl
    generalize w11.setCell ⟨gl, 0, none⟩ (.pointer (some ⟨b, 0, none⟩)) = w12 at hbl hxl ⊢
    have X2 := Lib.hid ((ewr.but (fun b => b = gl)).trans hxl)
    have HBL := Lib.hid hbl
    clear hbl hxl ewr
    refine wp_region_mixB (fun b => b = gl) 7 [(0, 0), (1, 3), (2, 3), (3, 3), (4, 0), (5, 1)] (by kernel_rfl) (fun _ _ d _ _ h => by cases d <;> exact h) ?_
    intro w13 hw13
    simp only [List.map_cons, List.map_nil, mixPick_lt _ _ 0 rfl, mixPick_lt _ _ 1 rfl, mixPick_lt _ _ 2 rfl, mixPick_lt _ _ 3 rfl, mixPick_fork, List.getD_cons_zero, List.getD_cons_succ]
    generalize yielded _ = y
    have z2 : ∀ W, ExtBut (fun b => b = gl) w13 W → W.cell? ⟨gv, 0, none⟩ = some (.func (.func 55) #[] #[.pointer (some ⟨gc, 0, none⟩), .pointer (some ⟨gv, 0, none⟩), .pointer (some ⟨gl, 0, none⟩), .pointer (some ⟨gt, 0, none⟩)]) := fun W h => (((HK2.out.2.1.but HI.out.1.1.2.1 X2.out).ext hw13).but HI.out.1.1.2.1 h).cell 0
    have z5 : ∀ W, ExtBut (fun b => b = gl) w13 W → W.cell? ⟨b, 5, none⟩ = some (.pointer lrp) := fun W h => (((HN2.out.1.but (HI.out.1.2 b HSb.out) X2.out).ext hw13).but (HI.out.1.2 b HSb.out) h).cell 5
    repeat (first | (refine mx_pu (v := ?_) rfl (fun W => ?_) ?_; rotate_left; (focus (go_simp <;> with_reducible rfl)); simp only [Act.put, List.setIfInBounds_toArray, List.set_cons_zero, List.set_cons_succ]) | (refine mx_st (v := ?_) rfl (fun W hW => ?_) ?_; rotate_left; (focus (go_simp <;> with_reducible rfl)); simp only [Act.put, List.setIfInBounds_toArray, List.set_cons_zero, List.set_cons_succ]))
    refine mx_call (f := ?_) (args := ?_) rfl ?_ ?_
    rotate_left 2
    focus (go_simp <;> (refine ⟨?_, ?_⟩ <;> with_reducible rfl))
    have nb := (HN2.out.1.but (HI.out.1.2 b HSb.out) X2.out).ext hw13
    have hI := HI.out.2.2 w13 lrp (some ⟨b, 0, none⟩) (some ⟨ek, en, es⟩) (fun k hk => HP2.out.1 k (Nat.le_trans X2.out.1 (Nat.le_trans hw13.size hk))) ((HN2.out.2.2.2.2.but HI.out.1.2 X2.out).ext hw13) HA.out.1.2.1 HA.out.2.1.right (fun x hx => HA.out.2.2.1 x (List.mem_append_right _ (List.mem_cons_of_mem _ hx))) (by omega) (by have := HA.out.2.2.2.1; simp only [tot] at this; omega) ((HK2.out.1.but HI.out.1.1.1 X2.out).ext hw13) ((HK2.out.2.1.but HI.out.1.1.2.1 X2.out).ext hw13) (HBL.out.ext hw13) ((HK2.out.2.2.2.but HI.out.1.1.2.2 X2.out).ext hw13) (.inr ⟨b, ⟨ek, en, es⟩, rfl, rfl, HSb.out, nb.cell 0, nb.cell 1, nb.cell 2⟩) (fun v hv x hx => by cases hv; exact sorted_right HA.out.2.1 x hx)
    clear nb
    with_reducible refine hI.mono ?_
    clear hI
    rintro x w14 ⟨⟨xv2, rfl⟩, hx14, lp3, hb3, hl3⟩
    refine ⟨_, rfl, hx14, ?_⟩
    simp only [Act.put, List.setIfInBounds_toArray, List.set_cons_zero, List.set_cons_succ]
    refine mx_nil ?_
    have HF := Lib.hid (And.intro (((X.out.trans X2.out).trans (hw13.but _)).trans hx14) (And.intro hb3 hl3))
    clear hx14 hb3 hl3 z2 z5
    go_wp2_with fail
    go_end0
    exact ⟨⟨_, rfl⟩, HF.out.1, lp3, HF.out.2.1, by simp only [lst]; rw [lastOf_step]; exact HF.out.2.2⟩
end Go.Proofs.Ytbbnpicddmplbaa

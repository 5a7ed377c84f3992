/- Package wtree: Before. -/
import Derived.Test.YtbbnpicddmplbaaWt7
namespace Go.Proofs.Ytbbnpicddmplbaa
open Go.RowKit Go.Deep
set_option linter.unusedVariables false
set_option linter.unusedSimpArgs false
variable {S : Nat → Prop}


/-- The weight of the values before v. -/
def befL (d : Bool) (v : GV) (l : List (GV × Nat)) : Nat := sumW (l.filter fun x => decide (tcmp d x.1 v < 0))
theorem befL_append (d : Bool) (v : GV) (a b : List (GV × Nat)) : befL d v (a ++ b) = befL d v a + befL d v b := by simp [befL, List.filter_append, sumW_append]
theorem befL_all {d : Bool} {v : GV} : ∀ {l : List (GV × Nat)}, (∀ x ∈ l, tcmp d x.1 v < 0) → befL d v l = sumW l := by
  intro l h
  unfold befL
  rw [List.filter_eq_self.2 (fun x hx => by simpa using h x hx)]
theorem befL_none {d : Bool} {v : GV} : ∀ {l : List (GV × Nat)}, (∀ x ∈ l, ¬ tcmp d x.1 v < 0) → befL d v l = 0 := by
  intro l h
  unfold befL
  rw [List.filter_eq_nil_iff.2 (fun x hx => by simpa using h x hx)]; rfl
theorem bef_lt {d : Bool} {v : GV} {L R : List (GV × Nat)} {x : GV × Nat} (hs : Sorted d (L ++ x :: R)) (h : tcmp d v x.1 < 0) : befL d v (L ++ x :: R) = befL d v L := by
  have h1 : tcmp d v x.1 = -1 := by rcases tcmp_range d v x.1 with k | k | k <;> omega
  rw [befL_append, befL_none (l := x :: R) fun y hy => ?_, Nat.add_zero]
  rcases List.mem_cons.1 hy with rfl | hy
  · rw [tcmp_swap, h1]; decide
  · have := tcmp_trans h1 (sorted_right hs y hy); rw [tcmp_swap, this]; decide
theorem bef_eq {d : Bool} {v : GV} {L R : List (GV × Nat)} {x : GV × Nat} (hs : Sorted d (L ++ x :: R)) (h : tcmp d v x.1 = 0) : befL d v (L ++ x :: R) = sumW L := by
  have hx := tcmp_eq h
  subst hx
  rw [befL_append, befL_all (l := L) (fun y hy => by have := sorted_left hs y hy; omega), befL_none (l := x :: R) fun y hy => ?_, Nat.add_zero]
  rcases List.mem_cons.1 hy with rfl | hy
  · rw [tcmp_refl]; decide
  · have := sorted_right hs y hy; rw [tcmp_swap, this]; decide
theorem bef_gt {d : Bool} {v : GV} {L R : List (GV × Nat)} {x : GV × Nat} (hs : Sorted d (L ++ x :: R)) (h : 0 < tcmp d v x.1) : befL d v (L ++ x :: R) = sumW L + x.2 + befL d v R := by
  have h1 : tcmp d x.1 v = -1 := tcmp_one.1 (by rcases tcmp_range d v x.1 with k | k | k <;> omega)
  have e : L ++ x :: R = (L ++ [x]) ++ R := by simp
  have hall : ∀ y ∈ L ++ [x], tcmp d y.1 v < 0 := by
    intro y hy
    rcases List.mem_append.1 hy with hy | hy
    · have := tcmp_trans (sorted_left hs y hy) h1; omega
    · rw [List.mem_singleton.1 hy]; omega
  rw [e, befL_append, befL_all hall, sumW_append, sumW_cons, sumW_nil]
  omega

theorem Fresh.le {w w' : World} (h : Fresh S w) (e : w.heap.size ≤ w'.heap.size) : Fresh S w' := fun b hb => h b (Nat.le_trans e hb)
/-- What Before's closure does. -/
def Bef1 (S : Nat → Prop) (c : Int) (σ tl n gs gf : Nat) (w : World) (x : Ending) (w' : World) : Prop :=
  x = .returned (.int .i64 c) ∧ ExtBut (fun b => b = gs ∨ b = gf) w w' ∧ (c < 0 → Ext w w') ∧ (c = 0 → ∃ sv, Blk w' gs [sv] 30 ∧ Blk w' gf [.bool true] 4 ∧ NatV S w' sv (σ + tl)) ∧
    (0 < c → ∃ sv, Blk w' gs [sv] 30 ∧ Blk w' gf [.bool false] 4 ∧ NatV S w' sv (σ + tl + n))
/-- A store into a box of one cell, inside a region's tail. -/
theorem mx_box {P : Program} {y : Array Value → Nat → Option Bool} {Q : Exit → Act → World → Prop} {R : World → World → Prop} {n : Nat} {o : Oper} {rest : List (Oper × Nat)} {a : Act} {w : World} {g : Nat} {x v : Value} {t : TypeId} (hb : Blk w g [x] t) (hg : Region.wanted o (y a.tmps) = true)
    (hy : (execOp a.eval o).run P w = .ok .skip (w.setCell ⟨g, 0, none⟩ v))
    (h : ∀ w', Blk w' g [v] t → ExtBut (fun b => b = g) w w' → wpMixL P y Q R n rest (a.put o.dst undef) w') : wpMixL P y Q R (n + 1) ((o, 2) :: rest) a w :=
  mx_ts hg hy (h _ hb.set1 (ExtBut.set g 0 v rfl))
set_option maxHeartbeats 4000000 in
set_option maxRecDepth 100000 in
theorem bef1_c {w : World} (hS : Fresh S w) (d : Bool) (rp : Option Addr) (v : GV) {g2 g3 gs gf b σ : Nat} {sv : Value} {e : GV × Nat} {l r : T} (ht : TreeV S w (some ⟨b, 0, none⟩) (.node b 0 e l r)) (hb : σ + tot l + e.2 < bigN)
    (h2 : Blk w g2 [.bool d, .pointer rp] 27) (h3 : Blk w g3 [.int .i64 v.kind, .int .i64 v.num, .string v.str] 38) (hs : Blk w gs [sv] 30) (hsv : NatV S w sv σ) (hf : Blk w gf [.bool false] 4) (hne : gs ≠ gf) (hG : ∀ b, S b → ¬ (b = gs ∨ b = gf)) :
    Calls Try.prog 53 #[.pointer (some ⟨b, 0, none⟩), .pointer (some ⟨g2, 0, none⟩), .pointer (some ⟨g3, 0, none⟩), .pointer (some ⟨gs, 0, none⟩), .pointer (some ⟨gf, 0, none⟩)] w (Bef1 S (tcmp d v e.1) σ (tot l) e.2 gs gf w) := by
  obtain ⟨vk, vn, vs⟩ := v
  have HT := Lib.hid ht
  obtain ⟨-, -, wv, tv, lp, rp', hnb, hnw, -, hl, -⟩ := ht.open
  obtain ⟨sa, sk, sc, rfl⟩ := slice_of_nat hnw
  obtain ⟨ta, tk, tc, rfl⟩ := slice_of_nat hsv
  obtain ⟨y0, y1, y2, y3, y4, -⟩ := nodeF hnb
  obtain ⟨q0, q1⟩ := boxT h2
  obtain ⟨x0, x1, x2⟩ := boxV h3
  obtain ⟨z0, z1⟩ := one_cell hs
  obtain ⟨la, lk, lc, hnl, hcl⟩ := totalOf_c hl
  have HL := Lib.hid (And.intro hnl hcl)
  have HB := Lib.hid (And.intro hs (And.intro hf (And.intro hne (And.intro hG (And.intro hnw (And.intro hS (And.intro hb (And.intro hsv hnb))))))))
  have hne' : ¬ gf = gs := fun x => hne x.symm
  have Ew := Lib.hid (Ext.refl w)
  clear ht hnb hnw h2 h3 hs hsv hf hG hS hb hl hnl hcl
  go_enter Try.func53, Try.ntmps53
  go_wp2_with fail
  refine wp_region_mixE 10 [(0, 0), (1, 0), (2, 3), (3, 3), (4, 3), (5, 3), (6, 0), (7, 1), (8, 3)] (by kernel_rfl) (fun _ _ d _ _ h => by cases d <;> exact h) ?_
  intro w1 hw1
  simp only [List.map_cons, List.map_nil, mixPick_lt _ _ 0 rfl, mixPick_lt _ _ 1 rfl, mixPick_lt _ _ 2 rfl, mixPick_lt _ _ 3 rfl, mixPick_fork, List.getD_cons_zero, List.getD_cons_succ]
  generalize yielded _ = y
  have Ew1 := Lib.hid (Ew.out.trans hw1)
  have tew1 := fun W (h : Ext w1 W) => Ew1.out.trans h
  repeat (first | (refine mx_pu (v := ?_) rfl (fun W => ?_) ?_; rotate_left; (focus (go_simp <;> with_reducible rfl)); simp only [Act.put, List.setIfInBounds_toArray, List.set_cons_zero, List.set_cons_succ]) | (refine mx_st (v := ?_) rfl (fun W hW => ?_) ?_; rotate_left; (focus (go_simp <;> with_reducible rfl)); simp only [Act.put, List.setIfInBounds_toArray, List.set_cons_zero, List.set_cons_succ]))
  refine mx_call (f := ?_) (args := ?_) rfl ?_ ?_
  rotate_left 2
  focus (go_simp <;> (refine ⟨?_, ?_⟩ <;> with_reducible rfl))
  have hI := compare_c d rp ⟨vk, vn, vs⟩ e.1 w1
  with_reducible refine hI.mono ?_
  clear hI
  rintro e' w2 ⟨rfl, hw2⟩
  refine ⟨_, rfl, hw2, ?_⟩
  simp only [Act.put, List.setIfInBounds_toArray, List.set_cons_zero, List.set_cons_succ]
  have Ew2 := Lib.hid (Ew1.out.trans hw2)
  have tew2 := fun W (h : Ext w2 W) => Ew2.out.trans h
  clear tew1
  repeat (first | (refine mx_pu (v := ?_) rfl (fun W => ?_) ?_; rotate_left; (focus (go_simp <;> with_reducible rfl)); simp only [Act.put, List.setIfInBounds_toArray, List.set_cons_zero, List.set_cons_succ]) | (refine mx_st (v := ?_) rfl (fun W hW => ?_) ?_; rotate_left; (focus (go_simp <;> with_reducible rfl)); simp only [Act.put, List.setIfInBounds_toArray, List.set_cons_zero, List.set_cons_succ]))
  refine mx_nil ?_
  generalize hc : tcmp d ⟨vk, vn, vs⟩ e.1 = c at *
  clear hc
  by_cases h0 : c < 0
  · have ew2 := Ew2.out
    go_wp2_with fail
    go_ret
    exact ⟨rfl, ew2.but _, fun _ => ew2, fun h => by omega, fun h => by omega⟩
  · go_wp2_with fail
    refine wp_region_mixE 9 [(0, 0), (1, 3), (2, 3), (3, 3), (4, 0), (5, 1), (6, 1), (7, 2)] (by kernel_rfl) (fun _ _ d _ _ h => by cases d <;> exact h) ?_
    intro w3 hw3
    simp only [List.map_cons, List.map_nil, mixPick_lt _ _ 0 rfl, mixPick_lt _ _ 1 rfl, mixPick_lt _ _ 2 rfl, mixPick_lt _ _ 3 rfl, mixPick_fork, List.getD_cons_zero, List.getD_cons_succ]
    generalize yielded _ = y
    have Ew3 := Lib.hid (Ew2.out.trans hw3)
    have tew3 := fun W (h : Ext w3 W) => Ew3.out.trans h
    clear tew2
    repeat (first | (refine mx_pu (v := ?_) rfl (fun W => ?_) ?_; rotate_left; (focus (go_simp <;> with_reducible rfl)); simp only [Act.put, List.setIfInBounds_toArray, List.set_cons_zero, List.set_cons_succ]) | (refine mx_st (v := ?_) rfl (fun W hW => ?_) ?_; rotate_left; (focus (go_simp <;> with_reducible rfl)); simp only [Act.put, List.setIfInBounds_toArray, List.set_cons_zero, List.set_cons_succ]))
    refine mx_call (f := ?_) (args := ?_) rfl ?_ ?_
    rotate_left 2
    focus (go_simp <;> (refine ⟨?_, ?_⟩ <;> with_reducible rfl))
    with_reducible refine (HL.out.2 w3 Ew3.out).mono ?_
    rintro e' w' ⟨rfl, rfl⟩
    refine ⟨_, rfl, Ext.refl _, ?_⟩
    simp only [Act.put, List.setIfInBounds_toArray, List.set_cons_zero, List.set_cons_succ]
    repeat (first | (refine mx_pu (v := ?_) rfl (fun W => ?_) ?_; rotate_left; (focus (go_simp <;> with_reducible rfl)); simp only [Act.put, List.setIfInBounds_toArray, List.set_cons_zero, List.set_cons_succ]) | (refine mx_st (v := ?_) rfl (fun W hW => ?_) ?_; rotate_left; (focus (go_simp <;> with_reducible rfl)); simp only [Act.put, List.setIfInBounds_toArray, List.set_cons_zero, List.set_cons_succ]))
    refine mx_call (f := ?_) (args := ?_) rfl ?_ ?_
    rotate_left 2
    focus (go_simp <;> (refine ⟨?_, ?_⟩ <;> with_reducible rfl))
    obtain ⟨ld, hd, nl, el⟩ := HL.out.1
    obtain ⟨ls, hsd, ns, es⟩ := HB.out.2.2.2.2.2.2.2.1
    have hI := add_nat (HB.out.2.2.2.2.2.1.ext Ew3.out) (hsd.ext Ew3.out) (hd.ext Ew3.out) (by rw [es]; have := HB.out.2.2.2.2.2.2.1; omega) (by rw [el]; have := HB.out.2.2.2.2.2.2.1; omega)
    with_reducible refine hI.mono ?_
    clear hI
    rintro e' w4 ⟨nv, rfl, hw4, hnv⟩
    rw [el, es] at hnv
    clear hd hsd nl ns el es
    refine ⟨_, rfl, hw4, ?_⟩
    obtain ⟨na, nk, nc, rfl⟩ := slice_of_nat hnv
    simp only [Act.put, List.setIfInBounds_toArray, List.set_cons_zero, List.set_cons_succ]
    have Ew4 := Lib.hid (Ew3.out.trans hw4)
    have tew4 := fun W (h : Ext w4 W) => Ew4.out.trans h
    clear tew3
    have ew4 := Ew4.out
    repeat (first | (refine mx_pu (v := ?_) rfl (fun W => ?_) ?_; rotate_left; (focus (go_simp <;> with_reducible rfl)); simp only [Act.put, List.setIfInBounds_toArray, List.set_cons_zero, List.set_cons_succ]) | (refine mx_st (v := ?_) rfl (fun W hW => ?_) ?_; rotate_left; (focus (go_simp <;> with_reducible rfl)); simp only [Act.put, List.setIfInBounds_toArray, List.set_cons_zero, List.set_cons_succ]))
    refine mx_box (v := ?_) (HB.out.1.ext ew4) rfl ?_ ?_
    rotate_left
    focus (go_simp <;> with_reducible rfl)
    intro w5 hb5 hx5
    simp only [Act.put, List.setIfInBounds_toArray, List.set_cons_zero, List.set_cons_succ]
    repeat (first | (refine mx_pu (v := ?_) rfl (fun W => ?_) ?_; rotate_left; (focus (go_simp <;> with_reducible rfl)); simp only [Act.put, List.setIfInBounds_toArray, List.set_cons_zero, List.set_cons_succ]) | (refine mx_st (v := ?_) rfl (fun W hW => ?_) ?_; rotate_left; (focus (go_simp <;> with_reducible rfl)); simp only [Act.put, List.setIfInBounds_toArray, List.set_cons_zero, List.set_cons_succ]))
    refine mx_nil ?_
    have hxg : ExtBut (fun b => b = gs ∨ b = gf) w4 w5 := hx5.mono (fun b h => .inl h)
    have t5 := (HT.out.ext ew4).but HB.out.2.2.2.1 hxg
    have f5 := (HB.out.2.1.ext ew4).but hne' hx5
    have HX := Lib.hid (And.intro ((ew4.but (fun b => b = gs ∨ b = gf)).trans hxg) (And.intro hb5 (And.intro (hnv.but HB.out.2.2.2.1 hxg) (And.intro f5 (And.intro t5 ((HB.out.2.2.2.2.2.1.ext ew4).le hxg.1))))))
    clear hnv hxg hx5 ew4 tew4
    by_cases h1 : c = 0
    · subst h1
      obtain ⟨u0, u1⟩ := one_cell f5
      have eR := Ext.refl w5
      clear t5 f5 hb5
      go_wp2_with fail
      go_ret
      have hx6 : ExtBut (fun b => b = gs ∨ b = gf) w5 (w5.setCell ⟨gf, 0, none⟩ (.bool true)) := ExtBut.set gf 0 _ (.inr rfl)
      exact ⟨rfl, HX.out.1.trans hx6, fun h => absurd h (by omega), fun _ => ⟨_, HX.out.2.1.other hne 0 _, HX.out.2.2.2.1.set1, HX.out.2.2.1.but HB.out.2.2.2.1 hx6⟩, fun h => absurd h (by omega)⟩
    · have hb1 : (c == 0) = false := by simpa using h1
      have hc1 : 0 < c := by omega
      obtain ⟨-, -, wv6, tv6, lp6, rp6, hnb6, hnw6, -, -, -⟩ := t5.open
      obtain ⟨wa, wk, wc, rfl⟩ := slice_of_nat hnw6
      obtain ⟨-, -, -, j3, -⟩ := nodeF hnb6
      obtain ⟨z2, z3⟩ := one_cell hb5
      have HW6 := Lib.hid hnw6
      have Ew5 := Lib.hid (Ext.refl w5)
      clear t5 f5 hb5 hnb6 hnw6 h1
      go_wp2_with fail
      refine wp_region_mixE 9 [(0, 0), (1, 3), (2, 3), (3, 3), (4, 3), (5, 0), (6, 1), (7, 2)] (by kernel_rfl) (fun _ _ d _ _ h => by cases d <;> exact h) ?_
      intro w6 hw6
      simp only [List.map_cons, List.map_nil, mixPick_lt _ _ 0 rfl, mixPick_lt _ _ 1 rfl, mixPick_lt _ _ 2 rfl, mixPick_lt _ _ 3 rfl, mixPick_fork, List.getD_cons_zero, List.getD_cons_succ]
      generalize yielded _ = y
      have Ew6 := Lib.hid (Ew5.out.trans hw6)
      have tew6 := fun W (h : Ext w6 W) => Ew6.out.trans h
      repeat (first | (refine mx_pu (v := ?_) rfl (fun W => ?_) ?_; rotate_left; (focus (go_simp <;> with_reducible rfl)); simp only [Act.put, List.setIfInBounds_toArray, List.set_cons_zero, List.set_cons_succ]) | (refine mx_st (v := ?_) rfl (fun W hW => ?_) ?_; rotate_left; (focus (go_simp <;> with_reducible rfl)); simp only [Act.put, List.setIfInBounds_toArray, List.set_cons_zero, List.set_cons_succ]))
      refine mx_call (f := ?_) (args := ?_) rfl ?_ ?_
      rotate_left 2
      focus (go_simp <;> (refine ⟨?_, ?_⟩ <;> with_reducible rfl))
      obtain ⟨ld, hd, nl, el⟩ := HW6.out
      obtain ⟨ls, hsd, ns, es⟩ := HX.out.2.2.1
      have hI := add_nat (HX.out.2.2.2.2.2.ext Ew6.out) (hsd.ext Ew6.out) (hd.ext Ew6.out) (by rw [es]; have := HB.out.2.2.2.2.2.2.1; omega) (by rw [el]; have := HB.out.2.2.2.2.2.2.1; omega)
      with_reducible refine hI.mono ?_
      clear hI
      rintro e' w7 ⟨nv, rfl, hw7, hnv⟩
      rw [el, es] at hnv
      clear hd hsd nl ns el es
      refine ⟨_, rfl, hw7, ?_⟩
      obtain ⟨ma, mk, mc, rfl⟩ := slice_of_nat hnv
      simp only [Act.put, List.setIfInBounds_toArray, List.set_cons_zero, List.set_cons_succ]
      have Ew7 := Lib.hid (Ew6.out.trans hw7)
      have tew7 := fun W (h : Ext w7 W) => Ew7.out.trans h
      clear tew6
      have ew7 := Ew7.out
      repeat (first | (refine mx_pu (v := ?_) rfl (fun W => ?_) ?_; rotate_left; (focus (go_simp <;> with_reducible rfl)); simp only [Act.put, List.setIfInBounds_toArray, List.set_cons_zero, List.set_cons_succ]) | (refine mx_st (v := ?_) rfl (fun W hW => ?_) ?_; rotate_left; (focus (go_simp <;> with_reducible rfl)); simp only [Act.put, List.setIfInBounds_toArray, List.set_cons_zero, List.set_cons_succ]))
      refine mx_box (v := ?_) (HX.out.2.1.ext ew7) rfl ?_ ?_
      rotate_left
      focus (go_simp <;> with_reducible rfl)
      intro w8 hb8 hx8
      simp only [Act.put, List.setIfInBounds_toArray, List.set_cons_zero, List.set_cons_succ]
      repeat (first | (refine mx_pu (v := ?_) rfl (fun W => ?_) ?_; rotate_left; (focus (go_simp <;> with_reducible rfl)); simp only [Act.put, List.setIfInBounds_toArray, List.set_cons_zero, List.set_cons_succ]) | (refine mx_st (v := ?_) rfl (fun W hW => ?_) ?_; rotate_left; (focus (go_simp <;> with_reducible rfl)); simp only [Act.put, List.setIfInBounds_toArray, List.set_cons_zero, List.set_cons_succ]))
      refine mx_nil ?_
      have hxg : ExtBut (fun b => b = gs ∨ b = gf) w7 w8 := hx8.mono (fun b h => .inl h)
      have HY := Lib.hid (And.intro ((HX.out.1.trans (ew7.but _)).trans hxg) (And.intro hb8 (And.intro (hnv.but HB.out.2.2.2.1 hxg) ((HX.out.2.2.2.1.ext ew7).but hne' hx8))))
      clear hnv hxg hx8 ew7 tew7 hb8
      go_wp2_with fail
      go_ret
      exact ⟨rfl, HY.out.1, fun h => absurd h (by omega), fun h => absurd h (by omega), fun _ => ⟨_, HY.out.2.1, HY.out.2.2.2, HY.out.2.2.1⟩⟩

def BefI (S : Nat → Prop) (d : Bool) (rp : Option Addr) (v : GV) (r0 : Option Nat) (B0 g2 g3 gs gf : Nat) (u : T) (_ : Nat) (w : World) : Prop :=
  ∃ σ sv, Fresh S w ∧ Sorted d (lst u) ∧ σ + tot u < bigN ∧ lookL d v (lst u) = r0 ∧ σ + befL d v (lst u) = B0 ∧ Blk w g2 [.bool d, .pointer rp] 27 ∧ Blk w g3 [.int .i64 v.kind, .int .i64 v.num, .string v.str] 38 ∧ Blk w gs [sv] 30 ∧ NatV S w sv σ ∧ Blk w gf [.bool false] 4
def BefD (S : Nat → Prop) (r0 : Option Nat) (B0 gs gf : Nat) (_ : Nat) (w : World) : Prop :=
  ∃ sv, Blk w gs [sv] 30 ∧ Blk w gf [.bool r0.isSome] 4 ∧ NatV S w sv B0
theorem bef_chooses {d : Bool} {rp : Option Addr} {v : GV} {r0 : Option Nat} {B0 g2 g3 gs gf : Nat} (hne : gs ≠ gf) (hG : ∀ b, S b → ¬ (b = gs ∨ b = gf)) (h2 : ¬ (g2 = gs ∨ g2 = gf)) (h3 : ¬ (g3 = gs ∨ g3 = gf)) :
    Chooses S (fun b => b = gs ∨ b = gf) (BefI S d rp v r0 B0 g2 g3 gs gf) (BefD S r0 B0 gs gf) 53 #[.pointer (some ⟨g2, 0, none⟩), .pointer (some ⟨g3, 0, none⟩), .pointer (some ⟨gs, 0, none⟩), .pointer (some ⟨gf, 0, none⟩)] where
  apart := hG
  keeps := by
    rintro t n w w' ⟨σ, sv, k1, k2, k3, k4, k5, k6, k7, k8, k9, k10⟩ e
    exact ⟨σ, sv, k1.ext e, k2, k3, k4, k5, k6.ext e, k7.ext e, k8.ext e, k9.ext e, k10.ext e⟩
  ends := by
    rintro n w ⟨σ, sv, k1, k2, k3, k4, k5, k6, k7, k8, k9, k10⟩
    refine ⟨sv, k8, ?_, ?_⟩
    · rw [← k4]; exact k10
    · rw [← k5]; exact k9
  runs := fun args w => by kernel_rfl
  step := by
    intro b e l r n w ht hi
    obtain ⟨σ, sv, k1, k2, k3, k4, k5, k6, k7, k8, k9, k10⟩ := hi
    simp only [tot] at k3
    have hI := bef1_c k1 d rp v ht (by omega) k6 k7 k8 k9 k10 hne hG
    rw [List.append_toArray]
    refine Calls.mono hI ?_
    rintro x w' ⟨rfl, hx, m1, m2, m3⟩
    refine ⟨_, rfl, hx, fun hc => ?_, fun hc => ?_, fun hc => ?_⟩
    · have ex := m1 hc
      exact ⟨σ, sv, k1.ext ex, (sorted_parts k2).1, by omega, by rw [← look_lt k2 hc]; exact k4, by rw [← bef_lt k2 hc]; exact k5, k6.ext ex, k7.ext ex, k8.ext ex, k9.ext ex, k10.ext ex⟩
    · obtain ⟨sv', p1, p2, p3⟩ := m3 hc
      refine ⟨_, sv', k1.le hx.1, (sorted_parts k2).2, by omega, by rw [← look_gt k2 hc]; exact k4, ?_, k6.but h2 hx, k7.but h3 hx, p1, p3, p2⟩
      have := bef_gt k2 hc
      rw [tot_lst] at this
      simp only [lst] at k5
      omega
    · obtain ⟨sv', p1, p2, p3⟩ := m2 hc
      have hl := look_eq k2 hc
      have hb := bef_eq k2 hc
      rw [tot_lst] at hb
      simp only [lst] at k4 k5
      refine ⟨sv', p1, ?_, ?_⟩
      · rw [← k4, hl]; exact p2
      · rw [← k5, hb]; exact p3
/-- Before's three results. -/
def BefRes (S : Nat → Prop) (r0 : Option Nat) (B0 H : Nat) (w : World) (e : Ending) (w' : World) : Prop :=
  Ext w w' ∧ ∃ sv n, e = .returned (.tuple #[sv, .bool r0.isSome, .int .i64 (n : Nat)]) ∧ n ≤ H ∧ NatV S w' sv B0
set_option maxHeartbeats 2000000 in
set_option maxRecDepth 100000 in
/-- Before -/
theorem Before_c {w : World} (hS : Fresh S w) (d : Bool) (rp : Option Addr) (v : GV) {t : T} (ht0 : TreeV S w rp t) (hso : Sorted d (lst t)) (hs : sz t < 100000000000) (hb : tot t < bigN) :
    Calls Try.prog 28 #[.agg #[.bool d, .pointer rp], .agg #[.int .i64 v.kind, .int .i64 v.num, .string v.str]] w (BefRes S (lookL d v (lst t)) (befL d v (lst t)) (ht t) w) := by
  obtain ⟨vk, vn, vs⟩ := v
  have HT := Lib.hid (And.intro ht0 (And.intro hso (And.intro hb hS)))
  clear ht0 hso hb hS
  go_enter Try.func28, Try.ntmps28
  go_wp2_with fail
  generalize hW0 : (((w.alloc (.cells #[.bool d, .pointer rp] 27)).alloc (.cells #[.int .i64 vk, .int .i64 vn, .string vs] 38)).alloc (.cells #[.slice none 0 0] 30)).alloc (.cells #[.bool false] 4) = w0
  obtain ⟨he0, hb1, hb2, hb3, hb4⟩ := box4 w [.bool d, .pointer rp] [.int .i64 vk, .int .i64 vn, .string vs] [.slice none 0 0] [.bool false] _ _ _ _ w0 hW0
  clear hW0
  have hlt := hb4.lt
  have hI := walk_c (bef_chooses (S := fun b => S b ∧ ¬ (b = w.heap.size + 1 + 1 ∨ b = w.heap.size + 1 + 1 + 1)) (d := d) (rp := rp) (v := ⟨vk, vn, vs⟩) (r0 := lookL d ⟨vk, vn, vs⟩ (lst t)) (B0 := befL d ⟨vk, vn, vs⟩ (lst t)) (g2 := w.heap.size) (g3 := w.heap.size + 1) (gs := w.heap.size + 1 + 1) (gf := w.heap.size + 1 + 1 + 1) (by omega) (fun b h => h.2) (by omega) (by omega)) (d := d) (w := w0) ((HT.out.1.old.mono (fun b h => ⟨h.1, by have := h.2; omega⟩)).ext he0) hs ⟨0, .slice none 0 0, fun b hb => ⟨HT.out.2.2.2.ext he0 b hb, by omega⟩, HT.out.2.1, by have := HT.out.2.2.1; omega, rfl, by omega, hb1, hb2, hb3, NatV.zero _, hb4⟩
  with_reducible refine hI.mono ?_
  clear hI
  rintro e w1 ⟨n, rfl, ⟨sv, p1, p2, p3⟩, hx, hn⟩
  have hX : Ext w w1 := hx.ext he0 (by omega)
  clear hb1 hb2 hb3 hb4 hx he0
  obtain ⟨fo, hfo⟩ : ∃ fo, (lookL d ⟨vk, vn, vs⟩ (lst t)).isSome = fo := ⟨_, rfl⟩
  rw [hfo] at p2
  obtain ⟨na, nk, nc, rfl⟩ := slice_of_nat p3
  have HN := Lib.hid (And.intro p3 hfo)
  obtain ⟨z0, -⟩ := one_cell p1
  obtain ⟨u0, -⟩ := one_cell p2
  clear p1 p2 p3 hfo
  go_wp2_with fail
  refine wp_region_mixE 7 [(0, 0), (1, 0), (2, 3), (3, 3), (4, 3), (5, 3)] (by kernel_rfl) (fun _ _ d _ _ h => by cases d <;> exact h) ?_
  intro w2 hw2
  simp only [List.map_cons, List.map_nil, mixPick_lt _ _ 0 rfl, mixPick_lt _ _ 1 rfl, mixPick_lt _ _ 2 rfl, mixPick_lt _ _ 3 rfl, mixPick_fork, List.getD_cons_zero, List.getD_cons_succ]
  generalize yielded _ = y
  have te2 := fun W (h : Ext w2 W) => hw2.trans h
  repeat (first | (refine mx_pu (v := ?_) rfl (fun W => ?_) ?_; rotate_left; (focus (go_simp <;> with_reducible rfl)); simp only [Act.put, List.setIfInBounds_toArray, List.set_cons_zero, List.set_cons_succ]) | (refine mx_st (v := ?_) rfl (fun W hW => ?_) ?_; rotate_left; (focus (go_simp <;> with_reducible rfl)); simp only [Act.put, List.setIfInBounds_toArray, List.set_cons_zero, List.set_cons_succ]))
  refine mx_nil ?_
  go_wp2_with fail
  go_ret3
  refine ⟨hX.trans hw2, .slice na nk nc, n, ?_, hn, (HN.out.1.mono (fun b h => h.1)).ext hw2⟩
  rw [HN.out.2]
  rfl
end Go.Proofs.Ytbbnpicddmplbaa

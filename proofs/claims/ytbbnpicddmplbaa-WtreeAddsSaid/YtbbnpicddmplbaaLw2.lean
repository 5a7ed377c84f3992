/- Laws of chapter 39: awake, the example of the chapter. -/
import Derived.Test.YtbbnpicddmplbaaLw
namespace Go.Proofs.Ytbbnpicddmplbaa
open Go.RowKit Go.Deep
set_option linter.unusedVariables false
set_option linter.unusedSimpArgs false
variable {S : Nat → Prop}


theorem of_nat' {w : World} (hS : Fresh S w) (k : Int) (n : Nat) (hk : k = n) (hn : n < 18446744073709551616) :
    Calls Try.prog 14 #[.int .u64 k] w fun e w' => ∃ v', e = .returned v' ∧ Ext w w' ∧ NatV S w' v' n := by
  subst hk
  exact of_nat hS n hn
abbrev awA : GV := ⟨1, 20, ⟨#[]⟩⟩
abbrev awB : GV := ⟨1, 10, ⟨#[]⟩⟩
theorem awake_list : findL 0 2 (insL false (awB, 2) (insL false (awA, 3) [])) = some (awA, 2) := by rfl
theorem awake_len : insL false (awA, 3) [] = [(awA, 3)] := by rfl
theorem awake_two : insL false (awB, 2) [(awA, 3)] = [(awB, 2), (awA, 3)] := by rfl
theorem bigN_gt {n : Nat} (h : n ≤ 1000000) : n < bigN := by
  have h1 : 4294967296 ^ 1 ≤ 4294967296 ^ bigK := Nat.pow_le_pow_right (by omega) (by unfold bigK; omega)
  unfold bigN
  omega
theorem Fresh.ne {w : World} {g : Nat} (hg : g < w.heap.size) : Fresh (fun b => b ≠ g) w := fun b hb => by omega
theorem is_c' {w : World} {v : Value} {m : Nat} (h : NatV S w v m) (k : Int) (n : Nat) (hk : k = n) (hn : n < 18446744073709551616) :
    Calls Try.prog 25 #[v, .int .u64 k] w fun e w' => e = .returned (.bool (decide (m = n))) ∧ Ext w w' := by
  subst hk
  exact is_c h n hn
theorem Blk.set3' {w : World} {g : Nat} {x y z a b c : Value} {t : TypeId} (h : Blk w g [x, y, z] t) : Blk (((w.setCell ⟨g, 0, none⟩ a).setCell ⟨g, 1, none⟩ b).setCell ⟨g, 2, none⟩ c) g [a, b, c] t := by
  have := ((h.set 0 a).set 1 b).set 2 c
  simpa using this
/-- What Find says of the example. -/
theorem find_awake {t : T} {kl : List Nat} {H : Nat} {w w' : World} {e : Ending} (hl : lst t = [(awB, 2), (awA, 3)]) (hk : nval kl = 2) (h : FindRes S (findL 0 (nval kl) (lst t)) H w e w') :
    ∃ a k c, ∃ n : Nat, Ext w w' ∧ e = .returned (.tuple #[.agg #[.int .i64 1, .int .i64 20, .string ⟨#[]⟩], .slice a k c, .int .i64 (n : Nat), .int .i64 0]) ∧ NatV S w' (.slice a k c) 2 := by
  obtain ⟨h1, ⟨h2, -⟩ | ⟨x, p, sv, n, h2, rfl, -, h3⟩⟩ := h
  · rw [hk, hl] at h2
    cases h2
  · rw [hk, hl] at h2
    cases h2
    obtain ⟨a, k, c, rfl⟩ := slice_of_nat h3
    exact ⟨a, k, c, n, h1, rfl, h3⟩
set_option maxHeartbeats 4000000 in
set_option maxRecDepth 100000 in
theorem awake_c {w : World} : Calls Try.prog 10 #[] w fun e w' => e = .returned (.bool true) ∧ Ext w w' := by
  go_enter Try.func10, Try.ntmps10
  go_wp2_with fail
  with_reducible refine (New_c false).mono ?_
  rintro e w1 ⟨rfl, hw1⟩
  go_wp2_with fail
  have hk := Blk.new w1 [.bool false, .pointer none] 27
  have hx := Ext.alloc w1 (.cells #[.bool false, .pointer none] 27)
  have hsz : w.heap.size ≤ w1.heap.size := hw1.size
  generalize w1.alloc (.cells #[.bool false, .pointer none] 27) = w2 at hk hx ⊢
  have He2 := Lib.hid (hw1.trans hx)
  generalize w1.heap.size = g at *
  obtain ⟨q0, q1⟩ := boxT hk
  have f0 := hk.freeF 0
  have f1 := hk.freeF 1
  have HK := Lib.hid hk
  have Ew2 := Lib.hid (Ext.refl w2)
  clear hk hx hw1
  refine wp_region_mixE 10 [(0, 0), (1, 3), (2, 1), (3, 1), (4, 3), (5, 3), (6, 3), (7, 2), (8, 3)] (by kernel_rfl) (fun _ _ d _ _ h => by cases d <;> exact h) ?_
  intro w3 hw3
  simp only [List.map_cons, List.map_nil, mixPick_lt _ _ 0 rfl, mixPick_lt _ _ 1 rfl, mixPick_lt _ _ 2 rfl, mixPick_lt _ _ 3 rfl, mixPick_fork, List.getD_cons_zero, List.getD_cons_succ]
  generalize yielded _ = y
  have Ew3 := Lib.hid (Ew2.out.trans hw3)
  have tew3 := fun W (h : Ext w3 W) => Ew3.out.trans h
  have hg3 : g < w3.heap.size := (HK.out.ext Ew3.out).lt
  repeat (first | (refine mx_pu (v := ?_) rfl (fun W => ?_) ?_; rotate_left; (focus (go_simp <;> with_reducible rfl)); simp only [Act.put, List.setIfInBounds_toArray, List.set_cons_zero, List.set_cons_succ]) | (refine mx_st (v := ?_) rfl (fun W hW => ?_) ?_; rotate_left; (focus (go_simp <;> with_reducible rfl)); simp only [Act.put, List.setIfInBounds_toArray, List.set_cons_zero, List.set_cons_succ]))
  refine mx_call (f := ?_) (args := ?_) rfl ?_ ?_
  rotate_left 2
  focus (go_simp <;> (refine ⟨?_, ?_⟩ <;> with_reducible rfl))
  have hI := of_nat' (Fresh.ne hg3) 3 3 rfl (by omega)
  with_reducible refine hI.mono ?_
  clear hI
  rintro e' w4 ⟨v4, rfl, hw4, l4, d4, n4, e4⟩
  obtain ⟨a4, c4, rfl, -⟩ := id d4
  refine ⟨_, rfl, hw4, ?_⟩
  simp only [Act.put, List.setIfInBounds_toArray, List.set_cons_zero, List.set_cons_succ]
  have Ew4 := Lib.hid (Ew3.out.trans hw4)
  have tew4 := fun W (h : Ext w4 W) => Ew4.out.trans h
  clear tew3
  repeat (first | (refine mx_pu (v := ?_) rfl (fun W => ?_) ?_; rotate_left; (focus (go_simp <;> with_reducible rfl)); simp only [Act.put, List.setIfInBounds_toArray, List.set_cons_zero, List.set_cons_succ]) | (refine mx_st (v := ?_) rfl (fun W hW => ?_) ?_; rotate_left; (focus (go_simp <;> with_reducible rfl)); simp only [Act.put, List.setIfInBounds_toArray, List.set_cons_zero, List.set_cons_succ]))
  refine mx_call (f := ?_) (args := ?_) rfl ?_ ?_
  rotate_left 2
  focus (go_simp <;> (refine ⟨?_, ?_⟩ <;> with_reducible rfl))
  have hI := Put_ok ((Fresh.ne hg3).ext hw4) false none awA (.slice a4 l4.length c4) (t := .nil) ((TreeV.nil w2).ext Ew4.out) trivial (List.Pairwise.nil) (by simp [sz]) (by rw [e4]; exact bigN_gt (by simp [tot])) d4 (by have := bigK_le (n4.length_of_lt (by rw [e4]; exact bigN_gt (by omega))); omega) rfl (by omega)
  with_reducible refine hI.mono ?_
  clear hI
  rintro e' w5 ⟨p5, t5, rfl, hw5, ht5, hl5, ha5⟩
  refine ⟨_, rfl, hw5, ?_⟩
  rw [e4] at hl5
  clear d4 n4 e4
  simp only [Act.put, List.setIfInBounds_toArray, List.set_cons_zero, List.set_cons_succ]
  have Ew5 := Lib.hid (Ew4.out.trans hw5)
  have tew5 := fun W (h : Ext w5 W) => Ew5.out.trans h
  clear tew4
  repeat (first | (refine mx_pu (v := ?_) rfl (fun W => ?_) ?_; rotate_left; (focus (go_simp <;> with_reducible rfl)); simp only [Act.put, List.setIfInBounds_toArray, List.set_cons_zero, List.set_cons_succ]) | (refine mx_st (v := ?_) rfl (fun W hW => ?_) ?_; rotate_left; (focus (go_simp <;> with_reducible rfl)); simp only [Act.put, List.setIfInBounds_toArray, List.set_cons_zero, List.set_cons_succ]))
  have ew5 := Ew5.out
  refine mx_ts (w' := ?_) rfl ?_ ?_
  rotate_left
  focus (go_simp <;> with_reducible rfl)
  have hk := (HK.out.ext ew5).set2 (a := .bool false) (b := .pointer p5)
  have hbt := ExtBut.set2 w5 (g) (.bool false) (.pointer p5)
  generalize (World.setCell w5 ⟨g, 0, none⟩ (.bool false)).setCell ⟨g, 1, none⟩ (.pointer p5) = w6 at hk hbt ⊢
  have HT6 := Lib.hid (ht5.but (fun b h => h) hbt)
  have HX := Lib.hid (hbt.ext (He2.out.trans ew5) (fun b h => by subst h; exact hsz))
  clear hbt ht5 tew5 q0 q1 f0 f1 ew5 HK He2 hg3
  have He6 := HX
  clear HX
  obtain ⟨q0, q1⟩ := boxT hk
  have f0 := hk.freeF 0
  have f1 := hk.freeF 1
  have HK := Lib.hid hk
  have Ew6 := Lib.hid (Ext.refl w6)
  clear hk
  simp only [Act.put, List.setIfInBounds_toArray, List.set_cons_zero, List.set_cons_succ]
  repeat (first | (refine mx_pu (v := ?_) rfl (fun W => ?_) ?_; rotate_left; (focus (go_simp <;> with_reducible rfl)); simp only [Act.put, List.setIfInBounds_toArray, List.set_cons_zero, List.set_cons_succ]) | (refine mx_st (v := ?_) rfl (fun W hW => ?_) ?_; rotate_left; (focus (go_simp <;> with_reducible rfl)); simp only [Act.put, List.setIfInBounds_toArray, List.set_cons_zero, List.set_cons_succ]))
  refine mx_nil ?_
  go_wp2_with fail
  have hl6 : lst t5 = [(awA, 3)] := hl5
  have hs6 : sz t5 = 1 := by rw [← sz_lst, hl6]; rfl
  have hu6 : tot t5 = 3 := by rw [← tot_lst, hl6]; rfl
  have HL6 := Lib.hid (And.intro hl6 (And.intro hs6 (And.intro hu6 ha5)))
  clear hl5 hl6 hs6 hu6 ha5
  refine wp_region_mixE 10 [(0, 0), (1, 3), (2, 1), (3, 1), (4, 3), (5, 3), (6, 3), (7, 2), (8, 3)] (by kernel_rfl) (fun _ _ d _ _ h => by cases d <;> exact h) ?_
  intro w7 hw7
  simp only [List.map_cons, List.map_nil, mixPick_lt _ _ 0 rfl, mixPick_lt _ _ 1 rfl, mixPick_lt _ _ 2 rfl, mixPick_lt _ _ 3 rfl, mixPick_fork, List.getD_cons_zero, List.getD_cons_succ]
  generalize yielded _ = y
  have Ew7 := Lib.hid (Ew6.out.trans hw7)
  have tew7 := fun W (h : Ext w7 W) => Ew7.out.trans h
  have hg3 : g < w7.heap.size := (HK.out.ext Ew7.out).lt
  repeat (first | (refine mx_pu (v := ?_) rfl (fun W => ?_) ?_; rotate_left; (focus (go_simp <;> with_reducible rfl)); simp only [Act.put, List.setIfInBounds_toArray, List.set_cons_zero, List.set_cons_succ]) | (refine mx_st (v := ?_) rfl (fun W hW => ?_) ?_; rotate_left; (focus (go_simp <;> with_reducible rfl)); simp only [Act.put, List.setIfInBounds_toArray, List.set_cons_zero, List.set_cons_succ]))
  refine mx_call (f := ?_) (args := ?_) rfl ?_ ?_
  rotate_left 2
  focus (go_simp <;> (refine ⟨?_, ?_⟩ <;> with_reducible rfl))
  have hI := of_nat' (Fresh.ne hg3) 2 2 rfl (by omega)
  with_reducible refine hI.mono ?_
  clear hI
  rintro e' w8 ⟨v4, rfl, hw8, l4, d4, n4, e4⟩
  obtain ⟨a4, c4, rfl, -⟩ := id d4
  refine ⟨_, rfl, hw8, ?_⟩
  simp only [Act.put, List.setIfInBounds_toArray, List.set_cons_zero, List.set_cons_succ]
  have Ew8 := Lib.hid (Ew7.out.trans hw8)
  have tew8 := fun W (h : Ext w8 W) => Ew8.out.trans h
  clear tew7
  repeat (first | (refine mx_pu (v := ?_) rfl (fun W => ?_) ?_; rotate_left; (focus (go_simp <;> with_reducible rfl)); simp only [Act.put, List.setIfInBounds_toArray, List.set_cons_zero, List.set_cons_succ]) | (refine mx_st (v := ?_) rfl (fun W hW => ?_) ?_; rotate_left; (focus (go_simp <;> with_reducible rfl)); simp only [Act.put, List.setIfInBounds_toArray, List.set_cons_zero, List.set_cons_succ]))
  refine mx_call (f := ?_) (args := ?_) rfl ?_ ?_
  rotate_left 2
  focus (go_simp <;> (refine ⟨?_, ?_⟩ <;> with_reducible rfl))
  have hI := Put_ok ((Fresh.ne hg3).ext hw8) false p5 awB (.slice a4 l4.length c4) (t := t5) (HT6.out.ext Ew8.out) HL6.out.2.2.2 (by rw [HL6.out.1]; exact List.pairwise_singleton _ _) (by rw [HL6.out.2.1]; omega) (by rw [e4, HL6.out.2.2.1]; exact bigN_gt (by omega)) d4 (by have := bigK_le (n4.length_of_lt (by rw [e4]; exact bigN_gt (by omega))); omega) rfl (by omega)
  with_reducible refine hI.mono ?_
  clear hI
  rintro e' w9 ⟨p9, t9, rfl, hw9, ht9, hl9, ha9⟩
  refine ⟨_, rfl, hw9, ?_⟩
  rw [e4] at hl9
  clear d4 n4 e4
  simp only [Act.put, List.setIfInBounds_toArray, List.set_cons_zero, List.set_cons_succ]
  have Ew9 := Lib.hid (Ew8.out.trans hw9)
  have tew9 := fun W (h : Ext w9 W) => Ew9.out.trans h
  clear tew8
  repeat (first | (refine mx_pu (v := ?_) rfl (fun W => ?_) ?_; rotate_left; (focus (go_simp <;> with_reducible rfl)); simp only [Act.put, List.setIfInBounds_toArray, List.set_cons_zero, List.set_cons_succ]) | (refine mx_st (v := ?_) rfl (fun W hW => ?_) ?_; rotate_left; (focus (go_simp <;> with_reducible rfl)); simp only [Act.put, List.setIfInBounds_toArray, List.set_cons_zero, List.set_cons_succ]))
  have ew9 := Ew9.out
  refine mx_ts (w' := ?_) rfl ?_ ?_
  rotate_left
  focus (go_simp <;> with_reducible rfl)
  have hk := (HK.out.ext ew9).set2 (a := .bool false) (b := .pointer p9)
  have hbt := ExtBut.set2 w9 (g) (.bool false) (.pointer p9)
  generalize (World.setCell w9 ⟨g, 0, none⟩ (.bool false)).setCell ⟨g, 1, none⟩ (.pointer p9) = w10 at hk hbt ⊢
  have HT10 := Lib.hid (ht9.but (fun b h => h) hbt)
  have HX := Lib.hid (hbt.ext (He6.out.trans ew9) (fun b h => by subst h; exact hsz))
  clear hbt ht9 tew9 q0 q1 f0 f1 ew9 HK He6 hg3
  have He10 := HX
  clear HX
  obtain ⟨q0, q1⟩ := boxT hk
  have f0 := hk.freeF 0
  have f1 := hk.freeF 1
  have HK := Lib.hid hk
  have Ew10 := Lib.hid (Ext.refl w10)
  clear hk
  simp only [Act.put, List.setIfInBounds_toArray, List.set_cons_zero, List.set_cons_succ]
  repeat (first | (refine mx_pu (v := ?_) rfl (fun W => ?_) ?_; rotate_left; (focus (go_simp <;> with_reducible rfl)); simp only [Act.put, List.setIfInBounds_toArray, List.set_cons_zero, List.set_cons_succ]) | (refine mx_st (v := ?_) rfl (fun W hW => ?_) ?_; rotate_left; (focus (go_simp <;> with_reducible rfl)); simp only [Act.put, List.setIfInBounds_toArray, List.set_cons_zero, List.set_cons_succ]))
  refine mx_nil ?_
  go_wp2_with fail
  have hl10 : lst t9 = [(awB, 2), (awA, 3)] := by rw [hl9, HL6.out.1]; rfl
  have hs10 : sz t9 = 2 := by rw [← sz_lst, hl10]; rfl
  have hu10 : tot t9 = 5 := by rw [← tot_lst, hl10]; rfl
  have HL10 := Lib.hid (And.intro hl10 (And.intro hs10 (And.intro hu10 ha9)))
  clear hl9 hl10 hs10 hu10 ha9 HL6 HT6
  refine wp_region_mixE 39 [(0, 0), (24, 4), (1, 1), (11, 4), (2, 1), (3, 3), (4, 3), (5, 3), (6, 3), (7, 3), (8, 1), (9, 2), (10, 3), (11, 3), (12, 3), (8, 1), (2, 1), (3, 3), (4, 3), (5, 3), (6, 3), (7, 3), (9, 2), (10, 3), (11, 3), (12, 3), (8, 1), (1, 1), (2, 1), (3, 3), (4, 3), (5, 3), (6, 3), (7, 3), (9, 2), (10, 3), (11, 3), (12, 3)] (by kernel_rfl) (fun _ _ d _ _ h => by cases d <;> exact h) ?_
  intro w11 hw11
  simp only [List.map_cons, List.map_nil, mixPick_lt _ _ 0 rfl, mixPick_lt _ _ 1 rfl, mixPick_lt _ _ 2 rfl, mixPick_lt _ _ 3 rfl, mixPick_fork, List.getD_cons_zero, List.getD_cons_succ]
  generalize yielded _ = y
  have Ew11 := Lib.hid (Ew10.out.trans hw11)
  have tew11 := fun W (h : Ext w11 W) => Ew11.out.trans h
  have hg11 : g < w11.heap.size := (HK.out.ext Ew11.out).lt
  have hz11 := hw11.size
  have hzz := He10.out.size
  repeat (first | (refine mx_pu (v := ?_) rfl (fun W => ?_) ?_; rotate_left; (focus (go_simp <;> with_reducible rfl)); simp only [Act.put, List.setIfInBounds_toArray, List.set_cons_zero, List.set_cons_succ]) | (refine mx_st (v := ?_) rfl (fun W hW => ?_) ?_; rotate_left; (focus (go_simp <;> with_reducible rfl)); simp only [Act.put, List.setIfInBounds_toArray, List.set_cons_zero, List.set_cons_succ]))
  refine mx_two ?_ ?_
  · simp only [List.take_succ_cons, List.take_zero]
    refine mx_call (f := ?_) (args := ?_) rfl ?_ ?_
    rotate_left 2
    focus (go_simp <;> (refine ⟨?_, ?_⟩ <;> with_reducible rfl))
    have hI := of_nat' (S := fun b => b ≠ g) (Fresh.ne (by omega)) 2 2 rfl (by omega)
    with_reducible refine hI.mono ?_
    clear hI
    rintro e' w12 ⟨v4, rfl, hw12, l4, d4, n4, e4⟩
    obtain ⟨a4, c4, rfl, -⟩ := id d4
    refine ⟨_, rfl, hw12, ?_⟩
    simp only [Act.put, List.setIfInBounds_toArray, List.set_cons_zero, List.set_cons_succ]
    have Ew12 := Lib.hid (Ew11.out.trans hw12)
    have tew12 := fun W (h : Ext w12 W) => Ew12.out.trans h
    clear tew11
    have hz12 := hw12.size
    have D4 := Lib.hid (And.intro d4 e4)
    clear d4 n4 e4
    repeat (first | (refine mx_pu (v := ?_) rfl (fun W => ?_) ?_; rotate_left; (focus (go_simp <;> with_reducible rfl)); simp only [Act.put, List.setIfInBounds_toArray, List.set_cons_zero, List.set_cons_succ]) | (refine mx_st (v := ?_) rfl (fun W hW => ?_) ?_; rotate_left; (focus (go_simp <;> with_reducible rfl)); simp only [Act.put, List.setIfInBounds_toArray, List.set_cons_zero, List.set_cons_succ]))
    refine mx_two ?_ ?_
    · simp only [List.take_succ_cons, List.take_zero]
      refine mx_call (f := ?_) (args := ?_) rfl ?_ ?_
      rotate_left 2
      focus (go_simp <;> (refine ⟨?_, ?_⟩ <;> with_reducible rfl))
      have hI := Find_c (S := fun b => b ≠ g) (Fresh.ne (by omega)) false p9 (D4.out.1) (t := t9) ((HT10.out.old.mono (fun b h => by have := h.1; have := h.2; omega)).ext Ew12.out) (by rw [HL10.out.2.1]; omega) (by rw [HL10.out.2.2.1]; exact bigN_gt (by omega))
      with_reducible refine hI.mono ?_
      clear hI
      intro e' w13 hF
      obtain ⟨na, nk, nc, n, hw13, rfl, hN⟩ := find_awake HL10.out.1 D4.out.2 hF
      clear hF
      refine ⟨_, rfl, hw13, ?_⟩
      simp only [Act.put, List.setIfInBounds_toArray, List.set_cons_zero, List.set_cons_succ]
      have Ew13 := Lib.hid (Ew12.out.trans hw13)
      have tew13 := fun W (h : Ext w13 W) => Ew13.out.trans h
      clear tew12
      have hz13 := hw13.size
      have HN := Lib.hid hN
      clear hN
      repeat (first | (refine mx_pu (v := ?_) rfl (fun W => ?_) ?_; rotate_left; (focus (go_simp <;> with_reducible rfl)); simp only [Act.put, List.setIfInBounds_toArray, List.set_cons_zero, List.set_cons_succ]) | (refine mx_st (v := ?_) rfl (fun W hW => ?_) ?_; rotate_left; (focus (go_simp <;> with_reducible rfl)); simp only [Act.put, List.setIfInBounds_toArray, List.set_cons_zero, List.set_cons_succ]))
      refine mx_al (v := ?_) (cs := ?_) (t := ?_) rfl ?_ (fun _ h => h) ?_
      rotate_left 3
      focus (go_simp <;> (first | with_reducible rfl | (refine ⟨?_, ?_⟩ <;> with_reducible rfl)))
      intro w14 hw14 hb0
      simp only [Act.put, List.setIfInBounds_toArray, List.set_cons_zero, List.set_cons_succ]
      have Ew14 := Lib.hid (Ew13.out.trans hw14)
      have tew14 := fun W (h : Ext w14 W) => Ew14.out.trans h
      clear tew13
      have hbl : Blk w14 w13.heap.size [.int .i64 0, .int .i64 0, .string ⟨#[]⟩] 38 := hb0
      clear hb0
      have hgb : w13.heap.size < w14.heap.size := hbl.lt
      generalize hgbe : w13.heap.size = gb at *
      have HGB := Lib.hid hgbe
      clear hgbe
      repeat (first | (refine mx_pu (v := ?_) rfl (fun W => ?_) ?_; rotate_left; (focus (go_simp <;> with_reducible rfl)); simp only [Act.put, List.setIfInBounds_toArray, List.set_cons_zero, List.set_cons_succ]) | (refine mx_st (v := ?_) rfl (fun W hW => ?_) ?_; rotate_left; (focus (go_simp <;> with_reducible rfl)); simp only [Act.put, List.setIfInBounds_toArray, List.set_cons_zero, List.set_cons_succ]))
      have hbc := hbl
      obtain ⟨z0, z1, z2⟩ := boxV hbc
      have v0 := hbc.freeF 0
      have v1 := hbc.freeF 1
      have v2 := hbc.freeF 2
      have er := Ext.refl w14
      have HBL := Lib.hid hbc
      clear hbl hbc
      refine mx_ts (w' := ?_) rfl ?_ ?_
      rotate_left
      focus (go_simp <;> with_reducible rfl)
      have hk := HBL.out.set3' (a := .int .i64 1) (b := .int .i64 20) (c := .string ⟨#[]⟩)
      have hbt := ExtBut.set3 (G := fun b => b = gb) w14 gb (.int .i64 1) (.int .i64 20) (.string ⟨#[]⟩) rfl
      generalize ((World.setCell w14 ⟨gb, 0, none⟩ (.int .i64 1)).setCell ⟨gb, 1, none⟩ (.int .i64 20)).setCell ⟨gb, 2, none⟩ (.string ⟨#[]⟩) = w15 at hk hbt ⊢
      clear er z0 z1 z2 v0 v1 v2
      simp only [Act.put, List.setIfInBounds_toArray, List.set_cons_zero, List.set_cons_succ]
      repeat (first | (refine mx_pu (v := ?_) rfl (fun W => ?_) ?_; rotate_left; (focus (go_simp <;> with_reducible rfl)); simp only [Act.put, List.setIfInBounds_toArray, List.set_cons_zero, List.set_cons_succ]) | (refine mx_st (v := ?_) rfl (fun W hW => ?_) ?_; rotate_left; (focus (go_simp <;> with_reducible rfl)); simp only [Act.put, List.setIfInBounds_toArray, List.set_cons_zero, List.set_cons_succ]))
      refine mx_nil ?_
      have k1 : w15.cell? ⟨gb, 1, none⟩ = some (.int .i64 20) := hk.cell 1
      have HF := Lib.hid (And.intro (hbt.ext (He10.out.trans Ew14.out) (fun b h => by subst h; have := Ew10.out.size; have := He10.out.size; omega)) (((HN.out.old.mono (S' := fun b => b < gb) (fun b h => by have := h.2; have := HGB.out; omega)).ext hw14).but (fun b h => by omega) hbt))
      clear hk hbt
      go_wp2_with fail
      with_reducible refine (is_c' HF.out.2 2 2 rfl (by omega)).mono ?_
      rintro e' w' ⟨rfl, hw'⟩
      go_wp2_with fail
      go_ret
      exact ⟨by rfl, HF.out.1.trans hw'⟩
    · simp only [List.drop_succ_cons, List.drop_zero]
      refine mx_al (v := ?_) (cs := ?_) (t := ?_) rfl ?_ (fun _ h => h) ?_
      rotate_left 3
      focus (go_simp <;> (first | with_reducible rfl | (refine ⟨?_, ?_⟩ <;> with_reducible rfl)))
      intro w13 hw13 hb0
      simp only [Act.put, List.setIfInBounds_toArray, List.set_cons_zero, List.set_cons_succ]
      have Ew13 := Lib.hid (Ew12.out.trans hw13)
      have tew13 := fun W (h : Ext w13 W) => Ew13.out.trans h
      clear tew12
      have hbl : Blk w13 w12.heap.size [.int .i64 0, .int .i64 0, .string ⟨#[]⟩] 38 := hb0
      clear hb0
      have hgb : w12.heap.size < w13.heap.size := hbl.lt
      generalize hgbe : w12.heap.size = gb at *
      have HGB := Lib.hid hgbe
      clear hgbe
      repeat (first | (refine mx_pu (v := ?_) rfl (fun W => ?_) ?_; rotate_left; (focus (go_simp <;> with_reducible rfl)); simp only [Act.put, List.setIfInBounds_toArray, List.set_cons_zero, List.set_cons_succ]) | (refine mx_st (v := ?_) rfl (fun W hW => ?_) ?_; rotate_left; (focus (go_simp <;> with_reducible rfl)); simp only [Act.put, List.setIfInBounds_toArray, List.set_cons_zero, List.set_cons_succ]))
      refine mx_call (f := ?_) (args := ?_) rfl ?_ ?_
      rotate_left 2
      focus (go_simp <;> (refine ⟨?_, ?_⟩ <;> with_reducible rfl))
      have hI := Find_c (S := fun b => b ≠ gb) (Fresh.ne (by omega)) false p9 ((D4.out.1.old.mono (fun b h => by have := h.2; have := HGB.out; omega)).ext hw13) (t := t9) ((HT10.out.old.mono (fun b h => by have := h.1; have := h.2; omega)).ext Ew13.out) (by rw [HL10.out.2.1]; omega) (by rw [HL10.out.2.2.1]; exact bigN_gt (by omega))
      with_reducible refine hI.mono ?_
      clear hI
      intro e' w14 hF
      obtain ⟨na, nk, nc, n, hw14, rfl, hN⟩ := find_awake HL10.out.1 D4.out.2 hF
      clear hF
      refine ⟨_, rfl, hw14, ?_⟩
      simp only [Act.put, List.setIfInBounds_toArray, List.set_cons_zero, List.set_cons_succ]
      have Ew14 := Lib.hid (Ew13.out.trans hw14)
      have tew14 := fun W (h : Ext w14 W) => Ew14.out.trans h
      clear tew13
      have hz14 := hw14.size
      have HN := Lib.hid hN
      clear hN
      repeat (first | (refine mx_pu (v := ?_) rfl (fun W => ?_) ?_; rotate_left; (focus (go_simp <;> with_reducible rfl)); simp only [Act.put, List.setIfInBounds_toArray, List.set_cons_zero, List.set_cons_succ]) | (refine mx_st (v := ?_) rfl (fun W hW => ?_) ?_; rotate_left; (focus (go_simp <;> with_reducible rfl)); simp only [Act.put, List.setIfInBounds_toArray, List.set_cons_zero, List.set_cons_succ]))
      have hbl := hbl.ext hw14
      have hbc := hbl
      obtain ⟨z0, z1, z2⟩ := boxV hbc
      have v0 := hbc.freeF 0
      have v1 := hbc.freeF 1
      have v2 := hbc.freeF 2
      have er := Ext.refl w14
      have HBL := Lib.hid hbc
      clear hbl hbc
      refine mx_ts (w' := ?_) rfl ?_ ?_
      rotate_left
      focus (go_simp <;> with_reducible rfl)
      have hk := HBL.out.set3' (a := .int .i64 1) (b := .int .i64 20) (c := .string ⟨#[]⟩)
      have hbt := ExtBut.set3 (G := fun b => b = gb) w14 gb (.int .i64 1) (.int .i64 20) (.string ⟨#[]⟩) rfl
      generalize ((World.setCell w14 ⟨gb, 0, none⟩ (.int .i64 1)).setCell ⟨gb, 1, none⟩ (.int .i64 20)).setCell ⟨gb, 2, none⟩ (.string ⟨#[]⟩) = w15 at hk hbt ⊢
      clear er z0 z1 z2 v0 v1 v2
      simp only [Act.put, List.setIfInBounds_toArray, List.set_cons_zero, List.set_cons_succ]
      repeat (first | (refine mx_pu (v := ?_) rfl (fun W => ?_) ?_; rotate_left; (focus (go_simp <;> with_reducible rfl)); simp only [Act.put, List.setIfInBounds_toArray, List.set_cons_zero, List.set_cons_succ]) | (refine mx_st (v := ?_) rfl (fun W hW => ?_) ?_; rotate_left; (focus (go_simp <;> with_reducible rfl)); simp only [Act.put, List.setIfInBounds_toArray, List.set_cons_zero, List.set_cons_succ]))
      refine mx_nil ?_
      have k1 : w15.cell? ⟨gb, 1, none⟩ = some (.int .i64 20) := hk.cell 1
      have HF := Lib.hid (And.intro (hbt.ext (He10.out.trans Ew14.out) (fun b h => by subst h; have := Ew10.out.size; have := He10.out.size; omega)) ((HN.out).but (fun b h => by omega) hbt))
      clear hk hbt
      go_wp2_with fail
      with_reducible refine (is_c' HF.out.2 2 2 rfl (by omega)).mono ?_
      rintro e' w' ⟨rfl, hw'⟩
      go_wp2_with fail
      go_ret
      exact ⟨by rfl, HF.out.1.trans hw'⟩
  · simp only [List.drop_succ_cons, List.drop_zero]
    refine mx_al (v := ?_) (cs := ?_) (t := ?_) rfl ?_ (fun _ h => h) ?_
    rotate_left 3
    focus (go_simp <;> (first | with_reducible rfl | (refine ⟨?_, ?_⟩ <;> with_reducible rfl)))
    intro w12 hw12 hb0
    simp only [Act.put, List.setIfInBounds_toArray, List.set_cons_zero, List.set_cons_succ]
    have Ew12 := Lib.hid (Ew11.out.trans hw12)
    have tew12 := fun W (h : Ext w12 W) => Ew12.out.trans h
    clear tew11
    have hbl : Blk w12 w11.heap.size [.int .i64 0, .int .i64 0, .string ⟨#[]⟩] 38 := hb0
    clear hb0
    have hgb : w11.heap.size < w12.heap.size := hbl.lt
    generalize hgbe : w11.heap.size = gb at *
    have HGB := Lib.hid hgbe
    clear hgbe
    repeat (first | (refine mx_pu (v := ?_) rfl (fun W => ?_) ?_; rotate_left; (focus (go_simp <;> with_reducible rfl)); simp only [Act.put, List.setIfInBounds_toArray, List.set_cons_zero, List.set_cons_succ]) | (refine mx_st (v := ?_) rfl (fun W hW => ?_) ?_; rotate_left; (focus (go_simp <;> with_reducible rfl)); simp only [Act.put, List.setIfInBounds_toArray, List.set_cons_zero, List.set_cons_succ]))
    refine mx_call (f := ?_) (args := ?_) rfl ?_ ?_
    rotate_left 2
    focus (go_simp <;> (refine ⟨?_, ?_⟩ <;> with_reducible rfl))
    have hI := of_nat' (S := fun b => b ≠ gb) (Fresh.ne (by omega)) 2 2 rfl (by omega)
    with_reducible refine hI.mono ?_
    clear hI
    rintro e' w13 ⟨v4, rfl, hw13, l4, d4, n4, e4⟩
    obtain ⟨a4, c4, rfl, -⟩ := id d4
    refine ⟨_, rfl, hw13, ?_⟩
    simp only [Act.put, List.setIfInBounds_toArray, List.set_cons_zero, List.set_cons_succ]
    have Ew13 := Lib.hid (Ew12.out.trans hw13)
    have tew13 := fun W (h : Ext w13 W) => Ew13.out.trans h
    clear tew12
    have hz13 := hw13.size
    have D4 := Lib.hid (And.intro d4 e4)
    clear d4 n4 e4
    repeat (first | (refine mx_pu (v := ?_) rfl (fun W => ?_) ?_; rotate_left; (focus (go_simp <;> with_reducible rfl)); simp only [Act.put, List.setIfInBounds_toArray, List.set_cons_zero, List.set_cons_succ]) | (refine mx_st (v := ?_) rfl (fun W hW => ?_) ?_; rotate_left; (focus (go_simp <;> with_reducible rfl)); simp only [Act.put, List.setIfInBounds_toArray, List.set_cons_zero, List.set_cons_succ]))
    refine mx_call (f := ?_) (args := ?_) rfl ?_ ?_
    rotate_left 2
    focus (go_simp <;> (refine ⟨?_, ?_⟩ <;> with_reducible rfl))
    have hI := Find_c (S := fun b => b ≠ gb) (Fresh.ne (by omega)) false p9 (D4.out.1) (t := t9) ((HT10.out.old.mono (fun b h => by have := h.1; have := h.2; omega)).ext Ew13.out) (by rw [HL10.out.2.1]; omega) (by rw [HL10.out.2.2.1]; exact bigN_gt (by omega))
    with_reducible refine hI.mono ?_
    clear hI
    intro e' w14 hF
    obtain ⟨na, nk, nc, n, hw14, rfl, hN⟩ := find_awake HL10.out.1 D4.out.2 hF
    clear hF
    refine ⟨_, rfl, hw14, ?_⟩
    simp only [Act.put, List.setIfInBounds_toArray, List.set_cons_zero, List.set_cons_succ]
    have Ew14 := Lib.hid (Ew13.out.trans hw14)
    have tew14 := fun W (h : Ext w14 W) => Ew14.out.trans h
    clear tew13
    have hz14 := hw14.size
    have HN := Lib.hid hN
    clear hN
    repeat (first | (refine mx_pu (v := ?_) rfl (fun W => ?_) ?_; rotate_left; (focus (go_simp <;> with_reducible rfl)); simp only [Act.put, List.setIfInBounds_toArray, List.set_cons_zero, List.set_cons_succ]) | (refine mx_st (v := ?_) rfl (fun W hW => ?_) ?_; rotate_left; (focus (go_simp <;> with_reducible rfl)); simp only [Act.put, List.setIfInBounds_toArray, List.set_cons_zero, List.set_cons_succ]))
    have hbl := (hbl.ext hw13).ext hw14
    have hbc := hbl
    obtain ⟨z0, z1, z2⟩ := boxV hbc
    have v0 := hbc.freeF 0
    have v1 := hbc.freeF 1
    have v2 := hbc.freeF 2
    have er := Ext.refl w14
    have HBL := Lib.hid hbc
    clear hbl hbc
    refine mx_ts (w' := ?_) rfl ?_ ?_
    rotate_left
    focus (go_simp <;> with_reducible rfl)
    have hk := HBL.out.set3' (a := .int .i64 1) (b := .int .i64 20) (c := .string ⟨#[]⟩)
    have hbt := ExtBut.set3 (G := fun b => b = gb) w14 gb (.int .i64 1) (.int .i64 20) (.string ⟨#[]⟩) rfl
    generalize ((World.setCell w14 ⟨gb, 0, none⟩ (.int .i64 1)).setCell ⟨gb, 1, none⟩ (.int .i64 20)).setCell ⟨gb, 2, none⟩ (.string ⟨#[]⟩) = w15 at hk hbt ⊢
    clear er z0 z1 z2 v0 v1 v2
    simp only [Act.put, List.setIfInBounds_toArray, List.set_cons_zero, List.set_cons_succ]
    repeat (first | (refine mx_pu (v := ?_) rfl (fun W => ?_) ?_; rotate_left; (focus (go_simp <;> with_reducible rfl)); simp only [Act.put, List.setIfInBounds_toArray, List.set_cons_zero, List.set_cons_succ]) | (refine mx_st (v := ?_) rfl (fun W hW => ?_) ?_; rotate_left; (focus (go_simp <;> with_reducible rfl)); simp only [Act.put, List.setIfInBounds_toArray, List.set_cons_zero, List.set_cons_succ]))
    refine mx_nil ?_
    have k1 : w15.cell? ⟨gb, 1, none⟩ = some (.int .i64 20) := hk.cell 1
    have HF := Lib.hid (And.intro (hbt.ext (He10.out.trans Ew14.out) (fun b h => by subst h; have := Ew10.out.size; have := He10.out.size; omega)) ((HN.out).but (fun b h => by omega) hbt))
    clear hk hbt
    go_wp2_with fail
    with_reducible refine (is_c' HF.out.2 2 2 rfl (by omega)).mono ?_
    rintro e' w' ⟨rfl, hw'⟩
    go_wp2_with fail
    go_ret
    exact ⟨by rfl, HF.out.1.trans hw'⟩
end Go.Proofs.Ytbbnpicddmplbaa

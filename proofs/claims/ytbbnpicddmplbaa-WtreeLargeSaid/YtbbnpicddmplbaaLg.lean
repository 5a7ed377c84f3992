/- WtreeLarge: weights of any size are added exactly. -/
import Derived.Test.YtbbnpicddmplbaaLw2
import Derived.Test.YtbbnpicddmplbaaLgP
import Derived.Test.YtbbnpicddmplbaaBas2
import Derived.Maps.Own
namespace Go.Proofs.Ytbbnpicddmplbaa
open Go.RowKit Go.Deep
set_option linter.unusedVariables false
set_option linter.unusedSimpArgs false
variable {S : Nat → Prop}


theorem own_made2 (w1 : World) (o1 o2 : Obj) (e : TypeId) : (((w1.alloc o1).alloc o2).alloc (.cells #[] e)).ownsRow (w1.heap.size + 1 + 1) e 1 (.slice (some ⟨w1.heap.size + 1 + 1, 0, none⟩) 0 0) 0 [] := by
  have h := World.ownsRow_made (base := w1.heap.size + 1 + 1) (size := 1) (e := e) ((w1.alloc o1).alloc o2) #[] 0 (by simp) (Nat.zero_le _) rfl
  simpa using h
theorem row1 (w : World) (v : Value) (t : TypeId) : RowAt (fun _ => True) (w.alloc (.cells #[v] t)) (some ⟨w.heap.size, 0, none⟩) [v] := rowAt_alloc w trivial [v] t
/-- All blocks but two. -/
def NotTwo (g m b : Nat) : Prop := b ≠ g ∧ b ≠ m
theorem Digs.snoc {l : List Nat} {x : Nat} (h : Digs l) (hx : x < 4294967296) : Digs (l ++ [x]) := fun i => by
  simp only [List.getD_eq_getElem?_getD, List.getElem?_append]
  split
  · have := h i; rwa [List.getD_eq_getElem?_getD] at this
  · generalize i - l.length = j
    cases j with
    | zero => simpa using hx
    | succ j => simp
/-- What holds ahead of the first loop. -/
theorem large_start {w w1 w2 w3 : World} {d : Bool} {v2 v3 : Value} {ws : List Nat} {tt tu : TypeId} (hw1 : Ext w w1) (hd : Digs ws)
    (h2 : w2.ownsRow (w1.heap.size + 1 + 1) tu 1 v2 (0 + ws.length) ([] ++ ws.map fun x => Value.int .u32 (x : Nat)) ∧ (((w1.alloc (.cells #[.bool d, .pointer none] tt)).alloc (.map #[] 0)).alloc (.cells #[] tu)).grownBy w2 (Value.slice (some ⟨w1.heap.size + 1 + 1, 0, none⟩) 0 0).ownBlock)
    (h3 : w3.ownsRow (w1.heap.size + 1 + 1) tu 1 v3 (0 + ws.length + 1) (([] ++ ws.map fun x => Value.int .u32 (x : Nat)) ++ [.int .u32 1]) ∧ (w2.alloc (.cells #[.int .u32 1] tu)).grownBy w3 v2.ownBlock) :
    Ext w w3 ∧ Blk w3 w1.heap.size [.bool d, .pointer none] tt ∧ SetAt w3 (w1.heap.size + 1) .i8 [] ∧ DigV (NotTwo w1.heap.size (w1.heap.size + 1)) w3 v3 (ws ++ [1]) := by
  have e0 : Ext ((w1.alloc (.cells #[.bool d, .pointer none] tt)).alloc (.map #[] 0)) w2 := ((Below.refl _ _).alloc (Nat.le_refl _) _).grown h2.2 (by simp) (by simp [Value.ownBlock])
  have e1 : Ext ((w1.alloc (.cells #[.bool d, .pointer none] tt)).alloc (.map #[] 0)) w3 := by
    have hs := e0.size
    refine (Go.RowKit.Below.alloc e0 hs _).grown h3.2 (by simp at hs ⊢; omega) (fun k hk => ?_)
    have := (h2.1.lt k hk).1
    simpa using this
  refine ⟨hw1.trans ((ext2 _ _ _).trans e1), ?_, ?_, ?_⟩
  · exact ((Blk.new w1 [.bool d, .pointer none] tt).ext (Ext.alloc _ _)).ext e1
  · have := (SetAt.made (w1.alloc (.cells #[.bool d, .pointer none] tt)) .i8).ext e1
    simpa using this
  · obtain ⟨a, c, rfl, k1, k2, k3, k4⟩ := own_row (S := NotTwo w1.heap.size (w1.heap.size + 1)) (fun b hb => by unfold NotTwo; omega) h3.1
    refine ⟨a, c, ?_, ?_, k2, k3, hd.snoc (by omega), ?_⟩
    · simp
    · simpa using k1
    · simpa using k4
theorem large_bound {B n : Nat} (hB : B < 4294967296 ^ 13) (hn : n ≤ 4294967296) : B * n < bigN := by
  have h1 : B * n < 4294967296 ^ 13 * 4294967296 := by
    have h2 : B * n ≤ B * 4294967296 := Nat.mul_le_mul_left _ hn
    have h3 : B * 4294967296 < 4294967296 ^ 13 * 4294967296 := Nat.mul_lt_mul_of_pos_right hB (by omega)
    omega
  have h4 : 4294967296 ^ 13 * 4294967296 = 4294967296 ^ 14 := (Nat.pow_succ ..).symm
  have h5 : 4294967296 ^ 14 ≤ 4294967296 ^ bigK := Nat.pow_le_pow_right (by omega) (by unfold bigK; omega)
  unfold bigN
  omega
/-- What holds at the head of a round of the first loop. -/
def LargeRel (w : World) (d : Bool) (g m B : Nat) (bv : Value) (k : Nat) (wr : World) (p : Option Addr) (t : T) (ks : List Int) : Prop :=
  Ext w wr ∧ Blk wr g [.bool d, .pointer p] 27 ∧ SetAt wr m .i8 ks ∧ TreeV (NotTwo g m) wr p t ∧ Avl t ∧ LargeP d B ks (lst t) ∧ sz t ≤ k ∧ NatV (NotTwo g m) wr bv B
set_option maxHeartbeats 4000000 in
set_option maxRecDepth 100000 in
theorem Large_c {w : World} {av : Option Addr} {cv : Nat} {vs : List Int} (hvc : vs.length ≤ cv) (hcv : cv ≤ 9223372036854775807) (hvr : RowAt (fun _ => True) w av (vs.map (Value.int .i8))) (hvi : ∀ k ∈ vs, -128 ≤ k ∧ k ≤ 127)
    {aw : Option Addr} {cw : Nat} {ws : List Nat} (hw : DigV (fun _ => True) w (.slice aw ws.length cw) ws) (d : Bool) (h40 : vs.length ≤ 40) (h12 : ws.length ≤ 12) :
    Calls Try.prog 3 #[.slice av vs.length cv, .slice aw ws.length cw, .bool d] w fun e w' => e = .returned (.bool true) ∧ Ext w w' := by
  have hmm := @run_makeMap Try.prog
  have b40 : decide ((40 : Int) < (vs.length : Int)) = false := by simp; omega
  have b12 : decide ((12 : Int) < (ws.length : Int)) = false := by simp; omega
  obtain ⟨da, dcap, dv, dl, dc, dn, dd, dr⟩ := id hw
  obtain ⟨rfl, rfl⟩ : da = aw ∧ dcap = cw := by cases dv; exact ⟨rfl, rfl⟩
  have HV := Lib.hid (And.intro hvr hvi)
  have HW := Lib.hid (And.intro hw (And.intro dr dn))
  have HD := Lib.hid dd
  obtain ⟨i0, hi, hz0, hz1, hz2⟩ := info_parts info_u32
  have HI := Lib.hid (And.intro hi (And.intro hz0 (And.intro hz1 hz2)))
  clear hvr hvi hw hi hz0 hz1 hz2 dv dr dn dd
  go_enter Try.func3, Try.ntmps3
  go_wp2_with fail
  with_reducible refine (New_c d).mono ?_
  rintro e w1 ⟨rfl, hw1⟩
  go_wp2_with (first
    | (at_builtin; refine wpList_append_row2 (S := fun _ => True) rfl (.tmp 35) (.tmp 36) 30 23 rfl (w1.heap.size + 1 + 1) 32 32 i0 (.int .u32 0) 1 4 Try.underlying30 Try.underlying23 HI.out.1 HI.out.2.1 HI.out.2.2.1 HI.out.2.2.2 rfl (by decide) (.slice (some ⟨w1.heap.size + 1 + 1, 0, none⟩) 0 0) 0 [] rfl (own_made2 _ _ _ _) da ws.length dcap (ws.map fun x => Value.int .u32 (x : Nat)) rfl (by simp) (HW.out.2.1.ext (hw1.trans (ext3 _ _ _ _))) (oneCells_int _ _) HW.out.2.2 (by decide) (by omega) (by simp) ?_; intro v2 w2 hown2 hgrow2; have HO2 := Lib.hid (And.intro hown2 hgrow2); clear hown2 hgrow2)
    | (at_builtin; refine wpList_append_row (S := fun _ => True) rfl (.tmp 37) (.tmp 38) 30 rfl (w1.heap.size + 1 + 1) 32 i0 (.int .u32 0) 1 4 Try.underlying30 HI.out.1 HI.out.2.1 HI.out.2.2.1 HI.out.2.2.2 rfl (by decide) v2 (0 + ws.length) _ rfl (HO2.out.1.alloc _) (some ⟨w2.heap.size, 0, none⟩) 1 1 [.int .u32 1] rfl rfl (row1 _ _ _) (by simp [Value.oneCell']) (by simp) (by decide) (by omega) (by have := HO2.out.2.size; simp at this ⊢; omega) ?_; intro v3 w3 hown3 hgrow3; have HO3 := Lib.hid (And.intro hown3 hgrow3); clear hown3 hgrow3))
  have hst := large_start hw1 HD.out HO2.out HO3.out
  have hlB : (ws ++ [1]).length ≤ 13 := by simp; omega
  have hB0 : 0 < nval (ws ++ [1]) := by
    rw [nval_append]
    have h := Nat.pow_pos (n := ws.length) (show 0 < 4294967296 by omega)
    have e1 : nval [1] = 1 := by simp [nval]
    rw [e1]
    omega
  have hB1 : nval (ws ++ [1]) < 4294967296 ^ 13 := by
    have h := nval_lt _ (HD.out.snoc (x := 1) (by omega))
    have h2 : 4294967296 ^ (ws ++ [1]).length ≤ 4294967296 ^ 13 := Nat.pow_le_pow_right (by omega) hlB
    omega
  have hlo : w.heap.size ≤ w1.heap.size := hw1.size
  have hI := norm_nat (S := NotTwo w1.heap.size (w1.heap.size + 1)) (w := w3) (fun b hb => by have := hst.2.2.1.lt; unfold NotTwo; omega) hst.2.2.2 (by omega)
  with_reducible refine hI.mono ?_
  clear hI
  rintro e w4 ⟨bv, rfl, hw4, hbv⟩
  generalize nval (ws ++ [1]) = B at *
  have HS := Lib.hid (And.intro (hst.1.trans hw4) (And.intro (hst.2.1.ext hw4) (And.intro (hst.2.2.1.ext hw4) hbv)))
  have HB := Lib.hid (And.intro hB0 hB1)
  obtain ⟨ba, bl, bc, rfl⟩ := slice_of_nat hbv
  clear hst hlB hB0 hB1 hw4 hbv HO2 HO3 HI HD HW hw1 b12
  generalize w1.heap.size = g at *
  go_wp2_with fail
  go_loopw [10] (fun i wr => ∃ (k : Nat) (p : Option Addr) (t : T) (ks : List Int), k ≤ vs.length ∧ i = .int .i64 k ∧ Hid (LargeRel w d g (g + 1) B (.slice ba bl bc) k wr p t ks)) (fun i _ => vs.length - (intOf i).toNat)
  case atStart => exact ⟨0, none, .nil, [], Nat.zero_le _, rfl, HS.out.1, HS.out.2.1, HS.out.2.2.1, TreeV.nil _, trivial, LargeP.nil d B, Nat.le_refl _, HS.out.2.2.2⟩
  case round =>
    obtain ⟨k, p, t, ks, hk, rfl, HR⟩ := hrel
    clear HS
    by_cases hkl : k < vs.length
    · have hx := HV.out.2 (vs.getD k 0) (by rw [List.getD_eq_getElem?_getD, List.getElem?_eq_getElem hkl]; exact List.getElem_mem _)
      obtain ⟨b1, o1, rfl, hc1⟩ := HV.out.1.get (i := k) (v := .int .i8 (vs.getD k 0)) (by rw [List.getElem?_map, List.getD_eq_getElem?_getD, List.getElem?_eq_getElem hkl]; rfl)
      have x0 : ∀ W, Ext wr W → W.cell? ⟨b1, o1 + k, none⟩ = some (.int .i8 (vs.getD k 0)) := fun W h => (HR.out.1.trans h).cell hc1
      generalize vs.getD k 0 = x at *
      obtain ⟨hx1, hx2⟩ := hx
      have hxw : IntKind.i64.wrap x = x := IntWalk.i64_in _ (by omega)
      have HC := Lib.hid (And.intro (HR.out.1.cell hc1) (show b1 < w.heap.size from World.block_lt_of_cell? w _ hc1))
      clear hc1
      obtain ⟨q0, q1⟩ := boxT HR.out.2.1
      have Ewr := Lib.hid (Ext.refl wr)
      go_wp2_with fail
      refine wp_region_mixE 24 [(0, 0), (1, 3), (2, 3), (3, 3), (4, 0), (5, 3), (6, 3), (7, 3), (7, 4), (8, 1), (9, 3), (10, 3), (11, 3), (12, 1), (13, 2), (14, 3), (12, 1), (8, 1), (9, 3), (10, 3), (11, 3), (13, 2), (14, 3)] (by kernel_rfl) (fun _ _ d _ _ h => by cases d <;> exact h) ?_
      intro w5 hw5
      simp only [List.map_cons, List.map_nil, mixPick_lt _ _ 0 rfl, mixPick_lt _ _ 1 rfl, mixPick_lt _ _ 2 rfl, mixPick_lt _ _ 3 rfl, mixPick_fork, List.getD_cons_zero, List.getD_cons_succ]
      generalize yielded _ = y
      have Ew5 := Lib.hid (Ewr.out.trans hw5)
      have tew5 := fun W (h : Ext w5 W) => Ew5.out.trans h
      repeat (first | (refine mx_pu (v := ?_) rfl (fun W => ?_) ?_; rotate_left; (focus (go_simp <;> with_reducible rfl)); simp only [Act.put, List.setIfInBounds_toArray, List.set_cons_zero, List.set_cons_succ]) | (refine mx_st (v := ?_) rfl (fun W hW => ?_) ?_; rotate_left; (focus (go_simp <;> with_reducible rfl)); simp only [Act.put, List.setIfInBounds_toArray, List.set_cons_zero, List.set_cons_succ]))
      have Ewx := Lib.hid Ew5.out
      refine mx_two ?_ ?_
      · simp only [List.take_succ_cons, List.take_zero]
        refine mx_call (f := ?_) (args := ?_) rfl ?_ ?_
        rotate_left 2
        focus (go_simp <;> (refine ⟨?_, ?_⟩ <;> with_reducible rfl))
        obtain ⟨ld, hd, nl, el⟩ := HR.out.2.2.2.2.2.2.2
        have hsz := HR.out.2.2.2.2.2.2.1
        have hsum : tot t = B * sz t := by rw [← tot_lst, sumW_all HR.out.2.2.2.2.2.1.2.2.1, sz_lst]
        have hI := Put_ok (S := NotTwo g (g + 1)) (w := w5) (fun b hb => by have := HR.out.2.2.1.lt; have := Ewx.out.size; unfold NotTwo; omega) d p (kv x) (.slice ba bl bc) (t := t) ((HR.out.2.2.2.1).ext Ewx.out) HR.out.2.2.2.2.1 HR.out.2.2.2.2.2.1.1 (by omega) (by rw [el, hsum, ← Nat.mul_succ]; exact large_bound HB.out.2 (by omega)) ((hd).ext Ewx.out) (by have := bigK_le (nl.length_of_lt (by rw [el, ← Nat.mul_one B]; exact large_bound HB.out.2 (by omega))); omega) (kv_valid x) (by rw [el]; exact HB.out.1)
        with_reducible refine hI.mono ?_
        clear hI
        rintro e' w6 ⟨p5, t5, rfl, hw6, ht5, hl5, ha5⟩
        refine ⟨_, rfl, hw6, ?_⟩
        rw [el] at hl5
        have hz5 : sz t5 ≤ sz t + 1 := by rw [← sz_lst, hl5, ← sz_lst]; exact insL_length_le _ _ _
        have H5 := Lib.hid (And.intro ht5 (And.intro hl5 ha5))
        clear ht5 hl5 ha5 hd nl el hsum
        simp only [Act.put, List.setIfInBounds_toArray, List.set_cons_zero, List.set_cons_succ]
        have Ew6 := Lib.hid (Ew5.out.trans hw6)
        have tew6 := fun W (h : Ext w6 W) => Ew6.out.trans h
        clear tew5
        have Ewx := Lib.hid Ew6.out
        repeat (first | (refine mx_pu (v := ?_) rfl (fun W => ?_) ?_; rotate_left; (focus (go_simp <;> with_reducible rfl)); simp only [Act.put, List.setIfInBounds_toArray, List.set_cons_zero, List.set_cons_succ]) | (refine mx_st (v := ?_) rfl (fun W hW => ?_) ?_; rotate_left; (focus (go_simp <;> with_reducible rfl)); simp only [Act.put, List.setIfInBounds_toArray, List.set_cons_zero, List.set_cons_succ]))
        refine mx_al (v := ?_) (cs := ?_) (t := ?_) rfl ?_ (fun _ h => h) ?_
        rotate_left 3
        focus (go_simp <;> (first | with_reducible rfl | (refine ⟨?_, ?_⟩ <;> with_reducible rfl)))
        intro w7 hw7 hb0
        simp only [Act.put, List.setIfInBounds_toArray, List.set_cons_zero, List.set_cons_succ]
        have Ew7 := Lib.hid (Ew6.out.trans hw7)
        have tew7 := fun W (h : Ext w7 W) => Ew7.out.trans h
        clear tew6
        have hbl : Blk w7 w6.heap.size [.bool false, .pointer none] 27 := hb0
        clear hb0
        have hgb : w6.heap.size < w7.heap.size := hbl.lt
        have hgl : wr.heap.size ≤ w6.heap.size := Ewx.out.size
        have Ewx := Lib.hid Ew7.out
        generalize hgbe : w6.heap.size = gx at *
        have HGB := Lib.hid hgbe
        clear hgbe
        repeat (first | (refine mx_pu (v := ?_) rfl (fun W => ?_) ?_; rotate_left; (focus (go_simp <;> with_reducible rfl)); simp only [Act.put, List.setIfInBounds_toArray, List.set_cons_zero, List.set_cons_succ]) | (refine mx_st (v := ?_) rfl (fun W hW => ?_) ?_; rotate_left; (focus (go_simp <;> with_reducible rfl)); simp only [Act.put, List.setIfInBounds_toArray, List.set_cons_zero, List.set_cons_succ]))
        have HBL := Lib.hid hbl
        have r0 := hbl.freeF 0
        have r1 := hbl.freeF 1
        obtain ⟨z0, z1⟩ := boxT hbl
        have er := Ext.refl w7
        clear hbl
        refine mx_ts (w' := ?_) rfl ?_ ?_
        rotate_left
        focus (go_simp <;> with_reducible rfl)
        have hk := (HBL.out).set2 (a := .bool d) (b := .pointer p5)
        have hbt := ExtBut.set2 w7 (gx) (.bool d) (.pointer p5)
        generalize (World.setCell w7 ⟨gx, 0, none⟩ (.bool d)).setCell ⟨gx, 1, none⟩ (.pointer p5) = w8 at hk hbt ⊢
        have HX := Lib.hid (And.intro (hbt.ext Ewx.out (fun b h => by subst h; exact hgl)) (And.intro hk (((H5.out.1.old.mono (S' := fun b => NotTwo g (g + 1) b ∧ b ≠ gx) (fun b h => ⟨h.1, by have := h.2; have := HGB.out; omega⟩)).ext hw7).but (fun b h => h.2) hbt)))
        clear hk hbt r0 r1 z0 z1 er
        simp only [Act.put, List.setIfInBounds_toArray, List.set_cons_zero, List.set_cons_succ]
        repeat (first | (refine mx_pu (v := ?_) rfl (fun W => ?_) ?_; rotate_left; (focus (go_simp <;> with_reducible rfl)); simp only [Act.put, List.setIfInBounds_toArray, List.set_cons_zero, List.set_cons_succ]) | (refine mx_st (v := ?_) rfl (fun W hW => ?_) ?_; rotate_left; (focus (go_simp <;> with_reducible rfl)); simp only [Act.put, List.setIfInBounds_toArray, List.set_cons_zero, List.set_cons_succ]))
        refine mx_nil ?_
        clear q0 q1 tew7
        go_wp2_with fail
        refine wp_region_mixB (fun b => b = g ∨ b = g + 1) 11 [(0, 3), (1, 3), (2, 3), (3, 3), (4, 0), (5, 0), (6, 1), (7, 1), (8, 3), (9, 1)] (by kernel_rfl) (fun _ _ d _ _ h => by cases d <;> exact h) ?_
        intro w9 hw9
        simp only [List.map_cons, List.map_nil, mixPick_lt _ _ 0 rfl, mixPick_lt _ _ 1 rfl, mixPick_lt _ _ 2 rfl, mixPick_lt _ _ 3 rfl, mixPick_fork, List.getD_cons_zero, List.getD_cons_succ]
        generalize yielded _ = y
        have hm8 := HR.out.2.2.1.lt
        have x9 : ∀ W, ExtBut (fun b => b = g ∨ b = g + 1) w9 W → W.cell? ⟨b1, o1 + k, none⟩ = some (.int .i8 x) := fun W h => h.cell (show ¬ (b1 = g ∨ b1 = g + 1) by have := HC.out.2; omega) ((HX.out.1.trans hw9).cell HC.out.1)
        have z0 : ∀ W, ExtBut (fun b => b = g ∨ b = g + 1) w9 W → W.cell? ⟨gx, 0, none⟩ = some (.bool d) := fun W h => ((HX.out.2.1.ext hw9).but (by omega) h).cell 0
        have z1 : ∀ W, ExtBut (fun b => b = g ∨ b = g + 1) w9 W → W.cell? ⟨gx, 1, none⟩ = some (.pointer p5) := fun W h => ((HX.out.2.1.ext hw9).but (by omega) h).cell 1
        repeat (first | (refine mx_pu (v := ?_) rfl (fun W => ?_) ?_; rotate_left; (focus (go_simp <;> with_reducible rfl)); simp only [Act.put, List.setIfInBounds_toArray, List.set_cons_zero, List.set_cons_succ]) | (refine mx_st (v := ?_) rfl (fun W hW => ?_) ?_; rotate_left; (focus (go_simp <;> with_reducible rfl)); simp only [Act.put, List.setIfInBounds_toArray, List.set_cons_zero, List.set_cons_succ]))
        have bk := (HR.out.2.1.ext HX.out.1).ext hw9
        obtain ⟨q0, q1⟩ := boxT bk
        have r0 := bk.freeF 0
        have r1 := bk.freeF 1
        have er := Ext.refl w9
        refine mx_es (w' := ?_) rfl ?_ ?_ ?_
        rotate_left
        focus (go_simp <;> with_reducible rfl)
        · exact (ExtBut.set2 w9 g (.bool d) (.pointer p5)).mono (fun b h => .inl h)
        have hk := (bk).set2 (a := .bool d) (b := .pointer p5)
        have hbt := ExtBut.set2 w9 (g) (.bool d) (.pointer p5)
        generalize (World.setCell w9 ⟨g, 0, none⟩ (.bool d)).setCell ⟨g, 1, none⟩ (.pointer p5) = w10 at hk hbt ⊢
        have set0 := ((HR.out.2.2.1.ext HX.out.1).ext hw9).but (G := fun b => b = g) (by omega) hbt
        clear q0 q1 r0 r1 er bk x9 z0 z1
        obtain ⟨v0, st, w11, hme, hx11, hse⟩ := set0.store Try.underlying36 Try.underlying29 (z := .bool false) (fun u => by kernel_rfl) (k := x) (by simp [Lit.wf, IntKind.min, IntKind.max, IntKind.signed, IntKind.bits]; omega)
        obtain ⟨w12, hes, hx12, set1⟩ := hse (.bool true)
        clear hse
        simp only [Act.put, List.setIfInBounds_toArray, List.set_cons_zero, List.set_cons_succ]
        repeat (first | (refine mx_pu (v := ?_) rfl (fun W => ?_) ?_; rotate_left; (focus (go_simp <;> with_reducible rfl)); simp only [Act.put, List.setIfInBounds_toArray, List.set_cons_zero, List.set_cons_succ]) | (refine mx_st (v := ?_) rfl (fun W hW => ?_) ?_; rotate_left; (focus (go_simp <;> with_reducible rfl)); simp only [Act.put, List.setIfInBounds_toArray, List.set_cons_zero, List.set_cons_succ]))
        refine mx_ev (w' := w11) (v := .tuple #[v0, st]) rfl ?_ (hx11.mono (fun b h => .inr h)) ?_
        focus (go_simp <;> with_reducible rfl)
        simp only [Act.put, List.setIfInBounds_toArray, List.set_cons_zero, List.set_cons_succ]
        repeat (first | (refine mx_pu (v := ?_) rfl (fun W => ?_) ?_; rotate_left; (focus (go_simp <;> with_reducible rfl)); simp only [Act.put, List.setIfInBounds_toArray, List.set_cons_zero, List.set_cons_succ]) | (refine mx_st (v := ?_) rfl (fun W hW => ?_) ?_; rotate_left; (focus (go_simp <;> with_reducible rfl)); simp only [Act.put, List.setIfInBounds_toArray, List.set_cons_zero, List.set_cons_succ]))
        refine mx_es (w' := w12) rfl ?_ (hx12.mono (fun b h => .inr h)) ?_
        focus (go_simp <;> with_reducible rfl)
        simp only [Act.put, List.setIfInBounds_toArray, List.set_cons_zero, List.set_cons_succ]
        refine mx_nil ?_
        have h12 : ExtBut (fun b => b = g ∨ b = g + 1) w9 w12 := ((hbt.mono (fun b h => .inl h)).trans (hx11.mono (fun b h => .inr h))).trans (hx12.mono (fun b h => .inr h))
        have hN : LargeRel w d g (g + 1) B (.slice ba bl bc) (k + 1) w12 p5 t5 (insK x ks) := by
          refine ⟨h12.ext ((HR.out.1.trans HX.out.1).trans hw9) (fun b h => by omega), ((hk.but (by omega) hx11).but (by omega) hx12), set1, ((HX.out.2.2.mono (fun b h => h.1)).ext hw9).but (fun b h => by unfold NotTwo at h; omega) h12, H5.out.2.2, ?_, by omega, ((HR.out.2.2.2.2.2.2.2.ext HX.out.1).ext hw9).but (fun b h => by unfold NotTwo at h; omega) h12⟩
          rw [H5.out.2.1]
          exact HR.out.2.2.2.2.2.1.step x
        have HN := Lib.hid hN
        clear hN h12 hk hbt set0 set1 hx11 hx12 hme hes
        go_wp2_with fail
        go_roundw
        case rel => exact ⟨k + 1, p5, t5, insK x ks, by omega, by go_num, HN⟩
        case measure => simp [intOf]; omega
      · simp only [List.drop_succ_cons, List.drop_zero]
        refine mx_al (v := ?_) (cs := ?_) (t := ?_) rfl ?_ (fun _ h => h) ?_
        rotate_left 3
        focus (go_simp <;> (first | with_reducible rfl | (refine ⟨?_, ?_⟩ <;> with_reducible rfl)))
        intro w6 hw6 hb0
        simp only [Act.put, List.setIfInBounds_toArray, List.set_cons_zero, List.set_cons_succ]
        have Ew6 := Lib.hid (Ew5.out.trans hw6)
        have tew6 := fun W (h : Ext w6 W) => Ew6.out.trans h
        clear tew5
        have hbl : Blk w6 w5.heap.size [.bool false, .pointer none] 27 := hb0
        clear hb0
        have hgb : w5.heap.size < w6.heap.size := hbl.lt
        have hgl : wr.heap.size ≤ w5.heap.size := Ewx.out.size
        have Ewx := Lib.hid Ew6.out
        generalize hgbe : w5.heap.size = gx at *
        have HGB := Lib.hid hgbe
        clear hgbe
        repeat (first | (refine mx_pu (v := ?_) rfl (fun W => ?_) ?_; rotate_left; (focus (go_simp <;> with_reducible rfl)); simp only [Act.put, List.setIfInBounds_toArray, List.set_cons_zero, List.set_cons_succ]) | (refine mx_st (v := ?_) rfl (fun W hW => ?_) ?_; rotate_left; (focus (go_simp <;> with_reducible rfl)); simp only [Act.put, List.setIfInBounds_toArray, List.set_cons_zero, List.set_cons_succ]))
        refine mx_call (f := ?_) (args := ?_) rfl ?_ ?_
        rotate_left 2
        focus (go_simp <;> (refine ⟨?_, ?_⟩ <;> with_reducible rfl))
        obtain ⟨ld, hd, nl, el⟩ := HR.out.2.2.2.2.2.2.2
        have hsz := HR.out.2.2.2.2.2.2.1
        have hsum : tot t = B * sz t := by rw [← tot_lst, sumW_all HR.out.2.2.2.2.2.1.2.2.1, sz_lst]
        have hI := Put_ok (S := fun b => NotTwo g (g + 1) b ∧ b ≠ gx) (w := w6) (fun b hb => by have := HR.out.2.2.1.lt; have := Ewx.out.size; unfold NotTwo; omega) d p (kv x) (.slice ba bl bc) (t := t) ((HR.out.2.2.2.1.old.mono (fun b h => ⟨h.1, by have := h.2; omega⟩)).ext Ewx.out) HR.out.2.2.2.2.1 HR.out.2.2.2.2.2.1.1 (by omega) (by rw [el, hsum, ← Nat.mul_succ]; exact large_bound HB.out.2 (by omega)) ((hd.old.mono (fun b h => ⟨h.1, by have := h.2; omega⟩)).ext Ewx.out) (by have := bigK_le (nl.length_of_lt (by rw [el, ← Nat.mul_one B]; exact large_bound HB.out.2 (by omega))); omega) (kv_valid x) (by rw [el]; exact HB.out.1)
        with_reducible refine hI.mono ?_
        clear hI
        rintro e' w7 ⟨p5, t5, rfl, hw7, ht5, hl5, ha5⟩
        refine ⟨_, rfl, hw7, ?_⟩
        rw [el] at hl5
        have hz5 : sz t5 ≤ sz t + 1 := by rw [← sz_lst, hl5, ← sz_lst]; exact insL_length_le _ _ _
        have H5 := Lib.hid (And.intro ht5 (And.intro hl5 ha5))
        clear ht5 hl5 ha5 hd nl el hsum
        simp only [Act.put, List.setIfInBounds_toArray, List.set_cons_zero, List.set_cons_succ]
        have Ew7 := Lib.hid (Ew6.out.trans hw7)
        have tew7 := fun W (h : Ext w7 W) => Ew7.out.trans h
        clear tew6
        have Ewx := Lib.hid Ew7.out
        repeat (first | (refine mx_pu (v := ?_) rfl (fun W => ?_) ?_; rotate_left; (focus (go_simp <;> with_reducible rfl)); simp only [Act.put, List.setIfInBounds_toArray, List.set_cons_zero, List.set_cons_succ]) | (refine mx_st (v := ?_) rfl (fun W hW => ?_) ?_; rotate_left; (focus (go_simp <;> with_reducible rfl)); simp only [Act.put, List.setIfInBounds_toArray, List.set_cons_zero, List.set_cons_succ]))
        have hbl := hbl.ext hw7
        have HBL := Lib.hid hbl
        have r0 := hbl.freeF 0
        have r1 := hbl.freeF 1
        obtain ⟨z0, z1⟩ := boxT hbl
        have er := Ext.refl w7
        clear hbl
        refine mx_ts (w' := ?_) rfl ?_ ?_
        rotate_left
        focus (go_simp <;> with_reducible rfl)
        have hk := (HBL.out).set2 (a := .bool d) (b := .pointer p5)
        have hbt := ExtBut.set2 w7 (gx) (.bool d) (.pointer p5)
        generalize (World.setCell w7 ⟨gx, 0, none⟩ (.bool d)).setCell ⟨gx, 1, none⟩ (.pointer p5) = w8 at hk hbt ⊢
        have HX := Lib.hid (And.intro (hbt.ext Ewx.out (fun b h => by subst h; exact hgl)) (And.intro hk ((H5.out.1).but (fun b h => h.2) hbt)))
        clear hk hbt r0 r1 z0 z1 er
        simp only [Act.put, List.setIfInBounds_toArray, List.set_cons_zero, List.set_cons_succ]
        repeat (first | (refine mx_pu (v := ?_) rfl (fun W => ?_) ?_; rotate_left; (focus (go_simp <;> with_reducible rfl)); simp only [Act.put, List.setIfInBounds_toArray, List.set_cons_zero, List.set_cons_succ]) | (refine mx_st (v := ?_) rfl (fun W hW => ?_) ?_; rotate_left; (focus (go_simp <;> with_reducible rfl)); simp only [Act.put, List.setIfInBounds_toArray, List.set_cons_zero, List.set_cons_succ]))
        refine mx_nil ?_
        clear q0 q1 tew7
        go_wp2_with fail
        refine wp_region_mixB (fun b => b = g ∨ b = g + 1) 11 [(0, 3), (1, 3), (2, 3), (3, 3), (4, 0), (5, 0), (6, 1), (7, 1), (8, 3), (9, 1)] (by kernel_rfl) (fun _ _ d _ _ h => by cases d <;> exact h) ?_
        intro w9 hw9
        simp only [List.map_cons, List.map_nil, mixPick_lt _ _ 0 rfl, mixPick_lt _ _ 1 rfl, mixPick_lt _ _ 2 rfl, mixPick_lt _ _ 3 rfl, mixPick_fork, List.getD_cons_zero, List.getD_cons_succ]
        generalize yielded _ = y
        have hm8 := HR.out.2.2.1.lt
        have x9 : ∀ W, ExtBut (fun b => b = g ∨ b = g + 1) w9 W → W.cell? ⟨b1, o1 + k, none⟩ = some (.int .i8 x) := fun W h => h.cell (show ¬ (b1 = g ∨ b1 = g + 1) by have := HC.out.2; omega) ((HX.out.1.trans hw9).cell HC.out.1)
        have z0 : ∀ W, ExtBut (fun b => b = g ∨ b = g + 1) w9 W → W.cell? ⟨gx, 0, none⟩ = some (.bool d) := fun W h => ((HX.out.2.1.ext hw9).but (by omega) h).cell 0
        have z1 : ∀ W, ExtBut (fun b => b = g ∨ b = g + 1) w9 W → W.cell? ⟨gx, 1, none⟩ = some (.pointer p5) := fun W h => ((HX.out.2.1.ext hw9).but (by omega) h).cell 1
        repeat (first | (refine mx_pu (v := ?_) rfl (fun W => ?_) ?_; rotate_left; (focus (go_simp <;> with_reducible rfl)); simp only [Act.put, List.setIfInBounds_toArray, List.set_cons_zero, List.set_cons_succ]) | (refine mx_st (v := ?_) rfl (fun W hW => ?_) ?_; rotate_left; (focus (go_simp <;> with_reducible rfl)); simp only [Act.put, List.setIfInBounds_toArray, List.set_cons_zero, List.set_cons_succ]))
        have bk := (HR.out.2.1.ext HX.out.1).ext hw9
        obtain ⟨q0, q1⟩ := boxT bk
        have r0 := bk.freeF 0
        have r1 := bk.freeF 1
        have er := Ext.refl w9
        refine mx_es (w' := ?_) rfl ?_ ?_ ?_
        rotate_left
        focus (go_simp <;> with_reducible rfl)
        · exact (ExtBut.set2 w9 g (.bool d) (.pointer p5)).mono (fun b h => .inl h)
        have hk := (bk).set2 (a := .bool d) (b := .pointer p5)
        have hbt := ExtBut.set2 w9 (g) (.bool d) (.pointer p5)
        generalize (World.setCell w9 ⟨g, 0, none⟩ (.bool d)).setCell ⟨g, 1, none⟩ (.pointer p5) = w10 at hk hbt ⊢
        have set0 := ((HR.out.2.2.1.ext HX.out.1).ext hw9).but (G := fun b => b = g) (by omega) hbt
        clear q0 q1 r0 r1 er bk x9 z0 z1
        obtain ⟨v0, st, w11, hme, hx11, hse⟩ := set0.store Try.underlying36 Try.underlying29 (z := .bool false) (fun u => by kernel_rfl) (k := x) (by simp [Lit.wf, IntKind.min, IntKind.max, IntKind.signed, IntKind.bits]; omega)
        obtain ⟨w12, hes, hx12, set1⟩ := hse (.bool true)
        clear hse
        simp only [Act.put, List.setIfInBounds_toArray, List.set_cons_zero, List.set_cons_succ]
        repeat (first | (refine mx_pu (v := ?_) rfl (fun W => ?_) ?_; rotate_left; (focus (go_simp <;> with_reducible rfl)); simp only [Act.put, List.setIfInBounds_toArray, List.set_cons_zero, List.set_cons_succ]) | (refine mx_st (v := ?_) rfl (fun W hW => ?_) ?_; rotate_left; (focus (go_simp <;> with_reducible rfl)); simp only [Act.put, List.setIfInBounds_toArray, List.set_cons_zero, List.set_cons_succ]))
        refine mx_ev (w' := w11) (v := .tuple #[v0, st]) rfl ?_ (hx11.mono (fun b h => .inr h)) ?_
        focus (go_simp <;> with_reducible rfl)
        simp only [Act.put, List.setIfInBounds_toArray, List.set_cons_zero, List.set_cons_succ]
        repeat (first | (refine mx_pu (v := ?_) rfl (fun W => ?_) ?_; rotate_left; (focus (go_simp <;> with_reducible rfl)); simp only [Act.put, List.setIfInBounds_toArray, List.set_cons_zero, List.set_cons_succ]) | (refine mx_st (v := ?_) rfl (fun W hW => ?_) ?_; rotate_left; (focus (go_simp <;> with_reducible rfl)); simp only [Act.put, List.setIfInBounds_toArray, List.set_cons_zero, List.set_cons_succ]))
        refine mx_es (w' := w12) rfl ?_ (hx12.mono (fun b h => .inr h)) ?_
        focus (go_simp <;> with_reducible rfl)
        simp only [Act.put, List.setIfInBounds_toArray, List.set_cons_zero, List.set_cons_succ]
        refine mx_nil ?_
        have h12 : ExtBut (fun b => b = g ∨ b = g + 1) w9 w12 := ((hbt.mono (fun b h => .inl h)).trans (hx11.mono (fun b h => .inr h))).trans (hx12.mono (fun b h => .inr h))
        have hN : LargeRel w d g (g + 1) B (.slice ba bl bc) (k + 1) w12 p5 t5 (insK x ks) := by
          refine ⟨h12.ext ((HR.out.1.trans HX.out.1).trans hw9) (fun b h => by omega), ((hk.but (by omega) hx11).but (by omega) hx12), set1, ((HX.out.2.2.mono (fun b h => h.1)).ext hw9).but (fun b h => by unfold NotTwo at h; omega) h12, H5.out.2.2, ?_, by omega, ((HR.out.2.2.2.2.2.2.2.ext HX.out.1).ext hw9).but (fun b h => by unfold NotTwo at h; omega) h12⟩
          rw [H5.out.2.1]
          exact HR.out.2.2.2.2.2.1.step x
        have HN := Lib.hid hN
        clear hN h12 hk hbt set0 set1 hx11 hx12 hme hes
        go_wp2_with fail
        go_roundw
        case rel => exact ⟨k + 1, p5, t5, insK x ks, by omega, by go_num, HN⟩
        case measure => simp [intOf]; omega
    · obtain rfl : k = vs.length := by omega
      have hn : (lst t).length = ks.length := HR.out.2.2.2.2.2.1.2.1
      have hn40 : ks.length ≤ 40 := by rw [← hn, sz_lst]; have := HR.out.2.2.2.2.2.2.1; omega
      have hlen := fun ty => HR.out.2.2.1.len Try.underlying29 ty
      generalize hkn : ks.length = n at *
      go_wp2_with fail
      have hfr : Fresh (NotTwo g (g + 1)) wr := fun b hb => by have := HR.out.2.2.1.lt; unfold NotTwo; omega
      have hsn : sz t = n := by rw [← sz_lst]; exact hn
      have htn : tot t = B * n := by rw [← tot_lst, sumW_all HR.out.2.2.2.2.2.1.2.2.1, hn]
      have HF := Lib.hid (And.intro hfr (And.intro hsn (And.intro htn hkn)))
      obtain ⟨q0, q1⟩ := boxT HR.out.2.1
      clear hfr hsn htn hn hlen hkn
      with_reducible refine (of_nat HF.out.1 n (by omega)).mono ?_
      rintro e w5 ⟨v5, rfl, ew5, hv5⟩
      obtain ⟨na, nk, nc, rfl⟩ := slice_of_nat hv5
      have HV5 := Lib.hid hv5
      clear hv5
      go_wp2_with fail
      have hI := Total_c (d := d) (HF.out.1.ext ew5) (HR.out.2.2.2.1.ext ew5) (by rw [HF.out.2.2.1]; exact large_bound HB.out.2 (by omega))
      with_reducible refine hI.mono ?_
      clear hI
      rintro e w6 ⟨v6, rfl, hw6, hv6⟩
      have ew6 := ew5.trans hw6
      obtain ⟨ta, tk, tc, rfl⟩ := slice_of_nat hv6
      have HV6 := Lib.hid hv6
      clear hv6
      go_wp2_with fail
      obtain ⟨ld, hd, nl, el⟩ := HR.out.2.2.2.2.2.2.2
      obtain ⟨lm, hm, nm, em⟩ := HV5.out
      have hI := mul_nat (HF.out.1.ext ew6) (hd.ext ew6) (hm.ext hw6) (by rw [el, ← Nat.mul_one B]; exact large_bound HB.out.2 (by omega)) (by rw [em]; exact bigN_gt (by omega))
      with_reducible refine hI.mono ?_
      rw [el, em]
      clear hI hd nl el hm nm em
      rintro e w7 ⟨v7, rfl, hw7, hv7⟩
      have ew7 := ew6.trans hw7
      obtain ⟨pa, pk, pc, rfl⟩ := slice_of_nat hv7
      obtain ⟨ld, hd, nl, el⟩ := HV6.out
      obtain ⟨lm, hm, nm, em⟩ := hv7
      have hc : cmpI ((nval ld : Nat) : Int) ((nval lm : Nat) : Int) = 0 := cmpI_eq (by rw [el, em, HF.out.2.2.1])
      have hI := cmp_nat (hd.ext hw7) hm
      rw [hc] at hI
      clear hc hm nm em hd nl el ld lm
      go_wp2_with fail
      with_reducible refine hI.mono ?_
      clear hI
      rintro e w8 ⟨rfl, nq, rfl⟩
      have ew8 := ew7.trans (Ext.drewN w7 nq)
      generalize w7.drewN nq = w8 at *
      go_wp2_with fail
      have hI := Len_c (d := d) (HR.out.2.2.2.1.ext ew8)
      rw [HF.out.2.1] at hI
      with_reducible refine hI.mono ?_
      clear hI
      rintro e w9 ⟨rfl, hw9⟩
      have ew9 := ew8.trans hw9
      have hlen := fun ty => (HR.out.2.2.1.ext ew9).len Try.underlying29 ty
      rw [HF.out.2.2.2] at hlen
      go_wp2_with fail
      clear hlen
      go_loopw [14] (fun i wq => ∃ k : Nat, k ≤ n ∧ i = .int .i64 k ∧ Hid (Ext wr wq)) (fun i _ => n - (intOf i).toNat)
      case atStart => exact ⟨0, Nat.zero_le _, rfl, ew9⟩
      case round =>
        obtain ⟨k, hkn, rfl, HQ⟩ := hrel
        have eq0 := HQ.out
        clear ew5 ew6 ew7 ew8 ew9 hw6 hw7 hw9 HV5 HV6
        go_wp2_with fail
        have hI := Len_c (d := d) (HR.out.2.2.2.1.ext eq0)
        rw [HF.out.2.1] at hI
        with_reducible refine hI.mono ?_
        clear hI
        rintro e w10 ⟨rfl, hw10⟩
        have ew10 := eq0.trans hw10
        by_cases hlt : k < n
        · have hlt' : decide ((k : Int) < (n : Int)) = true := by simpa using hlt
          go_wp2_with fail
          with_reducible refine (of_nat (HF.out.1.ext ew10) k (by omega)).mono ?_
          rintro e w11 ⟨v11, rfl, hw11, hv11⟩
          have ew11 := ew10.trans hw11
          obtain ⟨na', nk', nc', rfl⟩ := slice_of_nat hv11
          obtain ⟨ld, hd, nl, el⟩ := HR.out.2.2.2.2.2.2.2
          obtain ⟨lm, hm, nm, em⟩ := hv11
          have hI := mul_nat (HF.out.1.ext ew11) (hd.ext ew11) hm (by rw [el, ← Nat.mul_one B]; exact large_bound HB.out.2 (by omega)) (by rw [em]; exact bigN_gt (by omega))
          rw [el, em] at hI
          clear hd nl el hm nm em ld lm
          go_wp2_with fail
          with_reducible refine hI.mono ?_
          clear hI
          rintro e w12 ⟨v12, rfl, hw12, hv12⟩
          have ew12 := ew11.trans hw12
          obtain ⟨fa, fk, fc, rfl⟩ := slice_of_nat hv12
          have HFr := Lib.hid hv12
          clear hv12
          go_wp2_with fail
          obtain ⟨lm, hm, nm, em⟩ := HFr.out
          have hI := Find_c (HF.out.1.ext ew12) d p hm (HR.out.2.2.2.1.ext ew12) (by rw [HF.out.2.1]; omega) (by rw [HF.out.2.2.1]; exact large_bound HB.out.2 (by omega))
          with_reducible refine hI.mono ?_
          clear hI
          obtain ⟨x, hxi, hxf⟩ := find_all HB.out.1 (l := lst t) (σ := 0) (i := k) HR.out.2.2.2.2.2.1.2.2.1 (by rw [sz_lst, HF.out.2.1]; exact hlt)
          rw [Nat.zero_add] at hxf
          rw [em, hxf]
          clear hm nm em lm hxf
          have HXI := Lib.hid hxi
          clear hxi
          intro e w13 hF
          obtain ⟨hw13, ⟨hF0, -⟩ | ⟨x', q', sv, vis, hF1, rfl, -, hsv⟩⟩ := hF
          · cases hF0
          cases hF1
          have ew13 := ew12.trans hw13
          obtain ⟨sa, sk, sc, rfl⟩ := slice_of_nat hsv
          have HSv := Lib.hid hsv
          obtain ⟨xk, xn, xs⟩ := x
          clear hsv
          have ea := ew13.trans (Ext.alloc w13 (.cells #[.int .i64 xk, .int .i64 xn, .string xs] 38))
          go_wp2_with fail
          have hb14 := Blk.new w13 [.int .i64 xk, .int .i64 xn, .string xs] 38
          have hw14 := Ext.alloc w13 (.cells #[.int .i64 xk, .int .i64 xn, .string xs] 38)
          have hI := At_c (HF.out.1.ext ea) d p (k : Int) (HR.out.2.2.2.1.ext ea) (by rw [HF.out.2.1]; omega) (by rw [HF.out.2.2.1]; exact large_bound HB.out.2 (by omega))
          with_reducible refine hI.mono ?_
          clear hI
          generalize w13.alloc (.cells #[.int .i64 xk, .int .i64 xn, .string xs] 38) = w14 at ea hb14 hw14 ⊢
          have hat : atL (k : Int) (lst t) = some (⟨xk, xn, xs⟩, B) := by rw [atL, if_neg (by omega)]; exact HXI.out
          rw [hat]
          clear hat
          intro e w15 hF
          obtain ⟨hw15, ⟨hF0, -⟩ | ⟨x', q', sv, hF1, rfl, -⟩⟩ := hF
          · cases hF0
          cases hF1
          have ew15 := ea.trans hw15
          have hb15 := hb14.ext hw15
          obtain ⟨y0, y1, y2⟩ := boxV hb15
          have eb := Ext.alloc w15 (.cells #[.int .i64 xk, .int .i64 xn, .string xs] 38)
          have hn15 : w13.heap.size ≠ w15.heap.size := by have := hb15.lt; omega
          clear hb14
          go_wp2_with fail
          generalize w15.alloc (.cells #[.int .i64 xk, .int .i64 xn, .string xs] 38) = w16 at eb ⊢
          have ew16 := ew15.trans eb
          obtain ⟨l1, d1, m1, e1⟩ := HSv.out
          obtain ⟨l2, d2, m2, e2⟩ := HFr.out
          have hc : cmpI ((nval l1 : Nat) : Int) ((nval l2 : Nat) : Int) = 0 := cmpI_eq (by rw [e1, e2])
          have hI := cmp_nat (((d1.ext hw14).ext hw15).ext eb) ((((d2.ext hw13).ext hw14).ext hw15).ext eb)
          rw [hc] at hI
          clear hc d1 m1 e1 d2 m2 e2 l1 l2
          with_reducible refine hI.mono ?_
          clear hI
          rintro e w17 ⟨rfl, nq', rfl⟩
          have HE := Lib.hid (ew16.trans (Ext.drewN w16 nq'))
          generalize w16.drewN nq' = w17 at *
          clear ew16 eb ew15 ea hw15 hw14 hb15 y0 y1 y2
          go_wp2_with fail
          go_roundw
          case rel => exact ⟨k + 1, by omega, by go_num, HE⟩
          case measure => simp [intOf]; omega
        · have hlt' : decide ((k : Int) < (n : Int)) = false := by simpa using hlt
          go_wp2_with fail
          with_reducible refine (awake_c (w := w10)).mono ?_
          rintro e w11 ⟨rfl, hw11⟩
          go_wp2_with fail
          go_ret
          exact ⟨rfl, (HR.out.1.trans ew10).trans hw11⟩
end Go.Proofs.Ytbbnpicddmplbaa

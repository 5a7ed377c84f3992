/- WtreeGrows returns true for every input, and its arguments read afterwards as before. No condition. -/
import Derived.Test.YtbbnpicddmplbaaPut
import Derived.Test.YtbbnpicddmplbaaFdP
import Derived.Deep.DeepCutAuto
namespace Go.Proofs.Ytbbnpicddmplbaa
open Go.ChangeShapes Go.WideShapes Go.ChangeAt Go.RowKit
set_option linter.unusedVariables false
set_option linter.unusedSimpArgs false
variable {S : Nat → Prop}



/-- The key of round j. -/
def gkey (down : Bool) (n j : Nat) : Int := if down then (n : Int) - j else j
theorem gkey_inj {down : Bool} {n i j : Nat} (h : gkey down n i = gkey down n j) : i = j := by
  unfold gkey at h
  split at h <;> omega
/-- What holds of the list behind k insertions. -/
def GrowL (down : Bool) (n k : Nat) (l : List (GV × Nat)) : Prop := PlayOK false k l ∧ l.length = k ∧ ∀ x ∈ l, ∃ j, j < k ∧ x.1 = kv (gkey down n j)
theorem GrowL.step {down : Bool} {n k : Nat} {l : List (GV × Nat)} (h : GrowL down n k l) : GrowL down n (k + 1) (insL false (kv (gkey down n k), 1) l) := by
  obtain ⟨h1, h2, h3⟩ := h
  refine ⟨h1.ins _ (kv_valid _) (by simp) (by simp), ?_, fun x hx => ?_⟩
  · rw [insL_len_out, h2]
    intro x hx he
    obtain ⟨j, hj, hxj⟩ := h3 x hx
    rw [hxj] at he
    have := gkey_inj (kv_inj he)
    omega
  · rcases mem_insL hx with rfl | hx
    · exact ⟨k, by omega, rfl⟩
    · obtain ⟨j, hj, he⟩ := h3 x hx
      exact ⟨j, by omega, he⟩
def GrowRel (w : World) (g : Nat) (l : List (GV × Nat)) (p : Option Addr) (t : T) (wr : World) : Prop :=
  Ext w wr ∧ Blk wr g [.bool false, .pointer p] 27 ∧ TreeV (fun b => b ≠ g) wr p t ∧ Avl t ∧ lst t = l
theorem rHeight_c' {w : World} (m : Int) (n : Nat) (hm : m = n) (hn : n ≤ 1000000000) : Calls Try.prog 33 #[.int .i64 m] w (HtRes n w) := by
  subst hm
  exact rHeight_c n hn
set_option maxHeartbeats 8000000 in
set_option maxRecDepth 100000 in
theorem WtreeGrows_main {w : World} {many cut : Nat} {down : Bool} (hyp : many < 256 ∧ cut < 256) : Calls Try.prog 7 #[.int .u8 (many : Nat), .int .u8 (cut : Nat), .bool down] w (BoolRes true w) := by
  obtain ⟨hm, hcu⟩ := hyp
  go_enter Try.func7, Try.ntmps7
  go_wp2_with fail
  with_reducible refine (New_c false).mono ?_
  rintro e w1 ⟨rfl, hw1⟩
  have e2 := Ext.alloc w1 (.cells #[.bool false, .pointer none] 27)
  have hb2 := Blk.new w1 [.bool false, .pointer none] 27
  go_wp2_with fail
  generalize w1.alloc (.cells #[.bool false, .pointer none] 27) = w2 at e2 hb2 ⊢
  have hlo : w.heap.size ≤ w1.heap.size := hw1.size
  generalize w1.heap.size = g at *
  have hNe : ((many : Int) % 130) = ((many % 130 : Nat) : Int) := by simp
  rw [hNe]
  clear hNe
  have hN130 : many % 130 < 130 := Nat.mod_lt _ (by omega)
  generalize many % 130 = n at *
  have HS := Lib.hid (And.intro (hw1.trans e2) hb2)
  clear hw1 e2 hb2
  go_loopw [9] (fun i wr => ∃ (k : Nat) (p : Option Addr) (t : T) (l : List (GV × Nat)), k ≤ n ∧ i = .int .i64 k ∧ Hid (GrowRel w g l p t wr ∧ GrowL down n k l)) (fun i _ => n - (intOf i).toNat)
  case atStart => exact ⟨0, none, .nil, [], Nat.zero_le _, rfl, ⟨HS.out.1, HS.out.2, TreeV.nil _, trivial, rfl⟩, PlayOK.nil _, rfl, fun x hx => by simp at hx⟩
  case round =>
    obtain ⟨k, p, t, l, hk, rfl, HL⟩ := hrel
    clear HS
    obtain ⟨q0, q1⟩ := boxT HL.out.1.2.1
    have hgr := HL.out.1.2.1.lt
    have hsz : sz t = k := by rw [← sz_lst, HL.out.1.2.2.2.2]; exact HL.out.2.2.1
    have hto : tot t ≤ 4294967296000 := by rw [← tot_lst, HL.out.1.2.2.2.2]; exact HL.out.2.1.sum (by omega)
    have hrr := Ext.refl wr
    by_cases hkl : k < n
    · have hkb : decide (k < n) = true := by simpa using hkl
      have HZ := Lib.hid (And.intro hsz hto)
      clear hsz hto
      cases down
      · skip
        go_upto_region 9 with fail
        have PP : Hid (PutPre (fun b => b ≠ g) false p t (kv (k : Int)) 1 wr) := ⟨HL.out.1.2.2.1, HL.out.1.2.2.2.1, by rw [HL.out.1.2.2.2.2]; exact HL.out.2.1.1, by rw [HZ.out.1]; omega, by have := HZ.out.2; omega, kv_valid _, by omega, by omega, Fresh.ne hgr⟩
        generalize hSB : (fun b => b ≠ g) = SB at PP
        have HSB := Lib.hid hSB
        clear hSB
        go_cut [11, 12] (fun s11 s12 wx => ∃ (gx : Nat) (p5 : Option Addr) (t5 : T), s11 = .pointer (some ⟨gx, 0, none⟩) ∧ s12 = .int .i64 0 ∧ Hid (PutPost SB false t (kv (k : Int)) 1 wr gx p5 t5 wx))
        case first =>
          obtain ⟨wb, rfl⟩ : ∃ wb : World, wb = wr := ⟨_, rfl⟩
          obtain ⟨pp, rfl⟩ : ∃ pp : Option Addr, pp = p := ⟨_, rfl⟩
          obtain ⟨tt, rfl⟩ : ∃ tt : T, tt = t := ⟨_, rfl⟩
          have Ewb := Lib.hid (Ext.refl wb)
          refine wp_region_mixE 29 [(0, 0), (1, 3), (2, 3), (16, 4), (3, 1), (7, 4), (4, 1), (5, 3), (6, 3), (7, 3), (8, 1), (9, 2), (10, 3), (8, 1), (4, 1), (5, 3), (6, 3), (7, 3), (9, 2), (10, 3), (8, 1), (3, 1), (4, 1), (5, 3), (6, 3), (7, 3), (9, 2), (10, 3)] (by kernel_rfl) (fun _ _ d _ _ h => by cases d <;> exact h) ?_
          intro w6 hw6
          simp only [List.map_cons, List.map_nil, mixPick_lt _ _ 0 rfl, mixPick_lt _ _ 1 rfl, mixPick_lt _ _ 2 rfl, mixPick_lt _ _ 3 rfl, mixPick_fork, List.getD_cons_zero, List.getD_cons_succ]
          generalize yielded _ = y
          have Ew6 := Lib.hid (Ewb.out.trans hw6)
          have tew6 := fun W (h : Ext w6 W) => Ew6.out.trans h
          have hz6 := hw6.size
          repeat (first | (refine mx_pu (v := ?_) rfl (fun W => ?_) ?_; rotate_left; (focus (go_simp <;> with_reducible rfl)); simp only [Act.put, List.setIfInBounds_toArray, List.set_cons_zero, List.set_cons_succ]) | (refine mx_st (v := ?_) rfl (fun W hW => ?_) ?_; rotate_left; (focus (go_simp <;> with_reducible rfl)); simp only [Act.put, List.setIfInBounds_toArray, List.set_cons_zero, List.set_cons_succ]))
          refine mx_two ?_ ?_
          · simp only [List.take_succ_cons, List.take_zero]
            refine mx_call (f := ?_) (args := ?_) rfl ?_ ?_
            rotate_left 2
            focus (go_simp <;> (refine ⟨?_, ?_⟩ <;> with_reducible rfl))
            have hI := of_nat' (S := SB) (w := w6) (PP.out.2.2.2.2.2.2.2.2.ext Ew6.out) (1) (1) rfl (by omega)
            with_reducible refine hI.mono ?_
            clear hI
            rintro e' w7 ⟨v4, rfl, hw7, l4, d4, n4, e4⟩
            obtain ⟨a4, c4, rfl, -⟩ := id d4
            refine ⟨_, rfl, hw7, ?_⟩
            simp only [Act.put, List.setIfInBounds_toArray, List.set_cons_zero, List.set_cons_succ]
            have Ew7 := Lib.hid (Ew6.out.trans hw7)
            have tew7 := fun W (h : Ext w7 W) => Ew7.out.trans h
            clear tew6
            have hz7 := hw7.size
            have D4 := Lib.hid (And.intro d4 (And.intro n4 e4))
            clear d4 n4 e4
            repeat (first | (refine mx_pu (v := ?_) rfl (fun W => ?_) ?_; rotate_left; (focus (go_simp <;> with_reducible rfl)); simp only [Act.put, List.setIfInBounds_toArray, List.set_cons_zero, List.set_cons_succ]) | (refine mx_st (v := ?_) rfl (fun W hW => ?_) ?_; rotate_left; (focus (go_simp <;> with_reducible rfl)); simp only [Act.put, List.setIfInBounds_toArray, List.set_cons_zero, List.set_cons_succ]))
            refine mx_two ?_ ?_
            · simp only [List.take_succ_cons, List.take_zero]
              refine mx_call (f := ?_) (args := ?_) rfl ?_ ?_
              rotate_left 2
              focus (go_simp <;> (refine ⟨?_, ?_⟩ <;> with_reducible rfl))
              have hI := Put_ok (S := SB) (w := w7) (PP.out.2.2.2.2.2.2.2.2.ext Ew7.out) false pp (kv (k : Int)) (.slice a4 l4.length c4) (t := tt) ((PP.out.1.old.mono (S' := SB) (fun b h => h.1)).ext Ew7.out) PP.out.2.1 PP.out.2.2.1 (by have := PP.out.2.2.2.1; omega) (by rw [D4.out.2.2]; exact bigN_gt' (by have := PP.out.2.2.2.2.1; have := PP.out.2.2.2.2.2.2.2.1; omega)) (D4.out.1) (by have := bigK_le (D4.out.2.1.length_of_lt (by rw [D4.out.2.2]; exact bigN_gt' (by have := PP.out.2.2.2.2.2.2.2.1; omega))); omega) PP.out.2.2.2.2.2.1 (by rw [D4.out.2.2]; exact PP.out.2.2.2.2.2.2.1)
              rw [D4.out.2.2] at hI
              with_reducible refine hI.mono ?_
              clear hI
              rintro e' w8 ⟨p5, t5, rfl, hw8, ht5, hl5, ha5⟩
              refine ⟨_, rfl, hw8, ?_⟩
              have H5 := Lib.hid (And.intro ht5 (And.intro hl5 ha5))
              clear ht5 hl5 ha5
              simp only [Act.put, List.setIfInBounds_toArray, List.set_cons_zero, List.set_cons_succ]
              have Ew8 := Lib.hid (Ew7.out.trans hw8)
              have tew8 := fun W (h : Ext w8 W) => Ew8.out.trans h
              clear tew7
              have hz8 := hw8.size
              repeat (first | (refine mx_pu (v := ?_) rfl (fun W => ?_) ?_; rotate_left; (focus (go_simp <;> with_reducible rfl)); simp only [Act.put, List.setIfInBounds_toArray, List.set_cons_zero, List.set_cons_succ]) | (refine mx_st (v := ?_) rfl (fun W hW => ?_) ?_; rotate_left; (focus (go_simp <;> with_reducible rfl)); simp only [Act.put, List.setIfInBounds_toArray, List.set_cons_zero, List.set_cons_succ]))
              refine mx_al (v := ?_) (cs := ?_) (t := ?_) rfl ?_ (fun _ h => h) ?_
              rotate_left 3
              focus (go_simp <;> (first | with_reducible rfl | (refine ⟨?_, ?_⟩ <;> with_reducible rfl)))
              intro w9 hw9 hb0
              simp only [Act.put, List.setIfInBounds_toArray, List.set_cons_zero, List.set_cons_succ]
              have Ew9 := Lib.hid (Ew8.out.trans hw9)
              have tew9 := fun W (h : Ext w9 W) => Ew9.out.trans h
              clear tew8
              have hbl : Blk w9 w8.heap.size [.bool false, .pointer none] 27 := hb0
              clear hb0
              have hgb : w8.heap.size < w9.heap.size := hbl.lt
              have hgl : wb.heap.size ≤ w8.heap.size := Ew8.out.size
              generalize hgbe : w8.heap.size = gx at *
              have HGB := Lib.hid hgbe
              clear hgbe
              repeat (first | (refine mx_pu (v := ?_) rfl (fun W => ?_) ?_; rotate_left; (focus (go_simp <;> with_reducible rfl)); simp only [Act.put, List.setIfInBounds_toArray, List.set_cons_zero, List.set_cons_succ]) | (refine mx_st (v := ?_) rfl (fun W hW => ?_) ?_; rotate_left; (focus (go_simp <;> with_reducible rfl)); simp only [Act.put, List.setIfInBounds_toArray, List.set_cons_zero, List.set_cons_succ]))
              have HBL := Lib.hid hbl
              have r0 := hbl.freeF 0
              have r1 := hbl.freeF 1
              obtain ⟨z0, z1⟩ := boxT hbl
              have er9 := Ext.refl w9
              clear hbl
              refine mx_ts (w' := ?_) rfl ?_ ?_
              rotate_left
              focus (go_simp <;> with_reducible rfl)
              have hk := HBL.out.set2 (a := .bool false) (b := .pointer p5)
              have hbt := ExtBut.set2 w9 gx (.bool false) (.pointer p5)
              generalize (World.setCell w9 ⟨gx, 0, none⟩ (.bool false)).setCell ⟨gx, 1, none⟩ (.pointer p5) = w10 at hk hbt ⊢
              have HX : Hid (PutPost SB false tt (kv (k : Int)) (1) wb gx p5 t5 w10) := ⟨hbt.ext Ew9.out (fun b h => by subst h; exact hgl), hk, (((H5.out.1.old.mono (S' := fun b => SB b ∧ b ≠ gx) (fun b h => ⟨h.1, by have := h.2; have := HGB.out; omega⟩)).ext hw9).but (fun b h => h.2) hbt).mono (fun b h => h.1), H5.out.2.2, H5.out.2.1, hgl⟩
              clear hk hbt r0 r1 z0 z1 er9
              simp only [Act.put, List.setIfInBounds_toArray, List.set_cons_zero, List.set_cons_succ]
              repeat (first | (refine mx_pu (v := ?_) rfl (fun W => ?_) ?_; rotate_left; (focus (go_simp <;> with_reducible rfl)); simp only [Act.put, List.setIfInBounds_toArray, List.set_cons_zero, List.set_cons_succ]) | (refine mx_st (v := ?_) rfl (fun W hW => ?_) ?_; rotate_left; (focus (go_simp <;> with_reducible rfl)); simp only [Act.put, List.setIfInBounds_toArray, List.set_cons_zero, List.set_cons_succ]))
              refine mx_nil ?_
              go_wp2_with fail
              go_meet
              exact ⟨gx, p5, t5, rfl, rfl, HX⟩
            · simp only [List.drop_succ_cons, List.drop_zero]
              refine mx_al (v := ?_) (cs := ?_) (t := ?_) rfl ?_ (fun _ h => h) ?_
              rotate_left 3
              focus (go_simp <;> (first | with_reducible rfl | (refine ⟨?_, ?_⟩ <;> with_reducible rfl)))
              intro w8 hw8 hb0
              simp only [Act.put, List.setIfInBounds_toArray, List.set_cons_zero, List.set_cons_succ]
              have Ew8 := Lib.hid (Ew7.out.trans hw8)
              have tew8 := fun W (h : Ext w8 W) => Ew8.out.trans h
              clear tew7
              have hbl : Blk w8 w7.heap.size [.bool false, .pointer none] 27 := hb0
              clear hb0
              have hgb : w7.heap.size < w8.heap.size := hbl.lt
              have hgl : wb.heap.size ≤ w7.heap.size := Ew7.out.size
              generalize hgbe : w7.heap.size = gx at *
              have HGB := Lib.hid hgbe
              clear hgbe
              repeat (first | (refine mx_pu (v := ?_) rfl (fun W => ?_) ?_; rotate_left; (focus (go_simp <;> with_reducible rfl)); simp only [Act.put, List.setIfInBounds_toArray, List.set_cons_zero, List.set_cons_succ]) | (refine mx_st (v := ?_) rfl (fun W hW => ?_) ?_; rotate_left; (focus (go_simp <;> with_reducible rfl)); simp only [Act.put, List.setIfInBounds_toArray, List.set_cons_zero, List.set_cons_succ]))
              refine mx_call (f := ?_) (args := ?_) rfl ?_ ?_
              rotate_left 2
              focus (go_simp <;> (refine ⟨?_, ?_⟩ <;> with_reducible rfl))
              have hI := Put_ok (S := fun b => SB b ∧ b ≠ gx) (w := w8) (fun b hb => ⟨PP.out.2.2.2.2.2.2.2.2.ext Ew8.out b hb, by omega⟩) false pp (kv (k : Int)) (.slice a4 l4.length c4) (t := tt) ((PP.out.1.old.mono (S' := fun b => SB b ∧ b ≠ gx) (fun b h => ⟨h.1, by have := h.2; omega⟩)).ext Ew8.out) PP.out.2.1 PP.out.2.2.1 (by have := PP.out.2.2.2.1; omega) (by rw [D4.out.2.2]; exact bigN_gt' (by have := PP.out.2.2.2.2.1; have := PP.out.2.2.2.2.2.2.2.1; omega)) ((D4.out.1.old.mono (fun b h => ⟨h.1, by have := h.2; have := HGB.out; omega⟩)).ext hw8) (by have := bigK_le (D4.out.2.1.length_of_lt (by rw [D4.out.2.2]; exact bigN_gt' (by have := PP.out.2.2.2.2.2.2.2.1; omega))); omega) PP.out.2.2.2.2.2.1 (by rw [D4.out.2.2]; exact PP.out.2.2.2.2.2.2.1)
              rw [D4.out.2.2] at hI
              with_reducible refine hI.mono ?_
              clear hI
              rintro e' w9 ⟨p5, t5, rfl, hw9, ht5, hl5, ha5⟩
              refine ⟨_, rfl, hw9, ?_⟩
              have H5 := Lib.hid (And.intro ht5 (And.intro hl5 ha5))
              clear ht5 hl5 ha5
              simp only [Act.put, List.setIfInBounds_toArray, List.set_cons_zero, List.set_cons_succ]
              have Ew9 := Lib.hid (Ew8.out.trans hw9)
              have tew9 := fun W (h : Ext w9 W) => Ew9.out.trans h
              clear tew8
              have hz9 := hw9.size
              repeat (first | (refine mx_pu (v := ?_) rfl (fun W => ?_) ?_; rotate_left; (focus (go_simp <;> with_reducible rfl)); simp only [Act.put, List.setIfInBounds_toArray, List.set_cons_zero, List.set_cons_succ]) | (refine mx_st (v := ?_) rfl (fun W hW => ?_) ?_; rotate_left; (focus (go_simp <;> with_reducible rfl)); simp only [Act.put, List.setIfInBounds_toArray, List.set_cons_zero, List.set_cons_succ]))
              have hbl := hbl.ext hw9
              have HBL := Lib.hid hbl
              have r0 := hbl.freeF 0
              have r1 := hbl.freeF 1
              obtain ⟨z0, z1⟩ := boxT hbl
              have er9 := Ext.refl w9
              clear hbl
              refine mx_ts (w' := ?_) rfl ?_ ?_
              rotate_left
              focus (go_simp <;> with_reducible rfl)
              have hk := HBL.out.set2 (a := .bool false) (b := .pointer p5)
              have hbt := ExtBut.set2 w9 gx (.bool false) (.pointer p5)
              generalize (World.setCell w9 ⟨gx, 0, none⟩ (.bool false)).setCell ⟨gx, 1, none⟩ (.pointer p5) = w10 at hk hbt ⊢
              have HX : Hid (PutPost SB false tt (kv (k : Int)) (1) wb gx p5 t5 w10) := ⟨hbt.ext Ew9.out (fun b h => by subst h; exact hgl), hk, ((H5.out.1).but (fun b h => h.2) hbt).mono (fun b h => h.1), H5.out.2.2, H5.out.2.1, hgl⟩
              clear hk hbt r0 r1 z0 z1 er9
              simp only [Act.put, List.setIfInBounds_toArray, List.set_cons_zero, List.set_cons_succ]
              repeat (first | (refine mx_pu (v := ?_) rfl (fun W => ?_) ?_; rotate_left; (focus (go_simp <;> with_reducible rfl)); simp only [Act.put, List.setIfInBounds_toArray, List.set_cons_zero, List.set_cons_succ]) | (refine mx_st (v := ?_) rfl (fun W hW => ?_) ?_; rotate_left; (focus (go_simp <;> with_reducible rfl)); simp only [Act.put, List.setIfInBounds_toArray, List.set_cons_zero, List.set_cons_succ]))
              refine mx_nil ?_
              go_wp2_with fail
              go_meet
              exact ⟨gx, p5, t5, rfl, rfl, HX⟩
          · simp only [List.drop_succ_cons, List.drop_zero]
            refine mx_al (v := ?_) (cs := ?_) (t := ?_) rfl ?_ (fun _ h => h) ?_
            rotate_left 3
            focus (go_simp <;> (first | with_reducible rfl | (refine ⟨?_, ?_⟩ <;> with_reducible rfl)))
            intro w7 hw7 hb0
            simp only [Act.put, List.setIfInBounds_toArray, List.set_cons_zero, List.set_cons_succ]
            have Ew7 := Lib.hid (Ew6.out.trans hw7)
            have tew7 := fun W (h : Ext w7 W) => Ew7.out.trans h
            clear tew6
            have hbl : Blk w7 w6.heap.size [.bool false, .pointer none] 27 := hb0
            clear hb0
            have hgb : w6.heap.size < w7.heap.size := hbl.lt
            have hgl : wb.heap.size ≤ w6.heap.size := Ew6.out.size
            generalize hgbe : w6.heap.size = gx at *
            have HGB := Lib.hid hgbe
            clear hgbe
            repeat (first | (refine mx_pu (v := ?_) rfl (fun W => ?_) ?_; rotate_left; (focus (go_simp <;> with_reducible rfl)); simp only [Act.put, List.setIfInBounds_toArray, List.set_cons_zero, List.set_cons_succ]) | (refine mx_st (v := ?_) rfl (fun W hW => ?_) ?_; rotate_left; (focus (go_simp <;> with_reducible rfl)); simp only [Act.put, List.setIfInBounds_toArray, List.set_cons_zero, List.set_cons_succ]))
            refine mx_call (f := ?_) (args := ?_) rfl ?_ ?_
            rotate_left 2
            focus (go_simp <;> (refine ⟨?_, ?_⟩ <;> with_reducible rfl))
            have hI := of_nat' (S := fun b => SB b ∧ b ≠ gx) (w := w7) (fun b hb => ⟨PP.out.2.2.2.2.2.2.2.2.ext Ew7.out b hb, by omega⟩) (1) (1) rfl (by omega)
            with_reducible refine hI.mono ?_
            clear hI
            rintro e' w8 ⟨v4, rfl, hw8, l4, d4, n4, e4⟩
            obtain ⟨a4, c4, rfl, -⟩ := id d4
            refine ⟨_, rfl, hw8, ?_⟩
            simp only [Act.put, List.setIfInBounds_toArray, List.set_cons_zero, List.set_cons_succ]
            have Ew8 := Lib.hid (Ew7.out.trans hw8)
            have tew8 := fun W (h : Ext w8 W) => Ew8.out.trans h
            clear tew7
            have hz8 := hw8.size
            have D4 := Lib.hid (And.intro d4 (And.intro n4 e4))
            clear d4 n4 e4
            repeat (first | (refine mx_pu (v := ?_) rfl (fun W => ?_) ?_; rotate_left; (focus (go_simp <;> with_reducible rfl)); simp only [Act.put, List.setIfInBounds_toArray, List.set_cons_zero, List.set_cons_succ]) | (refine mx_st (v := ?_) rfl (fun W hW => ?_) ?_; rotate_left; (focus (go_simp <;> with_reducible rfl)); simp only [Act.put, List.setIfInBounds_toArray, List.set_cons_zero, List.set_cons_succ]))
            refine mx_call (f := ?_) (args := ?_) rfl ?_ ?_
            rotate_left 2
            focus (go_simp <;> (refine ⟨?_, ?_⟩ <;> with_reducible rfl))
            have hI := Put_ok (S := fun b => SB b ∧ b ≠ gx) (w := w8) (fun b hb => ⟨PP.out.2.2.2.2.2.2.2.2.ext Ew8.out b hb, by omega⟩) false pp (kv (k : Int)) (.slice a4 l4.length c4) (t := tt) ((PP.out.1.old.mono (S' := fun b => SB b ∧ b ≠ gx) (fun b h => ⟨h.1, by have := h.2; omega⟩)).ext Ew8.out) PP.out.2.1 PP.out.2.2.1 (by have := PP.out.2.2.2.1; omega) (by rw [D4.out.2.2]; exact bigN_gt' (by have := PP.out.2.2.2.2.1; have := PP.out.2.2.2.2.2.2.2.1; omega)) (D4.out.1) (by have := bigK_le (D4.out.2.1.length_of_lt (by rw [D4.out.2.2]; exact bigN_gt' (by have := PP.out.2.2.2.2.2.2.2.1; omega))); omega) PP.out.2.2.2.2.2.1 (by rw [D4.out.2.2]; exact PP.out.2.2.2.2.2.2.1)
            rw [D4.out.2.2] at hI
            with_reducible refine hI.mono ?_
            clear hI
            rintro e' w9 ⟨p5, t5, rfl, hw9, ht5, hl5, ha5⟩
            refine ⟨_, rfl, hw9, ?_⟩
            have H5 := Lib.hid (And.intro ht5 (And.intro hl5 ha5))
            clear ht5 hl5 ha5
            simp only [Act.put, List.setIfInBounds_toArray, List.set_cons_zero, List.set_cons_succ]
            have Ew9 := Lib.hid (Ew8.out.trans hw9)
            have tew9 := fun W (h : Ext w9 W) => Ew9.out.trans h
            clear tew8
            have hz9 := hw9.size
            repeat (first | (refine mx_pu (v := ?_) rfl (fun W => ?_) ?_; rotate_left; (focus (go_simp <;> with_reducible rfl)); simp only [Act.put, List.setIfInBounds_toArray, List.set_cons_zero, List.set_cons_succ]) | (refine mx_st (v := ?_) rfl (fun W hW => ?_) ?_; rotate_left; (focus (go_simp <;> with_reducible rfl)); simp only [Act.put, List.setIfInBounds_toArray, List.set_cons_zero, List.set_cons_succ]))
            have hbl := (hbl.ext hw8).ext hw9
            have HBL := Lib.hid hbl
            have r0 := hbl.freeF 0
            have r1 := hbl.freeF 1
            obtain ⟨z0, z1⟩ := boxT hbl
            have er9 := Ext.refl w9
            clear hbl
            refine mx_ts (w' := ?_) rfl ?_ ?_
            rotate_left
            focus (go_simp <;> with_reducible rfl)
            have hk := HBL.out.set2 (a := .bool false) (b := .pointer p5)
            have hbt := ExtBut.set2 w9 gx (.bool false) (.pointer p5)
            generalize (World.setCell w9 ⟨gx, 0, none⟩ (.bool false)).setCell ⟨gx, 1, none⟩ (.pointer p5) = w10 at hk hbt ⊢
            have HX : Hid (PutPost SB false tt (kv (k : Int)) (1) wb gx p5 t5 w10) := ⟨hbt.ext Ew9.out (fun b h => by subst h; exact hgl), hk, ((H5.out.1).but (fun b h => h.2) hbt).mono (fun b h => h.1), H5.out.2.2, H5.out.2.1, hgl⟩
            clear hk hbt r0 r1 z0 z1 er9
            simp only [Act.put, List.setIfInBounds_toArray, List.set_cons_zero, List.set_cons_succ]
            repeat (first | (refine mx_pu (v := ?_) rfl (fun W => ?_) ?_; rotate_left; (focus (go_simp <;> with_reducible rfl)); simp only [Act.put, List.setIfInBounds_toArray, List.set_cons_zero, List.set_cons_succ]) | (refine mx_st (v := ?_) rfl (fun W hW => ?_) ?_; rotate_left; (focus (go_simp <;> with_reducible rfl)); simp only [Act.put, List.setIfInBounds_toArray, List.set_cons_zero, List.set_cons_succ]))
            refine mx_nil ?_
            go_wp2_with fail
            go_meet
            exact ⟨gx, p5, t5, rfl, rfl, HX⟩
        case rest =>
          obtain ⟨gx, p5, t5, rfl, rfl, HX'⟩ := hcut
          have hX := HX'.out
          rw [← HSB.out] at hX
          have HX := Lib.hid hX
          clear hX PP HX' HSB
          have hl5 : lst t5 = insL false (kv (k : Int), 1) l := by rw [HX.out.2.2.2.2.1, HL.out.1.2.2.2.2]
          have HG : Hid (GrowL false n (k + 1) (insL false (kv (k : Int), 1) l)) := HL.out.2.step
          have hs5 : sz t5 = k + 1 := by rw [← sz_lst, hl5]; exact HG.out.2.1
          have ht5 : tot t5 ≤ 4294967296000 := by rw [← tot_lst, hl5]; exact HG.out.1.sum (by omega)
          have H5 := Lib.hid (And.intro hl5 (And.intro hs5 ht5))
          clear hl5 hs5 ht5
          obtain ⟨z0, z1⟩ := boxT HX.out.2.1
          have hcc := Ext.refl wc
          go_wp2_with fail
          have hI := Height_c (d := false) HX.out.2.2.1
          with_reducible refine hI.mono ?_
          clear hI
          rintro e w11 ⟨rfl, g11⟩
          go_wp2_with fail
          have hI := rHeight_c' (w := w11) ((k : Int) + 1) (k + 1) (by omega) (by omega)
          with_reducible refine hI.mono ?_
          clear hI
          rintro e w12 ⟨H, rfl, hH, -, rfl⟩
          have hhe := height_le HX.out.2.2.2.1 (H := H) (by rw [H5.out.2.1]; exact hH)
          have b1 : decide (H < ht t5) = false := by simp; omega
          clear hH
          go_wp2_with fail
          have hI := Check_c (fun b hb => by have := (HL.out.1.2.1.ext (HX.out.1.trans g11)).lt; omega) false p5 (HX.out.2.2.1.ext g11) HX.out.2.2.2.1 (by rw [H5.out.1]; exact HG.out.1.1) (by rw [H5.out.1]; exact HG.out.1.2.1) (by rw [H5.out.2.1]; omega) (bigN_gt' (by have := H5.out.2.2; omega))
          with_reducible refine hI.mono ?_
          clear hI
          rintro e w13 ⟨rfl, hw13⟩
          have g13 := g11.trans hw13
          have e13 := HX.out.1.trans g13
          clear hhe b1
          have r0 := HL.out.1.2.1.freeF 0
          have r1 := HL.out.1.2.1.freeF 1
          go_wp2_with fail
          have hkk := (HL.out.1.2.1.ext e13).set2 (a := .bool false) (b := .pointer p5)
          have hbt := ExtBut.set2 w13 g (.bool false) (.pointer p5)
          generalize (World.setCell w13 ⟨g, 0, none⟩ (.bool false)).setCell ⟨g, 1, none⟩ (.pointer p5) = w14 at hkk hbt ⊢
          have hN : GrowRel w g (insL false (kv (k : Int), 1) l) p5 t5 w14 ∧ GrowL false n (k + 1) (insL false (kv (k : Int), 1) l) := ⟨⟨hbt.ext (HL.out.1.1.trans e13) (fun b h => by omega), hkk, (HX.out.2.2.1.ext g13).but (fun b h => h) hbt, HX.out.2.2.2.1, H5.out.1⟩, HG.out⟩
          have HN := Lib.hid hN
          clear hN hkk hbt r0 r1 z0 z1
          go_roundw
          case rel => exact ⟨k + 1, p5, t5, _, by omega, by go_num, HN⟩
          case measure => simp [intOf]; omega
      · skip
        go_upto_region 9 with fail
        have PP : Hid (PutPre (fun b => b ≠ g) false p t (kv ((n : Int) - (k : Int))) 1 wr) := ⟨HL.out.1.2.2.1, HL.out.1.2.2.2.1, by rw [HL.out.1.2.2.2.2]; exact HL.out.2.1.1, by rw [HZ.out.1]; omega, by have := HZ.out.2; omega, kv_valid _, by omega, by omega, Fresh.ne hgr⟩
        generalize hSB : (fun b => b ≠ g) = SB at PP
        have HSB := Lib.hid hSB
        clear hSB
        go_cut [11, 12] (fun s11 s12 wx => ∃ (gx : Nat) (p5 : Option Addr) (t5 : T), s11 = .pointer (some ⟨gx, 0, none⟩) ∧ s12 = .int .i64 0 ∧ Hid (PutPost SB false t (kv ((n : Int) - (k : Int))) 1 wr gx p5 t5 wx))
        case first =>
          obtain ⟨wb, rfl⟩ : ∃ wb : World, wb = wr := ⟨_, rfl⟩
          obtain ⟨pp, rfl⟩ : ∃ pp : Option Addr, pp = p := ⟨_, rfl⟩
          obtain ⟨tt, rfl⟩ : ∃ tt : T, tt = t := ⟨_, rfl⟩
          have Ewb := Lib.hid (Ext.refl wb)
          refine wp_region_mixE 29 [(0, 0), (1, 3), (2, 3), (16, 4), (3, 1), (7, 4), (4, 1), (5, 3), (6, 3), (7, 3), (8, 1), (9, 2), (10, 3), (8, 1), (4, 1), (5, 3), (6, 3), (7, 3), (9, 2), (10, 3), (8, 1), (3, 1), (4, 1), (5, 3), (6, 3), (7, 3), (9, 2), (10, 3)] (by kernel_rfl) (fun _ _ d _ _ h => by cases d <;> exact h) ?_
          intro w6 hw6
          simp only [List.map_cons, List.map_nil, mixPick_lt _ _ 0 rfl, mixPick_lt _ _ 1 rfl, mixPick_lt _ _ 2 rfl, mixPick_lt _ _ 3 rfl, mixPick_fork, List.getD_cons_zero, List.getD_cons_succ]
          generalize yielded _ = y
          have Ew6 := Lib.hid (Ewb.out.trans hw6)
          have tew6 := fun W (h : Ext w6 W) => Ew6.out.trans h
          have hz6 := hw6.size
          repeat (first | (refine mx_pu (v := ?_) rfl (fun W => ?_) ?_; rotate_left; (focus (go_simp <;> with_reducible rfl)); simp only [Act.put, List.setIfInBounds_toArray, List.set_cons_zero, List.set_cons_succ]) | (refine mx_st (v := ?_) rfl (fun W hW => ?_) ?_; rotate_left; (focus (go_simp <;> with_reducible rfl)); simp only [Act.put, List.setIfInBounds_toArray, List.set_cons_zero, List.set_cons_succ]))
          refine mx_two ?_ ?_
          · simp only [List.take_succ_cons, List.take_zero]
            refine mx_call (f := ?_) (args := ?_) rfl ?_ ?_
            rotate_left 2
            focus (go_simp <;> (refine ⟨?_, ?_⟩ <;> with_reducible rfl))
            have hI := of_nat' (S := SB) (w := w6) (PP.out.2.2.2.2.2.2.2.2.ext Ew6.out) (1) (1) rfl (by omega)
            with_reducible refine hI.mono ?_
            clear hI
            rintro e' w7 ⟨v4, rfl, hw7, l4, d4, n4, e4⟩
            obtain ⟨a4, c4, rfl, -⟩ := id d4
            refine ⟨_, rfl, hw7, ?_⟩
            simp only [Act.put, List.setIfInBounds_toArray, List.set_cons_zero, List.set_cons_succ]
            have Ew7 := Lib.hid (Ew6.out.trans hw7)
            have tew7 := fun W (h : Ext w7 W) => Ew7.out.trans h
            clear tew6
            have hz7 := hw7.size
            have D4 := Lib.hid (And.intro d4 (And.intro n4 e4))
            clear d4 n4 e4
            repeat (first | (refine mx_pu (v := ?_) rfl (fun W => ?_) ?_; rotate_left; (focus (go_simp <;> with_reducible rfl)); simp only [Act.put, List.setIfInBounds_toArray, List.set_cons_zero, List.set_cons_succ]) | (refine mx_st (v := ?_) rfl (fun W hW => ?_) ?_; rotate_left; (focus (go_simp <;> with_reducible rfl)); simp only [Act.put, List.setIfInBounds_toArray, List.set_cons_zero, List.set_cons_succ]))
            refine mx_two ?_ ?_
            · simp only [List.take_succ_cons, List.take_zero]
              refine mx_call (f := ?_) (args := ?_) rfl ?_ ?_
              rotate_left 2
              focus (go_simp <;> (refine ⟨?_, ?_⟩ <;> with_reducible rfl))
              have hI := Put_ok (S := SB) (w := w7) (PP.out.2.2.2.2.2.2.2.2.ext Ew7.out) false pp (kv ((n : Int) - (k : Int))) (.slice a4 l4.length c4) (t := tt) ((PP.out.1.old.mono (S' := SB) (fun b h => h.1)).ext Ew7.out) PP.out.2.1 PP.out.2.2.1 (by have := PP.out.2.2.2.1; omega) (by rw [D4.out.2.2]; exact bigN_gt' (by have := PP.out.2.2.2.2.1; have := PP.out.2.2.2.2.2.2.2.1; omega)) (D4.out.1) (by have := bigK_le (D4.out.2.1.length_of_lt (by rw [D4.out.2.2]; exact bigN_gt' (by have := PP.out.2.2.2.2.2.2.2.1; omega))); omega) PP.out.2.2.2.2.2.1 (by rw [D4.out.2.2]; exact PP.out.2.2.2.2.2.2.1)
              rw [D4.out.2.2] at hI
              with_reducible refine hI.mono ?_
              clear hI
              rintro e' w8 ⟨p5, t5, rfl, hw8, ht5, hl5, ha5⟩
              refine ⟨_, rfl, hw8, ?_⟩
              have H5 := Lib.hid (And.intro ht5 (And.intro hl5 ha5))
              clear ht5 hl5 ha5
              simp only [Act.put, List.setIfInBounds_toArray, List.set_cons_zero, List.set_cons_succ]
              have Ew8 := Lib.hid (Ew7.out.trans hw8)
              have tew8 := fun W (h : Ext w8 W) => Ew8.out.trans h
              clear tew7
              have hz8 := hw8.size
              repeat (first | (refine mx_pu (v := ?_) rfl (fun W => ?_) ?_; rotate_left; (focus (go_simp <;> with_reducible rfl)); simp only [Act.put, List.setIfInBounds_toArray, List.set_cons_zero, List.set_cons_succ]) | (refine mx_st (v := ?_) rfl (fun W hW => ?_) ?_; rotate_left; (focus (go_simp <;> with_reducible rfl)); simp only [Act.put, List.setIfInBounds_toArray, List.set_cons_zero, List.set_cons_succ]))
              refine mx_al (v := ?_) (cs := ?_) (t := ?_) rfl ?_ (fun _ h => h) ?_
              rotate_left 3
              focus (go_simp <;> (first | with_reducible rfl | (refine ⟨?_, ?_⟩ <;> with_reducible rfl)))
              intro w9 hw9 hb0
              simp only [Act.put, List.setIfInBounds_toArray, List.set_cons_zero, List.set_cons_succ]
              have Ew9 := Lib.hid (Ew8.out.trans hw9)
              have tew9 := fun W (h : Ext w9 W) => Ew9.out.trans h
              clear tew8
              have hbl : Blk w9 w8.heap.size [.bool false, .pointer none] 27 := hb0
              clear hb0
              have hgb : w8.heap.size < w9.heap.size := hbl.lt
              have hgl : wb.heap.size ≤ w8.heap.size := Ew8.out.size
              generalize hgbe : w8.heap.size = gx at *
              have HGB := Lib.hid hgbe
              clear hgbe
              repeat (first | (refine mx_pu (v := ?_) rfl (fun W => ?_) ?_; rotate_left; (focus (go_simp <;> with_reducible rfl)); simp only [Act.put, List.setIfInBounds_toArray, List.set_cons_zero, List.set_cons_succ]) | (refine mx_st (v := ?_) rfl (fun W hW => ?_) ?_; rotate_left; (focus (go_simp <;> with_reducible rfl)); simp only [Act.put, List.setIfInBounds_toArray, List.set_cons_zero, List.set_cons_succ]))
              have HBL := Lib.hid hbl
              have r0 := hbl.freeF 0
              have r1 := hbl.freeF 1
              obtain ⟨z0, z1⟩ := boxT hbl
              have er9 := Ext.refl w9
              clear hbl
              refine mx_ts (w' := ?_) rfl ?_ ?_
              rotate_left
              focus (go_simp <;> with_reducible rfl)
              have hk := HBL.out.set2 (a := .bool false) (b := .pointer p5)
              have hbt := ExtBut.set2 w9 gx (.bool false) (.pointer p5)
              generalize (World.setCell w9 ⟨gx, 0, none⟩ (.bool false)).setCell ⟨gx, 1, none⟩ (.pointer p5) = w10 at hk hbt ⊢
              have HX : Hid (PutPost SB false tt (kv ((n : Int) - (k : Int))) (1) wb gx p5 t5 w10) := ⟨hbt.ext Ew9.out (fun b h => by subst h; exact hgl), hk, (((H5.out.1.old.mono (S' := fun b => SB b ∧ b ≠ gx) (fun b h => ⟨h.1, by have := h.2; have := HGB.out; omega⟩)).ext hw9).but (fun b h => h.2) hbt).mono (fun b h => h.1), H5.out.2.2, H5.out.2.1, hgl⟩
              clear hk hbt r0 r1 z0 z1 er9
              simp only [Act.put, List.setIfInBounds_toArray, List.set_cons_zero, List.set_cons_succ]
              repeat (first | (refine mx_pu (v := ?_) rfl (fun W => ?_) ?_; rotate_left; (focus (go_simp <;> with_reducible rfl)); simp only [Act.put, List.setIfInBounds_toArray, List.set_cons_zero, List.set_cons_succ]) | (refine mx_st (v := ?_) rfl (fun W hW => ?_) ?_; rotate_left; (focus (go_simp <;> with_reducible rfl)); simp only [Act.put, List.setIfInBounds_toArray, List.set_cons_zero, List.set_cons_succ]))
              refine mx_nil ?_
              go_wp2_with fail
              go_meet
              exact ⟨gx, p5, t5, rfl, rfl, HX⟩
            · simp only [List.drop_succ_cons, List.drop_zero]
              refine mx_al (v := ?_) (cs := ?_) (t := ?_) rfl ?_ (fun _ h => h) ?_
              rotate_left 3
              focus (go_simp <;> (first | with_reducible rfl | (refine ⟨?_, ?_⟩ <;> with_reducible rfl)))
              intro w8 hw8 hb0
              simp only [Act.put, List.setIfInBounds_toArray, List.set_cons_zero, List.set_cons_succ]
              have Ew8 := Lib.hid (Ew7.out.trans hw8)
              have tew8 := fun W (h : Ext w8 W) => Ew8.out.trans h
              clear tew7
              have hbl : Blk w8 w7.heap.size [.bool false, .pointer none] 27 := hb0
              clear hb0
              have hgb : w7.heap.size < w8.heap.size := hbl.lt
              have hgl : wb.heap.size ≤ w7.heap.size := Ew7.out.size
              generalize hgbe : w7.heap.size = gx at *
              have HGB := Lib.hid hgbe
              clear hgbe
              repeat (first | (refine mx_pu (v := ?_) rfl (fun W => ?_) ?_; rotate_left; (focus (go_simp <;> with_reducible rfl)); simp only [Act.put, List.setIfInBounds_toArray, List.set_cons_zero, List.set_cons_succ]) | (refine mx_st (v := ?_) rfl (fun W hW => ?_) ?_; rotate_left; (focus (go_simp <;> with_reducible rfl)); simp only [Act.put, List.setIfInBounds_toArray, List.set_cons_zero, List.set_cons_succ]))
              refine mx_call (f := ?_) (args := ?_) rfl ?_ ?_
              rotate_left 2
              focus (go_simp <;> (refine ⟨?_, ?_⟩ <;> with_reducible rfl))
              have hI := Put_ok (S := fun b => SB b ∧ b ≠ gx) (w := w8) (fun b hb => ⟨PP.out.2.2.2.2.2.2.2.2.ext Ew8.out b hb, by omega⟩) false pp (kv ((n : Int) - (k : Int))) (.slice a4 l4.length c4) (t := tt) ((PP.out.1.old.mono (S' := fun b => SB b ∧ b ≠ gx) (fun b h => ⟨h.1, by have := h.2; omega⟩)).ext Ew8.out) PP.out.2.1 PP.out.2.2.1 (by have := PP.out.2.2.2.1; omega) (by rw [D4.out.2.2]; exact bigN_gt' (by have := PP.out.2.2.2.2.1; have := PP.out.2.2.2.2.2.2.2.1; omega)) ((D4.out.1.old.mono (fun b h => ⟨h.1, by have := h.2; have := HGB.out; omega⟩)).ext hw8) (by have := bigK_le (D4.out.2.1.length_of_lt (by rw [D4.out.2.2]; exact bigN_gt' (by have := PP.out.2.2.2.2.2.2.2.1; omega))); omega) PP.out.2.2.2.2.2.1 (by rw [D4.out.2.2]; exact PP.out.2.2.2.2.2.2.1)
              rw [D4.out.2.2] at hI
              with_reducible refine hI.mono ?_
              clear hI
              rintro e' w9 ⟨p5, t5, rfl, hw9, ht5, hl5, ha5⟩
              refine ⟨_, rfl, hw9, ?_⟩
              have H5 := Lib.hid (And.intro ht5 (And.intro hl5 ha5))
              clear ht5 hl5 ha5
              simp only [Act.put, List.setIfInBounds_toArray, List.set_cons_zero, List.set_cons_succ]
              have Ew9 := Lib.hid (Ew8.out.trans hw9)
              have tew9 := fun W (h : Ext w9 W) => Ew9.out.trans h
              clear tew8
              have hz9 := hw9.size
              repeat (first | (refine mx_pu (v := ?_) rfl (fun W => ?_) ?_; rotate_left; (focus (go_simp <;> with_reducible rfl)); simp only [Act.put, List.setIfInBounds_toArray, List.set_cons_zero, List.set_cons_succ]) | (refine mx_st (v := ?_) rfl (fun W hW => ?_) ?_; rotate_left; (focus (go_simp <;> with_reducible rfl)); simp only [Act.put, List.setIfInBounds_toArray, List.set_cons_zero, List.set_cons_succ]))
              have hbl := hbl.ext hw9
              have HBL := Lib.hid hbl
              have r0 := hbl.freeF 0
              have r1 := hbl.freeF 1
              obtain ⟨z0, z1⟩ := boxT hbl
              have er9 := Ext.refl w9
              clear hbl
              refine mx_ts (w' := ?_) rfl ?_ ?_
              rotate_left
              focus (go_simp <;> with_reducible rfl)
              have hk := HBL.out.set2 (a := .bool false) (b := .pointer p5)
              have hbt := ExtBut.set2 w9 gx (.bool false) (.pointer p5)
              generalize (World.setCell w9 ⟨gx, 0, none⟩ (.bool false)).setCell ⟨gx, 1, none⟩ (.pointer p5) = w10 at hk hbt ⊢
              have HX : Hid (PutPost SB false tt (kv ((n : Int) - (k : Int))) (1) wb gx p5 t5 w10) := ⟨hbt.ext Ew9.out (fun b h => by subst h; exact hgl), hk, ((H5.out.1).but (fun b h => h.2) hbt).mono (fun b h => h.1), H5.out.2.2, H5.out.2.1, hgl⟩
              clear hk hbt r0 r1 z0 z1 er9
              simp only [Act.put, List.setIfInBounds_toArray, List.set_cons_zero, List.set_cons_succ]
              repeat (first | (refine mx_pu (v := ?_) rfl (fun W => ?_) ?_; rotate_left; (focus (go_simp <;> with_reducible rfl)); simp only [Act.put, List.setIfInBounds_toArray, List.set_cons_zero, List.set_cons_succ]) | (refine mx_st (v := ?_) rfl (fun W hW => ?_) ?_; rotate_left; (focus (go_simp <;> with_reducible rfl)); simp only [Act.put, List.setIfInBounds_toArray, List.set_cons_zero, List.set_cons_succ]))
              refine mx_nil ?_
              go_wp2_with fail
              go_meet
              exact ⟨gx, p5, t5, rfl, rfl, HX⟩
          · simp only [List.drop_succ_cons, List.drop_zero]
            refine mx_al (v := ?_) (cs := ?_) (t := ?_) rfl ?_ (fun _ h => h) ?_
            rotate_left 3
            focus (go_simp <;> (first | with_reducible rfl | (refine ⟨?_, ?_⟩ <;> with_reducible rfl)))
            intro w7 hw7 hb0
            simp only [Act.put, List.setIfInBounds_toArray, List.set_cons_zero, List.set_cons_succ]
            have Ew7 := Lib.hid (Ew6.out.trans hw7)
            have tew7 := fun W (h : Ext w7 W) => Ew7.out.trans h
            clear tew6
            have hbl : Blk w7 w6.heap.size [.bool false, .pointer none] 27 := hb0
            clear hb0
            have hgb : w6.heap.size < w7.heap.size := hbl.lt
            have hgl : wb.heap.size ≤ w6.heap.size := Ew6.out.size
            generalize hgbe : w6.heap.size = gx at *
            have HGB := Lib.hid hgbe
            clear hgbe
            repeat (first | (refine mx_pu (v := ?_) rfl (fun W => ?_) ?_; rotate_left; (focus (go_simp <;> with_reducible rfl)); simp only [Act.put, List.setIfInBounds_toArray, List.set_cons_zero, List.set_cons_succ]) | (refine mx_st (v := ?_) rfl (fun W hW => ?_) ?_; rotate_left; (focus (go_simp <;> with_reducible rfl)); simp only [Act.put, List.setIfInBounds_toArray, List.set_cons_zero, List.set_cons_succ]))
            refine mx_call (f := ?_) (args := ?_) rfl ?_ ?_
            rotate_left 2
            focus (go_simp <;> (refine ⟨?_, ?_⟩ <;> with_reducible rfl))
            have hI := of_nat' (S := fun b => SB b ∧ b ≠ gx) (w := w7) (fun b hb => ⟨PP.out.2.2.2.2.2.2.2.2.ext Ew7.out b hb, by omega⟩) (1) (1) rfl (by omega)
            with_reducible refine hI.mono ?_
            clear hI
            rintro e' w8 ⟨v4, rfl, hw8, l4, d4, n4, e4⟩
            obtain ⟨a4, c4, rfl, -⟩ := id d4
            refine ⟨_, rfl, hw8, ?_⟩
            simp only [Act.put, List.setIfInBounds_toArray, List.set_cons_zero, List.set_cons_succ]
            have Ew8 := Lib.hid (Ew7.out.trans hw8)
            have tew8 := fun W (h : Ext w8 W) => Ew8.out.trans h
            clear tew7
            have hz8 := hw8.size
            have D4 := Lib.hid (And.intro d4 (And.intro n4 e4))
            clear d4 n4 e4
            repeat (first | (refine mx_pu (v := ?_) rfl (fun W => ?_) ?_; rotate_left; (focus (go_simp <;> with_reducible rfl)); simp only [Act.put, List.setIfInBounds_toArray, List.set_cons_zero, List.set_cons_succ]) | (refine mx_st (v := ?_) rfl (fun W hW => ?_) ?_; rotate_left; (focus (go_simp <;> with_reducible rfl)); simp only [Act.put, List.setIfInBounds_toArray, List.set_cons_zero, List.set_cons_succ]))
            refine mx_call (f := ?_) (args := ?_) rfl ?_ ?_
            rotate_left 2
            focus (go_simp <;> (refine ⟨?_, ?_⟩ <;> with_reducible rfl))
            have hI := Put_ok (S := fun b => SB b ∧ b ≠ gx) (w := w8) (fun b hb => ⟨PP.out.2.2.2.2.2.2.2.2.ext Ew8.out b hb, by omega⟩) false pp (kv ((n : Int) - (k : Int))) (.slice a4 l4.length c4) (t := tt) ((PP.out.1.old.mono (S' := fun b => SB b ∧ b ≠ gx) (fun b h => ⟨h.1, by have := h.2; omega⟩)).ext Ew8.out) PP.out.2.1 PP.out.2.2.1 (by have := PP.out.2.2.2.1; omega) (by rw [D4.out.2.2]; exact bigN_gt' (by have := PP.out.2.2.2.2.1; have := PP.out.2.2.2.2.2.2.2.1; omega)) (D4.out.1) (by have := bigK_le (D4.out.2.1.length_of_lt (by rw [D4.out.2.2]; exact bigN_gt' (by have := PP.out.2.2.2.2.2.2.2.1; omega))); omega) PP.out.2.2.2.2.2.1 (by rw [D4.out.2.2]; exact PP.out.2.2.2.2.2.2.1)
            rw [D4.out.2.2] at hI
            with_reducible refine hI.mono ?_
            clear hI
            rintro e' w9 ⟨p5, t5, rfl, hw9, ht5, hl5, ha5⟩
            refine ⟨_, rfl, hw9, ?_⟩
            have H5 := Lib.hid (And.intro ht5 (And.intro hl5 ha5))
            clear ht5 hl5 ha5
            simp only [Act.put, List.setIfInBounds_toArray, List.set_cons_zero, List.set_cons_succ]
            have Ew9 := Lib.hid (Ew8.out.trans hw9)
            have tew9 := fun W (h : Ext w9 W) => Ew9.out.trans h
            clear tew8
            have hz9 := hw9.size
            repeat (first | (refine mx_pu (v := ?_) rfl (fun W => ?_) ?_; rotate_left; (focus (go_simp <;> with_reducible rfl)); simp only [Act.put, List.setIfInBounds_toArray, List.set_cons_zero, List.set_cons_succ]) | (refine mx_st (v := ?_) rfl (fun W hW => ?_) ?_; rotate_left; (focus (go_simp <;> with_reducible rfl)); simp only [Act.put, List.setIfInBounds_toArray, List.set_cons_zero, List.set_cons_succ]))
            have hbl := (hbl.ext hw8).ext hw9
            have HBL := Lib.hid hbl
            have r0 := hbl.freeF 0
            have r1 := hbl.freeF 1
            obtain ⟨z0, z1⟩ := boxT hbl
            have er9 := Ext.refl w9
            clear hbl
            refine mx_ts (w' := ?_) rfl ?_ ?_
            rotate_left
            focus (go_simp <;> with_reducible rfl)
            have hk := HBL.out.set2 (a := .bool false) (b := .pointer p5)
            have hbt := ExtBut.set2 w9 gx (.bool false) (.pointer p5)
            generalize (World.setCell w9 ⟨gx, 0, none⟩ (.bool false)).setCell ⟨gx, 1, none⟩ (.pointer p5) = w10 at hk hbt ⊢
            have HX : Hid (PutPost SB false tt (kv ((n : Int) - (k : Int))) (1) wb gx p5 t5 w10) := ⟨hbt.ext Ew9.out (fun b h => by subst h; exact hgl), hk, ((H5.out.1).but (fun b h => h.2) hbt).mono (fun b h => h.1), H5.out.2.2, H5.out.2.1, hgl⟩
            clear hk hbt r0 r1 z0 z1 er9
            simp only [Act.put, List.setIfInBounds_toArray, List.set_cons_zero, List.set_cons_succ]
            repeat (first | (refine mx_pu (v := ?_) rfl (fun W => ?_) ?_; rotate_left; (focus (go_simp <;> with_reducible rfl)); simp only [Act.put, List.setIfInBounds_toArray, List.set_cons_zero, List.set_cons_succ]) | (refine mx_st (v := ?_) rfl (fun W hW => ?_) ?_; rotate_left; (focus (go_simp <;> with_reducible rfl)); simp only [Act.put, List.setIfInBounds_toArray, List.set_cons_zero, List.set_cons_succ]))
            refine mx_nil ?_
            go_wp2_with fail
            go_meet
            exact ⟨gx, p5, t5, rfl, rfl, HX⟩
        case rest =>
          obtain ⟨gx, p5, t5, rfl, rfl, HX'⟩ := hcut
          have hX := HX'.out
          rw [← HSB.out] at hX
          have HX := Lib.hid hX
          clear hX PP HX' HSB
          have hl5 : lst t5 = insL false (kv ((n : Int) - (k : Int)), 1) l := by rw [HX.out.2.2.2.2.1, HL.out.1.2.2.2.2]
          have HG : Hid (GrowL true n (k + 1) (insL false (kv ((n : Int) - (k : Int)), 1) l)) := HL.out.2.step
          have hs5 : sz t5 = k + 1 := by rw [← sz_lst, hl5]; exact HG.out.2.1
          have ht5 : tot t5 ≤ 4294967296000 := by rw [← tot_lst, hl5]; exact HG.out.1.sum (by omega)
          have H5 := Lib.hid (And.intro hl5 (And.intro hs5 ht5))
          clear hl5 hs5 ht5
          obtain ⟨z0, z1⟩ := boxT HX.out.2.1
          have hcc := Ext.refl wc
          go_wp2_with fail
          have hI := Height_c (d := false) HX.out.2.2.1
          with_reducible refine hI.mono ?_
          clear hI
          rintro e w11 ⟨rfl, g11⟩
          go_wp2_with fail
          have hI := rHeight_c' (w := w11) ((k : Int) + 1) (k + 1) (by omega) (by omega)
          with_reducible refine hI.mono ?_
          clear hI
          rintro e w12 ⟨H, rfl, hH, -, rfl⟩
          have hhe := height_le HX.out.2.2.2.1 (H := H) (by rw [H5.out.2.1]; exact hH)
          have b1 : decide (H < ht t5) = false := by simp; omega
          clear hH
          go_wp2_with fail
          have hI := Check_c (fun b hb => by have := (HL.out.1.2.1.ext (HX.out.1.trans g11)).lt; omega) false p5 (HX.out.2.2.1.ext g11) HX.out.2.2.2.1 (by rw [H5.out.1]; exact HG.out.1.1) (by rw [H5.out.1]; exact HG.out.1.2.1) (by rw [H5.out.2.1]; omega) (bigN_gt' (by have := H5.out.2.2; omega))
          with_reducible refine hI.mono ?_
          clear hI
          rintro e w13 ⟨rfl, hw13⟩
          have g13 := g11.trans hw13
          have e13 := HX.out.1.trans g13
          clear hhe b1
          have r0 := HL.out.1.2.1.freeF 0
          have r1 := HL.out.1.2.1.freeF 1
          go_wp2_with fail
          have hkk := (HL.out.1.2.1.ext e13).set2 (a := .bool false) (b := .pointer p5)
          have hbt := ExtBut.set2 w13 g (.bool false) (.pointer p5)
          generalize (World.setCell w13 ⟨g, 0, none⟩ (.bool false)).setCell ⟨g, 1, none⟩ (.pointer p5) = w14 at hkk hbt ⊢
          have hN : GrowRel w g (insL false (kv ((n : Int) - (k : Int)), 1) l) p5 t5 w14 ∧ GrowL true n (k + 1) (insL false (kv ((n : Int) - (k : Int)), 1) l) := ⟨⟨hbt.ext (HL.out.1.1.trans e13) (fun b h => by omega), hkk, (HX.out.2.2.1.ext g13).but (fun b h => h) hbt, HX.out.2.2.2.1, H5.out.1⟩, HG.out⟩
          have HN := Lib.hid hN
          clear hN hkk hbt r0 r1 z0 z1
          go_roundw
          case rel => exact ⟨k + 1, p5, t5, _, by omega, by go_num, HN⟩
          case measure => simp [intOf]; omega
    · obtain rfl : k = n := by omega
      have hkb : decide (k < k) = false := by simp
      have hC : cut % (k + 1) ≤ k := by have := Nat.mod_lt cut (show 0 < k + 1 by omega); omega
      have hCe : ((cut : Int) % ((k : Int) + 1)) = ((cut % (k + 1) : Nat) : Int) := by simp
      have HC := Lib.hid hCe
      clear hCe hkb
      have HZ := Lib.hid (And.intro hsz hto)
      clear hsz hto
      go_wp2_with fail
      have HL1 := Lib.hid HL.out
      clear q0 q1 hgr hrr
      go_loopw [13] (fun i wq => ∃ (j : Nat) (p : Option Addr) (t : T) (l : List (GV × Nat)), j ≤ cut % (k + 1) ∧ i = .int .i64 j ∧ Hid (GrowRel w g l p t wq ∧ PlayOK false k l ∧ l.length = k - j)) (fun i _ => cut % (k + 1) - (intOf i).toNat)
      case atStart => exact ⟨0, p, t, l, Nat.zero_le _, rfl, HL1.out.1, HL1.out.2.1, HL1.out.2.2.1⟩
      case round =>
        obtain ⟨j, p, t, l, hj, rfl, HL⟩ := hrel
        clear HL1 HZ
        obtain ⟨q0, q1⟩ := boxT HL.out.1.2.1
        have hgr := HL.out.1.2.1.lt
        have hrr := Ext.refl wr
        by_cases hjl : j < cut % (k + 1)
        · have hjb : decide ((j : Int) < (cut : Int) % ((k : Int) + 1)) = true := by rw [HC.out]; exact decide_eq_true (by omega)
          obtain ⟨x, r, hlx⟩ : ∃ x r, l = x :: r := by
            cases hl : l with
            | nil => have := HL.out.2.2; rw [hl] at this; simp at this; omega
            | cons x r => exact ⟨x, r, rfl⟩
          subst hlx
          obtain ⟨⟨xk, xn, xs⟩, xw⟩ := x
          have hso := HL.out.2.1.1
          have hdl : delL false ⟨xk, xn, xs⟩ ((⟨xk, xn, xs⟩, xw) :: r) = r := del_eq (L := []) hso (tcmp_refl _ _)
          have hlk : lookL false ⟨xk, xn, xs⟩ ((⟨xk, xn, xs⟩, xw) :: r) = some xw := look_at (i := 0) hso rfl
          have hrl : r.length = k - (j + 1) := by have := HL.out.2.2; simp at this; omega
          have hokr : PlayOK false k r := ⟨(List.pairwise_cons.1 hso).2, fun y hy => HL.out.2.1.2.1 y (List.mem_cons_of_mem _ hy), by have := HL.out.2.1.2.2.1; simp at this; omega, fun y hy => HL.out.2.1.2.2.2 y (List.mem_cons_of_mem _ hy)⟩
          have hsz : sz t = k - j := by rw [← sz_lst, HL.out.1.2.2.2.2]; exact HL.out.2.2
          have hto : tot t ≤ 4294967296000 := by rw [← tot_lst, HL.out.1.2.2.2.2]; exact HL.out.2.1.sum (by omega)
          have HD := Lib.hid (And.intro hdl (And.intro hlk (And.intro hrl (And.intro hokr (And.intro hsz hto)))))
          clear hso hdl hlk hrl hokr hsz hto
          have hfr : ∀ W, Ext wr W → Fresh (fun b => b ≠ g) W := fun W h => Fresh.ne (HL.out.1.2.1.ext h).lt
          have HFR := Lib.hid hfr
          clear hfr
          go_wp2_with fail
          have hI := At_c (HFR.out _ (Ext.refl wr)) false p 0 HL.out.1.2.2.1 (by rw [HD.out.2.2.2.2.1]; omega) (bigN_gt' (by have := HD.out.2.2.2.2.2; omega))
          rw [HL.out.1.2.2.2.2, show atL 0 ((⟨xk, xn, xs⟩, xw) :: r) = some (⟨xk, xn, xs⟩, xw) from rfl] at hI
          with_reducible refine hI.mono ?_
          clear hI
          rintro e w10 ⟨hw10, ⟨hF0, -⟩ | ⟨x', n', sv, hF1, rfl, -⟩⟩
          · cases hF0
          cases hF1
          have e11 := Ext.alloc w10 (.cells #[.int .i64 xk, .int .i64 xn, .string xs] 38)
          have hb11 := Blk.new w10 [.int .i64 xk, .int .i64 xn, .string xs] 38
          have f11 := hw10.trans e11
          go_wp2_with fail
          generalize w10.alloc (.cells #[.int .i64 xk, .int .i64 xn, .string xs] 38) = w11 at e11 hb11 f11 ⊢
          have hI := Delete_c (HFR.out _ f11) false p ⟨xk, xn, xs⟩ (HL.out.1.2.2.1.ext f11) HL.out.1.2.2.2.1 (by rw [HL.out.1.2.2.2.2]; exact HL.out.2.1.1) (by rw [HD.out.2.2.2.2.1]; omega) (bigN_gt' (by have := HD.out.2.2.2.2.2; omega))
          rw [HL.out.1.2.2.2.2, HD.out.2.1] at hI
          with_reducible refine hI.mono ?_
          clear hI
          rintro e w12 ⟨p5, t5, rfl, hw12, ht5, hl5, ha5⟩
          rw [HL.out.1.2.2.2.2, HD.out.1] at hl5
          have hs5 : sz t5 = k - (j + 1) := by rw [← sz_lst, hl5]; exact HD.out.2.2.1
          have htt5 : tot t5 ≤ 4294967296000 := by rw [← tot_lst, hl5]; exact HD.out.2.2.2.1.sum (by omega)
          have f12 := f11.trans hw12
          have e13 := Ext.alloc w12 (.cells #[.bool false, .pointer p5] 27)
          have hb13 := Blk.new w12 [.bool false, .pointer p5] 27
          have H5 := Lib.hid (And.intro (ht5.ext e13) (And.intro hl5 (And.intro ha5 (And.intro hs5 htt5))))
          have f13 := f12.trans e13
          clear ht5 hl5 ha5 hs5 htt5 f11 f12 e11 hb11
          go_wp2_with fail
          generalize w12.alloc (.cells #[.bool false, .pointer p5] 27) = w13 at e13 hb13 f13 H5 ⊢
          obtain ⟨z0, z1⟩ := boxT hb13
          have HF13 := Lib.hid f13
          have Ew13 := Lib.hid (Ext.refl w13)
          clear hb13 e13 f13
          have s1 : IntKind.i64.wrap ((k : Int) - (j : Int)) = (k : Int) - (j : Int) := IntWalk.i64_in _ (by omega)
          have s2 : IntKind.i64.wrap ((k : Int) - (j : Int) - 1) = (k : Int) - (j : Int) - 1 := IntWalk.i64_in _ (by omega)
          refine wp_region_mixE 29 [(0, 3), (1, 3), (2, 3), (3, 3), (4, 3), (5, 3), (6, 3), (7, 0), (8, 1), (9, 3), (10, 3), (11, 3), (12, 0), (14, 0), (13, 1), (15, 1), (16, 1), (17, 3), (18, 3), (19, 3), (20, 0), (22, 3), (23, 3), (24, 3), (25, 3), (21, 1), (26, 3), (27, 3)] (by kernel_rfl) (fun _ _ d _ _ h => by cases d <;> exact h) ?_
          intro w14 hw14
          simp only [List.map_cons, List.map_nil, mixPick_lt _ _ 0 rfl, mixPick_lt _ _ 1 rfl, mixPick_lt _ _ 2 rfl, mixPick_lt _ _ 3 rfl, mixPick_fork, List.getD_cons_zero, List.getD_cons_succ]
          have Ew14 := Lib.hid (Ew13.out.trans hw14)
          have tew14 := fun W (h : Ext w14 W) => Ew14.out.trans h
          repeat (first | (refine mx_pu (v := ?_) rfl (fun W => ?_) ?_; rotate_left; (focus (go_simp <;> with_reducible rfl)); simp only [Act.put, List.setIfInBounds_toArray, List.set_cons_zero, List.set_cons_succ]) | (refine mx_no3 rfl ?_; simp only [Act.put, List.setIfInBounds_toArray, List.set_cons_zero, List.set_cons_succ]) | (refine mx_st (v := ?_) rfl (fun W hW => ?_) ?_; rotate_left; (focus (go_simp <;> with_reducible rfl)); simp only [Act.put, List.setIfInBounds_toArray, List.set_cons_zero, List.set_cons_succ]) | (refine mx_no0 rfl ?_; simp only [Act.put, List.setIfInBounds_toArray, List.set_cons_zero, List.set_cons_succ]) | (refine mx_no1 Ext.grows rfl ?_; simp only [Act.put, List.setIfInBounds_toArray, List.set_cons_zero, List.set_cons_succ]))
          refine mx_call (f := ?_) (args := ?_) rfl ?_ ?_
          rotate_left 2
          focus (go_simp <;> (refine ⟨?_, ?_⟩ <;> with_reducible rfl))
          have hI := Check_c (HFR.out _ (HF13.out.trans Ew14.out)) false p5 (H5.out.1.ext Ew14.out) H5.out.2.2.1 (by rw [H5.out.2.1]; exact HD.out.2.2.2.1.1) (by rw [H5.out.2.1]; exact HD.out.2.2.2.1.2.1) (by rw [H5.out.2.2.2.1]; omega) (bigN_gt' (by have := H5.out.2.2.2.2; omega))
          with_reducible refine hI.mono ?_
          clear hI
          rintro e w15 ⟨rfl, hw15⟩
          refine ⟨_, rfl, hw15, ?_⟩
          simp only [Act.put, List.setIfInBounds_toArray, List.set_cons_zero, List.set_cons_succ]
          have Ew15 := Lib.hid (Ew14.out.trans hw15)
          have tew15 := fun W (h : Ext w15 W) => Ew15.out.trans h
          clear tew14
          repeat (first | (refine mx_pu (v := ?_) rfl (fun W => ?_) ?_; rotate_left; (focus (go_simp <;> with_reducible rfl)); simp only [Act.put, List.setIfInBounds_toArray, List.set_cons_zero, List.set_cons_succ]) | (refine mx_no3 rfl ?_; simp only [Act.put, List.setIfInBounds_toArray, List.set_cons_zero, List.set_cons_succ]) | (refine mx_st (v := ?_) rfl (fun W hW => ?_) ?_; rotate_left; (focus (go_simp <;> with_reducible rfl)); simp only [Act.put, List.setIfInBounds_toArray, List.set_cons_zero, List.set_cons_succ]) | (refine mx_no0 rfl ?_; simp only [Act.put, List.setIfInBounds_toArray, List.set_cons_zero, List.set_cons_succ]) | (refine mx_no1 Ext.grows rfl ?_; simp only [Act.put, List.setIfInBounds_toArray, List.set_cons_zero, List.set_cons_succ]))
          refine mx_call (f := ?_) (args := ?_) rfl ?_ ?_
          rotate_left 2
          focus (go_simp <;> (refine ⟨?_, ?_⟩ <;> with_reducible rfl))
          have hI := Height_c (d := false) (H5.out.1.ext Ew15.out)
          with_reducible refine hI.mono ?_
          clear hI
          rintro e w16 ⟨rfl, hw16⟩
          refine ⟨_, rfl, hw16, ?_⟩
          simp only [Act.put, List.setIfInBounds_toArray, List.set_cons_zero, List.set_cons_succ]
          have Ew16 := Lib.hid (Ew15.out.trans hw16)
          have tew16 := fun W (h : Ext w16 W) => Ew16.out.trans h
          clear tew15
          repeat (first | (refine mx_pu (v := ?_) rfl (fun W => ?_) ?_; rotate_left; (focus (go_simp <;> with_reducible rfl)); simp only [Act.put, List.setIfInBounds_toArray, List.set_cons_zero, List.set_cons_succ]) | (refine mx_no3 rfl ?_; simp only [Act.put, List.setIfInBounds_toArray, List.set_cons_zero, List.set_cons_succ]) | (refine mx_st (v := ?_) rfl (fun W hW => ?_) ?_; rotate_left; (focus (go_simp <;> with_reducible rfl)); simp only [Act.put, List.setIfInBounds_toArray, List.set_cons_zero, List.set_cons_succ]) | (refine mx_no0 rfl ?_; simp only [Act.put, List.setIfInBounds_toArray, List.set_cons_zero, List.set_cons_succ]) | (refine mx_no1 Ext.grows rfl ?_; simp only [Act.put, List.setIfInBounds_toArray, List.set_cons_zero, List.set_cons_succ]))
          refine mx_call (f := ?_) (args := ?_) rfl ?_ ?_
          rotate_left 2
          focus (go_simp <;> (refine ⟨?_, ?_⟩ <;> with_reducible rfl))
          have hI := Len_c (d := false) (H5.out.1.ext Ew16.out)
          rw [H5.out.2.2.2.1] at hI
          with_reducible refine hI.mono ?_
          clear hI
          rintro e w17 ⟨rfl, hw17⟩
          refine ⟨_, rfl, hw17, ?_⟩
          simp only [Act.put, List.setIfInBounds_toArray, List.set_cons_zero, List.set_cons_succ]
          have Ew17 := Lib.hid (Ew16.out.trans hw17)
          have tew17 := fun W (h : Ext w17 W) => Ew17.out.trans h
          clear tew16
          repeat (first | (refine mx_pu (v := ?_) rfl (fun W => ?_) ?_; rotate_left; (focus (go_simp <;> with_reducible rfl)); simp only [Act.put, List.setIfInBounds_toArray, List.set_cons_zero, List.set_cons_succ]) | (refine mx_no3 rfl ?_; simp only [Act.put, List.setIfInBounds_toArray, List.set_cons_zero, List.set_cons_succ]) | (refine mx_st (v := ?_) rfl (fun W hW => ?_) ?_; rotate_left; (focus (go_simp <;> with_reducible rfl)); simp only [Act.put, List.setIfInBounds_toArray, List.set_cons_zero, List.set_cons_succ]) | (refine mx_no0 rfl ?_; simp only [Act.put, List.setIfInBounds_toArray, List.set_cons_zero, List.set_cons_succ]) | (refine mx_no1 Ext.grows rfl ?_; simp only [Act.put, List.setIfInBounds_toArray, List.set_cons_zero, List.set_cons_succ]))
          refine mx_call (f := ?_) (args := ?_) rfl ?_ ?_
          rotate_left 2
          focus (go_simp <;> (refine ⟨?_, ?_⟩ <;> with_reducible rfl))
          have hI := rHeight_c (w := w17) (k - (j + 1)) (by omega)
          with_reducible refine hI.mono ?_
          clear hI
          rintro e w18 ⟨H, rfl, hH, -, rfl⟩
          have hhe := height_le H5.out.2.2.1 (H := H) (by rw [H5.out.2.2.2.1]; exact hH)
          have b1 : decide (H < ht t5) = false := by simp; omega
          refine ⟨_, rfl, Ext.refl _, ?_⟩
          simp only [Act.put, List.setIfInBounds_toArray, List.set_cons_zero, List.set_cons_succ]
          repeat (first | (refine mx_pu (v := ?_) rfl (fun W => ?_) ?_; rotate_left; (focus (go_simp <;> with_reducible rfl)); simp only [Act.put, List.setIfInBounds_toArray, List.set_cons_zero, List.set_cons_succ]) | (refine mx_no3 rfl ?_; simp only [Act.put, List.setIfInBounds_toArray, List.set_cons_zero, List.set_cons_succ]) | (refine mx_st (v := ?_) rfl (fun W hW => ?_) ?_; rotate_left; (focus (go_simp <;> with_reducible rfl)); simp only [Act.put, List.setIfInBounds_toArray, List.set_cons_zero, List.set_cons_succ]) | (refine mx_no0 rfl ?_; simp only [Act.put, List.setIfInBounds_toArray, List.set_cons_zero, List.set_cons_succ]) | (refine mx_no1 Ext.grows rfl ?_; simp only [Act.put, List.setIfInBounds_toArray, List.set_cons_zero, List.set_cons_succ]))
          refine mx_call (f := ?_) (args := ?_) rfl ?_ ?_
          rotate_left 2
          focus (go_simp <;> (refine ⟨?_, ?_⟩ <;> with_reducible rfl))
          have hI := Len_c (d := false) (H5.out.1.ext Ew17.out)
          rw [H5.out.2.2.2.1, show ((k - (j + 1) : Nat) : Int) = (k : Int) - (j : Int) - 1 by omega] at hI
          with_reducible refine hI.mono ?_
          clear hI
          rintro e w19 ⟨rfl, hw19⟩
          refine ⟨_, rfl, hw19, ?_⟩
          simp only [Act.put, List.setIfInBounds_toArray, List.set_cons_zero, List.set_cons_succ]
          have Ew19 := Lib.hid (Ew17.out.trans hw19)
          have tew19 := fun W (h : Ext w19 W) => Ew19.out.trans h
          clear tew17
          repeat (first | (refine mx_pu (v := ?_) rfl (fun W => ?_) ?_; rotate_left; (focus (go_simp <;> with_reducible rfl)); simp only [Act.put, List.setIfInBounds_toArray, List.set_cons_zero, List.set_cons_succ]) | (refine mx_no3 rfl ?_; simp only [Act.put, List.setIfInBounds_toArray, List.set_cons_zero, List.set_cons_succ]) | (refine mx_st (v := ?_) rfl (fun W hW => ?_) ?_; rotate_left; (focus (go_simp <;> with_reducible rfl)); simp only [Act.put, List.setIfInBounds_toArray, List.set_cons_zero, List.set_cons_succ]) | (refine mx_no0 rfl ?_; simp only [Act.put, List.setIfInBounds_toArray, List.set_cons_zero, List.set_cons_succ]) | (refine mx_no1 Ext.grows rfl ?_; simp only [Act.put, List.setIfInBounds_toArray, List.set_cons_zero, List.set_cons_succ]))
          refine mx_nil ?_
          have g19 := Ew19.out
          have e19 := HF13.out.trans g19
          clear b1 hH hhe s1 s2 tew19
          have r0 := HL.out.1.2.1.freeF 0
          have r1 := HL.out.1.2.1.freeF 1
          go_wp2_with fail
          have hkk := (HL.out.1.2.1.ext e19).set2 (a := .bool false) (b := .pointer p5)
          have hbt := ExtBut.set2 w19 g (.bool false) (.pointer p5)
          generalize (World.setCell w19 ⟨g, 0, none⟩ (.bool false)).setCell ⟨g, 1, none⟩ (.pointer p5) = w20 at hkk hbt ⊢
          have hN : GrowRel w g r p5 t5 w20 ∧ PlayOK false k r ∧ r.length = k - (j + 1) := ⟨⟨hbt.ext (HL.out.1.1.trans e19) (fun b h => by omega), hkk, (H5.out.1.ext g19).but (fun b h => h) hbt, H5.out.2.2.1, H5.out.2.1⟩, HD.out.2.2.2.1, HD.out.2.2.1⟩
          have HN := Lib.hid hN
          clear hN hkk hbt r0 r1 z0 z1
          go_roundw
          case rel => exact ⟨j + 1, p5, t5, r, by omega, by go_num, HN⟩
          case measure => simp [intOf]; omega
        · have hjb : decide ((j : Int) < (cut : Int) % ((k : Int) + 1)) = false := by rw [HC.out]; exact decide_eq_false (by omega)
          go_wp2_with fail
          with_reducible refine (awake_c (w := wr)).mono ?_
          rintro e w10 ⟨rfl, hw10⟩
          go_wp2_with fail
          go_ret
          exact ⟨rfl, HL.out.1.1.trans hw10⟩
set_option maxRecDepth 100000 in
theorem WtreeGrows_all {H : Type} (enc : TypeId × Value → H) (W : World) (base : Nat) (args : Array Value) (ds gs : List (DataW H)) (before : List MemPlace)
    (hval : ∀ (j : Nat) t v, Try.f7.params[j]? = some t → args[j]? = some v → Value.okWide Try.prog W .any base t v)
    (hW : DataW.Whole enc Try.prog Try.f7.params.toList Rows.wtreeGrowsSpec.vars false W args.toList ds gs before) :
    Calls Try.prog 7 args W fun e W' => ∃ v, e = .returned v ∧ Rows.wtreeGrowsSpec.post enc Try.prog Try.f7 false true false false W args v W' := by
  have hW' := hW
  obtain ⟨p, q, hA0, hV, rfl, hfz, hnd⟩ := hW
  have hA : DataW.TrodAll enc Try.prog W 0 (fun _ => true) true Try.f7.params.toList args.toList ds p := hA0
  rw [Try.params7] at hA hval
  obtain ⟨v0, vs0, d0, ds0, p0, q0, hargs, rfl, rfl, h0, r0⟩ := trodAll_cons hA
  obtain ⟨v1, vs1, d1, ds1, p1, q1, rfl, rfl, rfl, h1, r1⟩ := trodAll_cons r0
  obtain ⟨v2, vs2, d2, ds2, p2, q2, rfl, rfl, rfl, h2, r2⟩ := trodAll_cons r1
  obtain ⟨rfl, rfl, rfl⟩ := trodAll_nil r2
  obtain rfl : args = #[v0, v1, v2] := by cases args; simp_all
  obtain ⟨rfl, rfl⟩ := trodVars_none hV
  obtain ⟨mz, rfl, rfl, rfl, wm⟩ := open_int Try.underlying5 (hval 0 5 v0 rfl rfl) h0
  obtain ⟨cz, rfl, rfl, rfl, wc⟩ := open_int Try.underlying5 (hval 1 5 v1 rfl rfl) h1
  obtain ⟨d, rfl, rfl, rfl⟩ := open_bool Try.underlying4 (hval 2 4 v2 rfl rfl) h2
  have wm' : 0 ≤ mz ∧ mz ≤ 255 := by simpa [Lit.wf, IntKind.min, IntKind.max, IntKind.signed, IntKind.bits] using wm
  have wc' : 0 ≤ cz ∧ cz ≤ 255 := by simpa [Lit.wf, IntKind.min, IntKind.max, IntKind.signed, IntKind.bits] using wc
  obtain ⟨many, rfl⟩ := Int.eq_ofNat_of_zero_le wm'.1
  obtain ⟨cut, rfl⟩ := Int.eq_ofNat_of_zero_le wc'.1
  have hyp : many < 256 ∧ cut < 256 := ⟨by omega, by omega⟩
  have main : Calls Try.prog 7 #[.int .u8 (many : Nat), .int .u8 (cut : Nat), .bool d] W (BoolRes true W) := WtreeGrows_main hyp
  refine main.mono fun e W' ⟨he, hx⟩ => ?_
  subst he
  exact ⟨_, rfl, post_true (bt := 4) laid39 rfl (by kernel_rfl) Try.underlying4 (by kernel_rfl) rfl hW' hx⟩
set_option maxRecDepth 100000 in
theorem WtreeGrows_lifted (os : Os) (started : os.Started) (H : Type) (enc : TypeId × Value → H) :
    ReturnsInHanded {} Try.checked os 7 .any (Rows.wtreeGrowsSpec.pre6 enc Try.prog Try.f7 Rows.wtreeGrowsRow.domain false) (Rows.wtreeGrowsSpec.post enc Try.prog Try.f7 false true false false) := by
  refine returnsInHanded_of_change (C := Try.checked) own39 started (by kernel_rfl) Try.func7
    (ChangeSpec.witness6 (enc := enc) (C := Try.checked) false ⟨#[], #[.int .u8 0, .int .u8 0, .bool false], []⟩ 8 (by kernel_rfl) (by kernel_rfl) (by kernel_rfl) (by kernel_rfl)) ?_
  intro W base args ds gs before hval0 hW hcnd _
  exact WtreeGrows_all enc W base args ds gs before hval0 hW
theorem WtreeGrows_holds : Rows.WtreeGrowsSaid :=
  OpenClaim.holds_of_wide 7 Try.f7 rfl rfl rfl rfl rfl rfl rfl ⟨rfl, rfl, rfl, rfl, rfl⟩ rfl rfl rfl rfl rfl (by kernel_rfl) Try.func7 (by kernel_rfl)
    (of_decide_eq_true (by kernel_rfl)) (by unfold Func.isWrapper; first | (rw [if_pos (by decide +kernel)]; kernel_rfl) | (rw [if_neg (by decide +kernel)]; exact ⟨rfl, rfl⟩))
    (fun os started H enc _ => WtreeGrows_lifted os started H enc)
end Go.Proofs.Ytbbnpicddmplbaa

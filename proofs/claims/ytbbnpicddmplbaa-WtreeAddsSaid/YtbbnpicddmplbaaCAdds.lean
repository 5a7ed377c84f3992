/- WtreeAdds returns true for every input, and its arguments read afterwards as before. No condition. -/
import Derived.Test.YtbbnpicddmplbaaPut
import Derived.Test.YtbbnpicddmplbaaAdP
import Derived.Deep.DeepCutAuto
namespace Go.Proofs.Ytbbnpicddmplbaa
open Go.ChangeShapes Go.WideShapes Go.ChangeAt Go.RowKit
set_option linter.unusedVariables false
set_option linter.unusedSimpArgs false
variable {S : Nat → Prop}



def AddsRel (w : World) (g : Nat) (d : Bool) (m n : List (GV × Nat)) (k : Nat) (p : Option Addr) (t : T) (wr : World) : Prop :=
  Ext w wr ∧ Blk wr g [.bool d, .pointer p] 27 ∧ TreeV (fun b => b ≠ g) wr p t ∧ Avl t ∧ AddL d m n k (lst t)
theorem adds_mid {w w' : World} {t : TypeId} (h : (w.alloc (.cells #[] t)).grownBy w' (Value.slice (some ⟨w.heap.size, 0, none⟩) 0 0).ownBlock) : Ext w w' :=
  ((Below.refl _ _).alloc (Nat.le_refl _) _).grown h (by simp) (by simp [Value.ownBlock])
theorem adds_end {w w1 w2 : World} {t : TypeId} {v1 v2 : Value} {m n : List (GV × Nat)} (h1 : w1.ownsRow w.heap.size t 4 v1 (0 + m.length) ([] ++ m.flatMap itemCells) ∧ (w.alloc (.cells #[] t)).grownBy w1 (Value.slice (some ⟨w.heap.size, 0, none⟩) 0 0).ownBlock)
    (h2 : w2.ownsRow w.heap.size t 4 v2 (0 + m.length + n.length) (([] ++ m.flatMap itemCells) ++ n.flatMap itemCells) ∧ w1.grownBy w2 v1.ownBlock) : Ext w w2 ∧ ItemsV (fun _ => True) w2 v2 (m ++ n) := by
  have e1 := adds_mid h1.2
  refine ⟨Below.grown e1 h2.2 e1.size (fun k hk => (h1.1.lt k hk).1), ?_⟩
  have := h2.1
  rw [Nat.zero_add, List.nil_append, ← List.length_append, ← List.flatMap_append] at this
  exact own_items (fun _ _ => trivial) this
set_option maxHeartbeats 16000000 in
set_option maxRecDepth 100000 in
theorem WtreeAdds_main {w : World} {lv mv : Value} {la lm : List GAct} {d : Bool} (hyp : ActsV w lv la ∧ ActsV w mv lm) : Calls Try.prog 6 #[lv, mv, .bool d] w (BoolRes true w) := by
  obtain ⟨hl, hm⟩ := hyp
  obtain ⟨a, cap, rfl, hrest⟩ := id hl
  obtain ⟨b, cbp, rfl, hrest2⟩ := id hm
  have HL := Lib.hid hl
  have HM := Lib.hid hm
  obtain ⟨i0, hi, hz0, hz1, hz2⟩ := info_parts info_item
  have HI := Lib.hid (And.intro hi (And.intro hz0 (And.intro hz1 hz2)))
  clear hl hm hrest hrest2 hi hz0 hz1 hz2
  go_enter Try.func6, Try.ntmps6
  go_wp2_with fail
  have hI := great_c HL.out
  with_reducible refine hI.mono ?_
  clear hI
  rintro e w1 ⟨rfl, hw1⟩
  cases hg : greatB la
  rotate_left
  · clear hg
    go_wp2_with fail
    with_reducible refine (awake_c (w := w1)).mono ?_
    rintro e w2 ⟨rfl, hw2⟩
    go_wp2_with fail
    go_ret
    exact ⟨rfl, hw1.trans hw2⟩
  have hlen := not_great hg
  clear hg
  go_wp2_with fail
  have hI := great_c (HM.out.ext hw1)
  with_reducible refine hI.mono ?_
  clear hI
  rintro e w2 ⟨rfl, hw2⟩
  have e2 := hw1.trans hw2
  cases hg : greatB lm
  rotate_left
  · clear hg
    go_wp2_with fail
    with_reducible refine (awake_c (w := w2)).mono ?_
    rintro e w3 ⟨rfl, hw3⟩
    go_wp2_with fail
    go_ret
    exact ⟨rfl, e2.trans hw3⟩
  have hlenm := not_great hg
  clear hg
  go_wp2_with fail
  have hI := played_c (S := fun _ => True) (Fresh.all w2) d (HL.out.ext e2) hlen
  with_reducible refine hI.mono ?_
  clear hI
  generalize playL d la = m
  rintro e w3 ⟨p, t, ma, mc, rfl, hw3, h1, h2, h3, h4, h5⟩
  have hS : Same (fun _ => True) d la.length m p t (.slice ma m.length mc) w3 := ⟨h1, h2, h3, h4, h5⟩
  clear h1 h2 h3 h4 h5
  have hf := hS.facts (by omega)
  have e4 := Ext.alloc w3 (.cells #[.bool d, .pointer p] 27)
  have hb4 := Blk.new w3 [.bool d, .pointer p] 27
  have HS := Lib.hid (And.intro (hS.ext e4) (And.intro hf ((e2.trans hw3).trans e4)))
  clear hS hf
  go_wp2_with fail
  generalize w3.alloc (.cells #[.bool d, .pointer p] 27) = w4 at e4 hb4 HS ⊢
  have hI := played_c (S := fun _ => True) (Fresh.all w4) d (HM.out.ext HS.out.2.2) hlenm
  with_reducible refine hI.mono ?_
  clear hI
  generalize playL d lm = n
  rintro e w5 ⟨pu, tu, na, nc, rfl, hw5, h1, h2, h3, h4, h5⟩
  have hU : Same (fun _ => True) d lm.length n pu tu (.slice na n.length nc) w5 := ⟨h1, h2, h3, h4, h5⟩
  clear h1 h2 h3 h4 h5
  have hfu := hU.facts (by omega)
  have hb6 := Blk.new w5 [.bool d, .pointer pu] 27
  have hb46 := (hb4.ext hw5).ext (Ext.alloc w5 (.cells #[.bool d, .pointer pu] 27))
  have c0 := hb46.cell 0
  have c1 := hb46.cell 1
  go_wp2_with fail
  clear c0 c1 hb46 hb6
  have hb10 := Blk.new w5 [.bool d, .pointer pu] 27
  have e57 := Ext.alloc w5 (.cells #[.bool d, .pointer pu] 27)
  have hz6 : (w5.alloc (.cells #[.bool d, .pointer pu] 27)).heap.size = w5.heap.size + 1 := by simp
  generalize w5.alloc (.cells #[.bool d, .pointer pu] 27) = w7 at hb10 e57 hz6 ⊢
  have e78 := Ext.alloc w7 (.cells #[.bool d, .pointer p] 27)
  have hb13 := Blk.new w7 [.bool d, .pointer p] 27
  generalize w7.alloc (.cells #[.bool d, .pointer p] 27) = w8 at e78 hb13 ⊢
  rw [hz6] at hb13
  have hb7 := (hb4.ext hw5).ext e57
  have ew7 := (HS.out.2.2.trans hw5).trans e57
  have hSt := (HS.out.1.ext hw5).ext e57
  have hall : AddsRel w7 (w5.heap.size + 1) d m n 0 p t w8 := ⟨e78, hb13, (((HS.out.1.1.ext hw5).old.mono (fun b h => by have := h.2; omega)).ext e57).ext e78, HS.out.1.2.1, by rw [HS.out.1.2.2.1]; exact HS.out.1.2.2.2.2.1, by rw [HS.out.1.2.2.1]; simp⟩
  have HT := Lib.hid (And.intro hSt (And.intro (hU.ext e57) (And.intro HS.out.2.1 (And.intro hfu ew7))))
  have HA := Lib.hid hall
  obtain ⟨ma', mc', hmv, hmc1, hmc2, hmc3, hmrow⟩ := id HT.out.1.2.2.2.1
  obtain ⟨rfl, rfl⟩ : ma = ma' ∧ mc = mc' := by cases hmv; exact ⟨rfl, rfl⟩
  obtain ⟨na', nc', hnv, hnc1, hnc2, hnc3, hnrow⟩ := id HT.out.2.1.2.2.2.1
  obtain ⟨rfl, rfl⟩ : na = na' ∧ nc = nc' := by cases hnv; exact ⟨rfl, rfl⟩
  have HW := Lib.hid (And.intro hmrow (And.intro hnrow (And.intro hmc3 hnc3)))
  have hm1000 := HT.out.2.2.1.2.2.1
  have hn1000 := HT.out.2.2.2.1.2.2.1
  have hml : m.length ≤ 150 := by have := HT.out.1.2.2.2.2.2.2.1; omega
  have hnl : n.length ≤ 150 := by have := HT.out.2.1.2.2.2.2.2.2.1; omega
  obtain ⟨q0, q1⟩ := boxT hb7
  obtain ⟨r0, r1⟩ := boxT hb10
  have hlt13 := hb13.lt
  have HB : Hid (tot t < bigN ∧ sz t ≤ 1000 ∧ tot tu < bigN ∧ sz tu ≤ 1000) := by
    rw [Hid, HT.out.2.2.1.2.1, HT.out.2.2.1.1, HT.out.2.2.2.1.2.1, HT.out.2.2.2.1.1]
    exact ⟨bigN_gt' (by have := HT.out.2.2.1.2.2.2; omega), hm1000, bigN_gt' (by have := HT.out.2.2.2.1.2.2.2; omega), hn1000⟩
  have hgz : w7.heap.size ≤ w5.heap.size + 1 := by omega
  clear hz6 e78 hSt hall hU hfu e57 hb13 hb10 hb7 hb4 e4 hw5 ew7 e2 hw1 hw2 hw3 HS hmv hmc3 hmrow hnv hnc3 hnrow
  generalize w5.heap.size + 1 = g at *
  have HG0 := Lib.hid hlt13
  go_loopw [14] (fun i wr => ∃ (k : Nat) (pa : Option Addr) (ta : T), k ≤ n.length ∧ i = .int .i64 k ∧ Hid (AddsRel w7 g d m n k pa ta wr)) (fun i _ => n.length - (intOf i).toNat)
  case atStart => exact ⟨0, p, t, Nat.zero_le _, rfl, HA⟩
  case round =>
    obtain ⟨k, pa, ta, hk, rfl, HQ⟩ := hrel
    clear HA
    have eq := HQ.out.1
    have hok := HQ.out.2.2.2.2.ok HT.out.1.2.2.2.2 HT.out.2.1.2.2.2.2
    have hsz : sz ta ≤ 1000 := by rw [← sz_lst]; have := hok.2.2.1; omega
    have hto : tot ta ≤ 4294967296000 := by rw [← tot_lst]; exact hok.sum (by omega)
    have HK := Lib.hid (And.intro hok (And.intro hsz hto))
    clear hok hsz hto
    obtain ⟨z0, z1⟩ := boxT HQ.out.2.1
    have hgr := HQ.out.2.1.lt
    by_cases hkl : k < n.length
    · have hx : n[k]? = some n[k] := List.getElem?_eq_getElem hkl
      obtain ⟨b1, o1, hbb, y0, y1, y2, y3⟩ := row_item HW.out.2.1 hx
      have hgd := HT.out.2.1.2.2.2.2.2.1 n[k] (List.getElem_mem _)
      have hwt := HT.out.2.1.2.2.2.2.2.2.2 n[k] (List.getElem_mem _)
      cases hbb
      generalize n[k] = x at *
      obtain ⟨⟨xk, xn, xs⟩, xw⟩ := x
      simp only at hgd hwt
      have HX0 := Lib.hid hx
      clear hx
      have Ewr := Lib.hid eq
      go_wp2_with fail
      refine wp_region_mixE 13 [(0, 0), (1, 3), (2, 3), (3, 3), (4, 3), (5, 0), (6, 1), (7, 3), (8, 3), (9, 3), (10, 3), (11, 3)] (by kernel_rfl) (fun _ _ d _ _ h => by cases d <;> exact h) ?_
      intro w11 hw11
      simp only [List.map_cons, List.map_nil, mixPick_lt _ _ 0 rfl, mixPick_lt _ _ 1 rfl, mixPick_lt _ _ 2 rfl, mixPick_lt _ _ 3 rfl, mixPick_fork, List.getD_cons_zero, List.getD_cons_succ]
      generalize yielded _ = y
      have Ew11 := Lib.hid (Ewr.out.trans hw11)
      have tew11 := fun W (h : Ext w11 W) => Ew11.out.trans h
      repeat (first | (refine mx_pu (v := ?_) rfl (fun W => ?_) ?_; rotate_left; (focus (go_simp <;> with_reducible rfl)); simp only [Act.put, List.setIfInBounds_toArray, List.set_cons_zero, List.set_cons_succ]) | (refine mx_st (v := ?_) rfl (fun W hW => ?_) ?_; rotate_left; (focus (go_simp <;> with_reducible rfl)); simp only [Act.put, List.setIfInBounds_toArray, List.set_cons_zero, List.set_cons_succ]))
      refine mx_call (f := ?_) (args := ?_) rfl ?_ ?_
      rotate_left 2
      focus (go_simp <;> (refine ⟨?_, ?_⟩ <;> with_reducible rfl))
      have hI := Get_c (Fresh.all w11) d p ⟨xk, xn, xs⟩ (HT.out.1.1.ext Ew11.out) (by rw [HT.out.1.2.2.1]; exact HT.out.1.2.2.2.2.1) (by have := HB.out.2.1; omega) HB.out.1
      rw [HT.out.1.2.2.1] at hI
      with_reducible refine hI.mono ?_
      clear hI
      generalize hlk : lookL d ⟨xk, xn, xs⟩ m = lk
      rintro e w12 ⟨hw12, ⟨rfl, rfl⟩ | ⟨n', wv, rfl, rfl, -⟩⟩
      rotate_left
      · refine ⟨_, rfl, hw12, ?_⟩
        simp only [Act.put, List.setIfInBounds_toArray, List.set_cons_zero, List.set_cons_succ]
        repeat (first | (refine mx_pu (v := ?_) rfl (fun W => ?_) ?_; rotate_left; (focus (go_simp <;> with_reducible rfl)); simp only [Act.put, List.setIfInBounds_toArray, List.set_cons_zero, List.set_cons_succ]) | (refine mx_st (v := ?_) rfl (fun W hW => ?_) ?_; rotate_left; (focus (go_simp <;> with_reducible rfl)); simp only [Act.put, List.setIfInBounds_toArray, List.set_cons_zero, List.set_cons_succ]))
        refine mx_nil ?_
        clear tew11
        go_wp2_with fail
        with_reducible refine (awake_c (w := w12)).mono ?_
        rintro e w13 ⟨rfl, hw13⟩
        go_wp2_with fail
        go_ret
        exact ⟨rfl, ((HT.out.2.2.2.2.trans Ew11.out).trans hw12).trans hw13⟩
      refine ⟨_, rfl, hw12, ?_⟩
      have HLK := Lib.hid hlk
      clear hlk
      simp only [Act.put, List.setIfInBounds_toArray, List.set_cons_zero, List.set_cons_succ]
      repeat (first | (refine mx_pu (v := ?_) rfl (fun W => ?_) ?_; rotate_left; (focus (go_simp <;> with_reducible rfl)); simp only [Act.put, List.setIfInBounds_toArray, List.set_cons_zero, List.set_cons_succ]) | (refine mx_st (v := ?_) rfl (fun W hW => ?_) ?_; rotate_left; (focus (go_simp <;> with_reducible rfl)); simp only [Act.put, List.setIfInBounds_toArray, List.set_cons_zero, List.set_cons_succ]))
      refine mx_nil ?_
      have e12 := Ew11.out.trans hw12
      have f12 := hw11.trans hw12
      clear tew11
      go_upto_region 14 with fail
      have PP : Hid (PutPre (fun b => b ≠ g) d pa ta ⟨xk, xn, xs⟩ xw w12) := ⟨HQ.out.2.2.1.ext f12, HQ.out.2.2.2.1, HQ.out.2.2.2.2.1, by have := HK.out.2.1; omega, by have := HK.out.2.2; omega, hgd.1, hgd.2, by omega, Fresh.ne (by have := f12.size; omega)⟩
      have y0' : ∀ W, Ext w12 W → W.cell? ⟨b1, o1 + k * 4, none⟩ = some (.int .i64 xk) := fun W h => y0 W (e12.trans h)
      have y1' : ∀ W, Ext w12 W → W.cell? ⟨b1, o1 + k * 4 + 1, none⟩ = some (.int .i64 xn) := fun W h => y1 W (e12.trans h)
      have y2' : ∀ W, Ext w12 W → W.cell? ⟨b1, o1 + k * 4 + 2, none⟩ = some (.string xs) := fun W h => y2 W (e12.trans h)
      have y3' : ∀ W, Ext w12 W → W.cell? ⟨b1, o1 + k * 4 + 3, none⟩ = some (.int .u64 (xw : Nat)) := fun W h => y3 W (e12.trans h)
      have z0' : ∀ W, Ext w12 W → W.cell? ⟨g, 0, none⟩ = some (.bool d) := fun W h => z0 W (f12.trans h)
      have z1' : ∀ W, Ext w12 W → W.cell? ⟨g, 1, none⟩ = some (.pointer pa) := fun W h => z1 W (f12.trans h)
      clear y0 y1 y2 y3 z0 z1
      generalize hSB : (fun b => b ≠ g) = SB at PP
      have HSB := Lib.hid hSB
      clear hSB
      go_cut [17, 18] (fun s11 s12 wx => ∃ (gx : Nat) (p5 : Option Addr) (t5 : T), s11 = .pointer (some ⟨gx, 0, none⟩) ∧ s12 = .int .i64 0 ∧ Hid (PutPost SB d ta ⟨xk, xn, xs⟩ xw w12 gx p5 t5 wx))
      case first =>
        obtain ⟨wb, rfl⟩ : ∃ wb : World, wb = w12 := ⟨_, rfl⟩
        obtain ⟨pp, rfl⟩ : ∃ pp : Option Addr, pp = pa := ⟨_, rfl⟩
        obtain ⟨tt, rfl⟩ : ∃ tt : T, tt = ta := ⟨_, rfl⟩
        have Ewb := Lib.hid (Ext.refl wb)
        refine wp_region_mixE 37 [(0, 0), (1, 3), (2, 3), (3, 3), (4, 3), (5, 0), (6, 3), (7, 3), (8, 3), (9, 3), (10, 0), (16, 4), (11, 1), (7, 4), (12, 1), (13, 3), (14, 3), (15, 3), (16, 1), (17, 2), (18, 3), (16, 1), (12, 1), (13, 3), (14, 3), (15, 3), (17, 2), (18, 3), (16, 1), (11, 1), (12, 1), (13, 3), (14, 3), (15, 3), (17, 2), (18, 3)] (by kernel_rfl) (fun _ _ d _ _ h => by cases d <;> exact h) ?_
        intro w6 hw6
        simp only [List.map_cons, List.map_nil, mixPick_lt _ _ 0 rfl, mixPick_lt _ _ 1 rfl, mixPick_lt _ _ 2 rfl, mixPick_lt _ _ 3 rfl, mixPick_fork, List.getD_cons_zero, List.getD_cons_succ]
        generalize yielded _ = y
        have Ew6 := Lib.hid (Ewb.out.trans hw6)
        have tew6 := fun W (h : Ext w6 W) => Ew6.out.trans h
        have hz6 := hw6.size
        repeat (first | (refine mx_pu (v := ?_) rfl (fun W => ?_) ?_; rotate_left; (focus (go_simp <;> with_reducible rfl)); simp only [Act.put, List.setIfInBounds_toArray, List.set_cons_zero, List.set_cons_succ]) | (refine mx_st (v := ?_) rfl (fun W hW => ?_) ?_; rotate_left; (focus (go_simp <;> with_reducible rfl)); simp only [Act.put, List.setIfInBounds_toArray, List.set_cons_zero, List.set_cons_succ]))
        refine mx_two ?_ ?_
        · simp only [List.take_succ_cons, List.take_zero]
          refine mx_call (f := ?_) (args := ?_) rfl ?_ ?_
          rotate_left 2
          focus (go_simp <;> (refine ⟨?_, ?_⟩ <;> with_reducible rfl))
          have hI := of_nat' (S := SB) (w := w6) (PP.out.2.2.2.2.2.2.2.2.ext Ew6.out) ((xw : Nat)) (xw) rfl (by omega)
          with_reducible refine hI.mono ?_
          clear hI
          rintro e' w7 ⟨v4, rfl, hw7, l4, d4, n4, e4⟩
          obtain ⟨a4, c4, rfl, -⟩ := id d4
          refine ⟨_, rfl, hw7, ?_⟩
          simp only [Act.put, List.setIfInBounds_toArray, List.set_cons_zero, List.set_cons_succ]
          have Ew7 := Lib.hid (Ew6.out.trans hw7)
          have tew7 := fun W (h : Ext w7 W) => Ew7.out.trans h
          clear tew6
          have hz7 := hw7.size
          have D4 := Lib.hid (And.intro d4 (And.intro n4 e4))
          clear d4 n4 e4
          repeat (first | (refine mx_pu (v := ?_) rfl (fun W => ?_) ?_; rotate_left; (focus (go_simp <;> with_reducible rfl)); simp only [Act.put, List.setIfInBounds_toArray, List.set_cons_zero, List.set_cons_succ]) | (refine mx_st (v := ?_) rfl (fun W hW => ?_) ?_; rotate_left; (focus (go_simp <;> with_reducible rfl)); simp only [Act.put, List.setIfInBounds_toArray, List.set_cons_zero, List.set_cons_succ]))
          refine mx_two ?_ ?_
          · simp only [List.take_succ_cons, List.take_zero]
            refine mx_call (f := ?_) (args := ?_) rfl ?_ ?_
            rotate_left 2
            focus (go_simp <;> (refine ⟨?_, ?_⟩ <;> with_reducible rfl))
            have hI := Put_ok (S := SB) (w := w7) (PP.out.2.2.2.2.2.2.2.2.ext Ew7.out) d pp ⟨xk, xn, xs⟩ (.slice a4 l4.length c4) (t := tt) ((PP.out.1.old.mono (S' := SB) (fun b h => h.1)).ext Ew7.out) PP.out.2.1 PP.out.2.2.1 (by have := PP.out.2.2.2.1; omega) (by rw [D4.out.2.2]; exact bigN_gt' (by have := PP.out.2.2.2.2.1; have := PP.out.2.2.2.2.2.2.2.1; omega)) (D4.out.1) (by have := bigK_le (D4.out.2.1.length_of_lt (by rw [D4.out.2.2]; exact bigN_gt' (by have := PP.out.2.2.2.2.2.2.2.1; omega))); omega) PP.out.2.2.2.2.2.1 (by rw [D4.out.2.2]; exact PP.out.2.2.2.2.2.2.1)
            rw [D4.out.2.2] at hI
            with_reducible refine hI.mono ?_
            clear hI
            rintro e' w8 ⟨p5, t5, rfl, hw8, ht5, hl5, ha5⟩
            refine ⟨_, rfl, hw8, ?_⟩
            have H5 := Lib.hid (And.intro ht5 (And.intro hl5 ha5))
            clear ht5 hl5 ha5
            simp only [Act.put, List.setIfInBounds_toArray, List.set_cons_zero, List.set_cons_succ]
            have Ew8 := Lib.hid (Ew7.out.trans hw8)
            have tew8 := fun W (h : Ext w8 W) => Ew8.out.trans h
            clear tew7
            have hz8 := hw8.size
            repeat (first | (refine mx_pu (v := ?_) rfl (fun W => ?_) ?_; rotate_left; (focus (go_simp <;> with_reducible rfl)); simp only [Act.put, List.setIfInBounds_toArray, List.set_cons_zero, List.set_cons_succ]) | (refine mx_st (v := ?_) rfl (fun W hW => ?_) ?_; rotate_left; (focus (go_simp <;> with_reducible rfl)); simp only [Act.put, List.setIfInBounds_toArray, List.set_cons_zero, List.set_cons_succ]))
            refine mx_al (v := ?_) (cs := ?_) (t := ?_) rfl ?_ (fun _ h => h) ?_
            rotate_left 3
            focus (go_simp <;> (first | with_reducible rfl | (refine ⟨?_, ?_⟩ <;> with_reducible rfl)))
            intro w9 hw9 hb0
            simp only [Act.put, List.setIfInBounds_toArray, List.set_cons_zero, List.set_cons_succ]
            have Ew9 := Lib.hid (Ew8.out.trans hw9)
            have tew9 := fun W (h : Ext w9 W) => Ew9.out.trans h
            clear tew8
            have hbl : Blk w9 w8.heap.size [.bool false, .pointer none] 27 := hb0
            clear hb0
            have hgb : w8.heap.size < w9.heap.size := hbl.lt
            have hgl : wb.heap.size ≤ w8.heap.size := Ew8.out.size
            generalize hgbe : w8.heap.size = gx at *
            have HGB := Lib.hid hgbe
            clear hgbe
            repeat (first | (refine mx_pu (v := ?_) rfl (fun W => ?_) ?_; rotate_left; (focus (go_simp <;> with_reducible rfl)); simp only [Act.put, List.setIfInBounds_toArray, List.set_cons_zero, List.set_cons_succ]) | (refine mx_st (v := ?_) rfl (fun W hW => ?_) ?_; rotate_left; (focus (go_simp <;> with_reducible rfl)); simp only [Act.put, List.setIfInBounds_toArray, List.set_cons_zero, List.set_cons_succ]))
            have HBL := Lib.hid hbl
            have r0 := hbl.freeF 0
            have r1 := hbl.freeF 1
            obtain ⟨z0, z1⟩ := boxT hbl
            have er9 := Ext.refl w9
            clear hbl
            refine mx_ts (w' := ?_) rfl ?_ ?_
            rotate_left
            focus (go_simp <;> with_reducible rfl)
            have hk := HBL.out.set2 (a := .bool d) (b := .pointer p5)
            have hbt := ExtBut.set2 w9 gx (.bool d) (.pointer p5)
            generalize (World.setCell w9 ⟨gx, 0, none⟩ (.bool d)).setCell ⟨gx, 1, none⟩ (.pointer p5) = w10 at hk hbt ⊢
            have HX : Hid (PutPost SB d tt ⟨xk, xn, xs⟩ (xw) wb gx p5 t5 w10) := ⟨hbt.ext Ew9.out (fun b h => by subst h; exact hgl), hk, (((H5.out.1.old.mono (S' := fun b => SB b ∧ b ≠ gx) (fun b h => ⟨h.1, by have := h.2; have := HGB.out; omega⟩)).ext hw9).but (fun b h => h.2) hbt).mono (fun b h => h.1), H5.out.2.2, H5.out.2.1, hgl⟩
            clear hk hbt r0 r1 z0 z1 er9
            simp only [Act.put, List.setIfInBounds_toArray, List.set_cons_zero, List.set_cons_succ]
            repeat (first | (refine mx_pu (v := ?_) rfl (fun W => ?_) ?_; rotate_left; (focus (go_simp <;> with_reducible rfl)); simp only [Act.put, List.setIfInBounds_toArray, List.set_cons_zero, List.set_cons_succ]) | (refine mx_st (v := ?_) rfl (fun W hW => ?_) ?_; rotate_left; (focus (go_simp <;> with_reducible rfl)); simp only [Act.put, List.setIfInBounds_toArray, List.set_cons_zero, List.set_cons_succ]))
            refine mx_nil ?_
            go_wp2_with fail
            go_meet
            exact ⟨gx, p5, t5, rfl, rfl, HX⟩
          · simp only [List.drop_succ_cons, List.drop_zero]
            refine mx_al (v := ?_) (cs := ?_) (t := ?_) rfl ?_ (fun _ h => h) ?_
            rotate_left 3
            focus (go_simp <;> (first | with_reducible rfl | (refine ⟨?_, ?_⟩ <;> with_reducible rfl)))
            intro w8 hw8 hb0
            simp only [Act.put, List.setIfInBounds_toArray, List.set_cons_zero, List.set_cons_succ]
            have Ew8 := Lib.hid (Ew7.out.trans hw8)
            have tew8 := fun W (h : Ext w8 W) => Ew8.out.trans h
            clear tew7
            have hbl : Blk w8 w7.heap.size [.bool false, .pointer none] 27 := hb0
            clear hb0
            have hgb : w7.heap.size < w8.heap.size := hbl.lt
            have hgl : wb.heap.size ≤ w7.heap.size := Ew7.out.size
            generalize hgbe : w7.heap.size = gx at *
            have HGB := Lib.hid hgbe
            clear hgbe
            repeat (first | (refine mx_pu (v := ?_) rfl (fun W => ?_) ?_; rotate_left; (focus (go_simp <;> with_reducible rfl)); simp only [Act.put, List.setIfInBounds_toArray, List.set_cons_zero, List.set_cons_succ]) | (refine mx_st (v := ?_) rfl (fun W hW => ?_) ?_; rotate_left; (focus (go_simp <;> with_reducible rfl)); simp only [Act.put, List.setIfInBounds_toArray, List.set_cons_zero, List.set_cons_succ]))
            refine mx_call (f := ?_) (args := ?_) rfl ?_ ?_
            rotate_left 2
            focus (go_simp <;> (refine ⟨?_, ?_⟩ <;> with_reducible rfl))
            have hI := Put_ok (S := fun b => SB b ∧ b ≠ gx) (w := w8) (fun b hb => ⟨PP.out.2.2.2.2.2.2.2.2.ext Ew8.out b hb, by omega⟩) d pp ⟨xk, xn, xs⟩ (.slice a4 l4.length c4) (t := tt) ((PP.out.1.old.mono (S' := fun b => SB b ∧ b ≠ gx) (fun b h => ⟨h.1, by have := h.2; omega⟩)).ext Ew8.out) PP.out.2.1 PP.out.2.2.1 (by have := PP.out.2.2.2.1; omega) (by rw [D4.out.2.2]; exact bigN_gt' (by have := PP.out.2.2.2.2.1; have := PP.out.2.2.2.2.2.2.2.1; omega)) ((D4.out.1.old.mono (fun b h => ⟨h.1, by have := h.2; have := HGB.out; omega⟩)).ext hw8) (by have := bigK_le (D4.out.2.1.length_of_lt (by rw [D4.out.2.2]; exact bigN_gt' (by have := PP.out.2.2.2.2.2.2.2.1; omega))); omega) PP.out.2.2.2.2.2.1 (by rw [D4.out.2.2]; exact PP.out.2.2.2.2.2.2.1)
            rw [D4.out.2.2] at hI
            with_reducible refine hI.mono ?_
            clear hI
            rintro e' w9 ⟨p5, t5, rfl, hw9, ht5, hl5, ha5⟩
            refine ⟨_, rfl, hw9, ?_⟩
            have H5 := Lib.hid (And.intro ht5 (And.intro hl5 ha5))
            clear ht5 hl5 ha5
            simp only [Act.put, List.setIfInBounds_toArray, List.set_cons_zero, List.set_cons_succ]
            have Ew9 := Lib.hid (Ew8.out.trans hw9)
            have tew9 := fun W (h : Ext w9 W) => Ew9.out.trans h
            clear tew8
            have hz9 := hw9.size
            repeat (first | (refine mx_pu (v := ?_) rfl (fun W => ?_) ?_; rotate_left; (focus (go_simp <;> with_reducible rfl)); simp only [Act.put, List.setIfInBounds_toArray, List.set_cons_zero, List.set_cons_succ]) | (refine mx_st (v := ?_) rfl (fun W hW => ?_) ?_; rotate_left; (focus (go_simp <;> with_reducible rfl)); simp only [Act.put, List.setIfInBounds_toArray, List.set_cons_zero, List.set_cons_succ]))
            have hbl := hbl.ext hw9
            have HBL := Lib.hid hbl
            have r0 := hbl.freeF 0
            have r1 := hbl.freeF 1
            obtain ⟨z0, z1⟩ := boxT hbl
            have er9 := Ext.refl w9
            clear hbl
            refine mx_ts (w' := ?_) rfl ?_ ?_
            rotate_left
            focus (go_simp <;> with_reducible rfl)
            have hk := HBL.out.set2 (a := .bool d) (b := .pointer p5)
            have hbt := ExtBut.set2 w9 gx (.bool d) (.pointer p5)
            generalize (World.setCell w9 ⟨gx, 0, none⟩ (.bool d)).setCell ⟨gx, 1, none⟩ (.pointer p5) = w10 at hk hbt ⊢
            have HX : Hid (PutPost SB d tt ⟨xk, xn, xs⟩ (xw) wb gx p5 t5 w10) := ⟨hbt.ext Ew9.out (fun b h => by subst h; exact hgl), hk, ((H5.out.1).but (fun b h => h.2) hbt).mono (fun b h => h.1), H5.out.2.2, H5.out.2.1, hgl⟩
            clear hk hbt r0 r1 z0 z1 er9
            simp only [Act.put, List.setIfInBounds_toArray, List.set_cons_zero, List.set_cons_succ]
            repeat (first | (refine mx_pu (v := ?_) rfl (fun W => ?_) ?_; rotate_left; (focus (go_simp <;> with_reducible rfl)); simp only [Act.put, List.setIfInBounds_toArray, List.set_cons_zero, List.set_cons_succ]) | (refine mx_st (v := ?_) rfl (fun W hW => ?_) ?_; rotate_left; (focus (go_simp <;> with_reducible rfl)); simp only [Act.put, List.setIfInBounds_toArray, List.set_cons_zero, List.set_cons_succ]))
            refine mx_nil ?_
            go_wp2_with fail
            go_meet
            exact ⟨gx, p5, t5, rfl, rfl, HX⟩
        · simp only [List.drop_succ_cons, List.drop_zero]
          refine mx_al (v := ?_) (cs := ?_) (t := ?_) rfl ?_ (fun _ h => h) ?_
          rotate_left 3
          focus (go_simp <;> (first | with_reducible rfl | (refine ⟨?_, ?_⟩ <;> with_reducible rfl)))
          intro w7 hw7 hb0
          simp only [Act.put, List.setIfInBounds_toArray, List.set_cons_zero, List.set_cons_succ]
          have Ew7 := Lib.hid (Ew6.out.trans hw7)
          have tew7 := fun W (h : Ext w7 W) => Ew7.out.trans h
          clear tew6
          have hbl : Blk w7 w6.heap.size [.bool false, .pointer none] 27 := hb0
          clear hb0
          have hgb : w6.heap.size < w7.heap.size := hbl.lt
          have hgl : wb.heap.size ≤ w6.heap.size := Ew6.out.size
          generalize hgbe : w6.heap.size = gx at *
          have HGB := Lib.hid hgbe
          clear hgbe
          repeat (first | (refine mx_pu (v := ?_) rfl (fun W => ?_) ?_; rotate_left; (focus (go_simp <;> with_reducible rfl)); simp only [Act.put, List.setIfInBounds_toArray, List.set_cons_zero, List.set_cons_succ]) | (refine mx_st (v := ?_) rfl (fun W hW => ?_) ?_; rotate_left; (focus (go_simp <;> with_reducible rfl)); simp only [Act.put, List.setIfInBounds_toArray, List.set_cons_zero, List.set_cons_succ]))
          refine mx_call (f := ?_) (args := ?_) rfl ?_ ?_
          rotate_left 2
          focus (go_simp <;> (refine ⟨?_, ?_⟩ <;> with_reducible rfl))
          have hI := of_nat' (S := fun b => SB b ∧ b ≠ gx) (w := w7) (fun b hb => ⟨PP.out.2.2.2.2.2.2.2.2.ext Ew7.out b hb, by omega⟩) ((xw : Nat)) (xw) rfl (by omega)
          with_reducible refine hI.mono ?_
          clear hI
          rintro e' w8 ⟨v4, rfl, hw8, l4, d4, n4, e4⟩
          obtain ⟨a4, c4, rfl, -⟩ := id d4
          refine ⟨_, rfl, hw8, ?_⟩
          simp only [Act.put, List.setIfInBounds_toArray, List.set_cons_zero, List.set_cons_succ]
          have Ew8 := Lib.hid (Ew7.out.trans hw8)
          have tew8 := fun W (h : Ext w8 W) => Ew8.out.trans h
          clear tew7
          have hz8 := hw8.size
          have D4 := Lib.hid (And.intro d4 (And.intro n4 e4))
          clear d4 n4 e4
          repeat (first | (refine mx_pu (v := ?_) rfl (fun W => ?_) ?_; rotate_left; (focus (go_simp <;> with_reducible rfl)); simp only [Act.put, List.setIfInBounds_toArray, List.set_cons_zero, List.set_cons_succ]) | (refine mx_st (v := ?_) rfl (fun W hW => ?_) ?_; rotate_left; (focus (go_simp <;> with_reducible rfl)); simp only [Act.put, List.setIfInBounds_toArray, List.set_cons_zero, List.set_cons_succ]))
          refine mx_call (f := ?_) (args := ?_) rfl ?_ ?_
          rotate_left 2
          focus (go_simp <;> (refine ⟨?_, ?_⟩ <;> with_reducible rfl))
          have hI := Put_ok (S := fun b => SB b ∧ b ≠ gx) (w := w8) (fun b hb => ⟨PP.out.2.2.2.2.2.2.2.2.ext Ew8.out b hb, by omega⟩) d pp ⟨xk, xn, xs⟩ (.slice a4 l4.length c4) (t := tt) ((PP.out.1.old.mono (S' := fun b => SB b ∧ b ≠ gx) (fun b h => ⟨h.1, by have := h.2; omega⟩)).ext Ew8.out) PP.out.2.1 PP.out.2.2.1 (by have := PP.out.2.2.2.1; omega) (by rw [D4.out.2.2]; exact bigN_gt' (by have := PP.out.2.2.2.2.1; have := PP.out.2.2.2.2.2.2.2.1; omega)) (D4.out.1) (by have := bigK_le (D4.out.2.1.length_of_lt (by rw [D4.out.2.2]; exact bigN_gt' (by have := PP.out.2.2.2.2.2.2.2.1; omega))); omega) PP.out.2.2.2.2.2.1 (by rw [D4.out.2.2]; exact PP.out.2.2.2.2.2.2.1)
          rw [D4.out.2.2] at hI
          with_reducible refine hI.mono ?_
          clear hI
          rintro e' w9 ⟨p5, t5, rfl, hw9, ht5, hl5, ha5⟩
          refine ⟨_, rfl, hw9, ?_⟩
          have H5 := Lib.hid (And.intro ht5 (And.intro hl5 ha5))
          clear ht5 hl5 ha5
          simp only [Act.put, List.setIfInBounds_toArray, List.set_cons_zero, List.set_cons_succ]
          have Ew9 := Lib.hid (Ew8.out.trans hw9)
          have tew9 := fun W (h : Ext w9 W) => Ew9.out.trans h
          clear tew8
          have hz9 := hw9.size
          repeat (first | (refine mx_pu (v := ?_) rfl (fun W => ?_) ?_; rotate_left; (focus (go_simp <;> with_reducible rfl)); simp only [Act.put, List.setIfInBounds_toArray, List.set_cons_zero, List.set_cons_succ]) | (refine mx_st (v := ?_) rfl (fun W hW => ?_) ?_; rotate_left; (focus (go_simp <;> with_reducible rfl)); simp only [Act.put, List.setIfInBounds_toArray, List.set_cons_zero, List.set_cons_succ]))
          have hbl := (hbl.ext hw8).ext hw9
          have HBL := Lib.hid hbl
          have r0 := hbl.freeF 0
          have r1 := hbl.freeF 1
          obtain ⟨z0, z1⟩ := boxT hbl
          have er9 := Ext.refl w9
          clear hbl
          refine mx_ts (w' := ?_) rfl ?_ ?_
          rotate_left
          focus (go_simp <;> with_reducible rfl)
          have hk := HBL.out.set2 (a := .bool d) (b := .pointer p5)
          have hbt := ExtBut.set2 w9 gx (.bool d) (.pointer p5)
          generalize (World.setCell w9 ⟨gx, 0, none⟩ (.bool d)).setCell ⟨gx, 1, none⟩ (.pointer p5) = w10 at hk hbt ⊢
          have HX : Hid (PutPost SB d tt ⟨xk, xn, xs⟩ (xw) wb gx p5 t5 w10) := ⟨hbt.ext Ew9.out (fun b h => by subst h; exact hgl), hk, ((H5.out.1).but (fun b h => h.2) hbt).mono (fun b h => h.1), H5.out.2.2, H5.out.2.1, hgl⟩
          clear hk hbt r0 r1 z0 z1 er9
          simp only [Act.put, List.setIfInBounds_toArray, List.set_cons_zero, List.set_cons_succ]
          repeat (first | (refine mx_pu (v := ?_) rfl (fun W => ?_) ?_; rotate_left; (focus (go_simp <;> with_reducible rfl)); simp only [Act.put, List.setIfInBounds_toArray, List.set_cons_zero, List.set_cons_succ]) | (refine mx_st (v := ?_) rfl (fun W hW => ?_) ?_; rotate_left; (focus (go_simp <;> with_reducible rfl)); simp only [Act.put, List.setIfInBounds_toArray, List.set_cons_zero, List.set_cons_succ]))
          refine mx_nil ?_
          go_wp2_with fail
          go_meet
          exact ⟨gx, p5, t5, rfl, rfl, HX⟩
      case rest =>
        obtain ⟨gx, p5, t5, rfl, rfl, HX'⟩ := hcut
        have hX := HX'.out
        rw [← HSB.out] at hX
        have HX := Lib.hid hX
        clear hX PP HX' HSB
        have hl5 : AddL d m n (k + 1) (lst t5) := by rw [HX.out.2.2.2.2.1]; exact HQ.out.2.2.2.2.step HX0.out HT.out.2.1.2.2.2.2.1 HLK.out
        have H5 := Lib.hid hl5
        clear hl5
        obtain ⟨zz0, zz1⟩ := boxT HX.out.2.1
        have hcc := Ext.refl wc
        have e13 := f12.trans HX.out.1
        have g13 := HX.out.1
        have s0 := HQ.out.2.1.freeF 0
        have s1 := HQ.out.2.1.freeF 1
        go_wp2_with fail
        have hkk := (HQ.out.2.1.ext e13).set2 (a := .bool d) (b := .pointer p5)
        have hbt := ExtBut.set2 wc g (.bool d) (.pointer p5)
        generalize (World.setCell wc ⟨g, 0, none⟩ (.bool d)).setCell ⟨g, 1, none⟩ (.pointer p5) = w14 at hkk hbt ⊢
        have hN : AddsRel w7 g d m n (k + 1) p5 t5 w14 := ⟨hbt.ext (HQ.out.1.trans e13) (fun b h => by omega), hkk, HX.out.2.2.1.but (fun b h => h) hbt, HX.out.2.2.2.1, H5.out⟩
        have HN := Lib.hid hN
        clear hN hkk hbt s0 s1 zz0 zz1
        go_roundw
        case rel => exact ⟨k + 1, p5, t5, by omega, by go_num, HN⟩
        case measure => simp [intOf]; omega
    · obtain rfl : k = n.length := by omega
      have hal : AddL d m n n.length (lst ta) := HQ.out.2.2.2.2
      have hpm : (lst ta).Perm (m ++ n) := by have := hal.2; rwa [List.take_length] at this
      have hta : tot ta = sumW m + sumW n := by rw [← tot_lst, sumW_perm hpm, sumW_append]
      have hsa : sz ta = m.length + n.length := by rw [← sz_lst, hpm.length_eq, List.length_append]
      have hsm := HT.out.2.2.1.2.2.2
      have hsn := HT.out.2.2.2.1.2.2.2
      have HPM := Lib.hid (And.intro hpm (And.intro hta hsa))
      clear hpm hta hsa hal
      have Ewr := Lib.hid eq
      have Fwr := Lib.hid (Ext.refl wr)
      have hs1 : IntKind.i64.wrap ((m.length : Int) + (n.length : Int)) = (m.length : Int) + (n.length : Int) := IntWalk.i64_in _ (by omega)
      go_wp2_with fail
      refine wp_region_mixE 25 [(0, 0), (2, 0), (4, 0), (1, 1), (3, 1), (5, 1), (6, 1), (7, 1), (8, 3), (9, 3), (10, 0), (12, 0), (14, 0), (11, 1), (13, 1), (15, 1), (16, 3), (17, 3), (18, 3), (19, 3), (20, 0), (21, 1), (22, 3), (23, 3)] (by kernel_rfl) (fun _ _ d _ _ h => by cases d <;> exact h) ?_
      intro w11 hw11
      simp only [List.map_cons, List.map_nil, mixPick_lt _ _ 0 rfl, mixPick_lt _ _ 1 rfl, mixPick_lt _ _ 2 rfl, mixPick_lt _ _ 3 rfl, mixPick_fork, List.getD_cons_zero, List.getD_cons_succ]
      have Ew11 := Lib.hid (Ewr.out.trans hw11)
      have Fw11 := Lib.hid (Fwr.out.trans hw11)
      have tew11 := fun W (h : Ext w11 W) => Ew11.out.trans h
      have tfw11 := fun W (h : Ext w11 W) => Fw11.out.trans h
      repeat (first | (refine mx_pu (v := ?_) rfl (fun W => ?_) ?_; rotate_left; (focus (go_simp <;> with_reducible rfl)); simp only [Act.put, List.setIfInBounds_toArray, List.set_cons_zero, List.set_cons_succ]) | (refine mx_no3 rfl ?_; simp only [Act.put, List.setIfInBounds_toArray, List.set_cons_zero, List.set_cons_succ]) | (refine mx_st (v := ?_) rfl (fun W hW => ?_) ?_; rotate_left; (focus (go_simp <;> with_reducible rfl)); simp only [Act.put, List.setIfInBounds_toArray, List.set_cons_zero, List.set_cons_succ]) | (refine mx_no0 rfl ?_; simp only [Act.put, List.setIfInBounds_toArray, List.set_cons_zero, List.set_cons_succ]) | (refine mx_no1 Ext.grows rfl ?_; simp only [Act.put, List.setIfInBounds_toArray, List.set_cons_zero, List.set_cons_succ]))
      refine mx_call (f := ?_) (args := ?_) rfl ?_ ?_
      rotate_left 2
      focus (go_simp <;> (refine ⟨?_, ?_⟩ <;> with_reducible rfl))
      have hI := Total_c (S := fun b => b ≠ g) (d := d) (Fresh.ne (by have := hw11.size; omega)) (HQ.out.2.2.1.ext hw11) (by rw [HPM.out.2.1]; exact bigN_gt' (by omega))
      rw [HPM.out.2.1] at hI
      with_reducible refine hI.mono ?_
      clear hI
      rintro e w12 ⟨v12, rfl, hw12, hv12⟩
      refine ⟨_, rfl, hw12, ?_⟩
      obtain ⟨ta1, tk1, tc1, rfl⟩ := slice_of_nat hv12
      have HV12 := Lib.hid hv12
      clear hv12
      simp only [Act.put, List.setIfInBounds_toArray, List.set_cons_zero, List.set_cons_succ]
      have Ew12 := Lib.hid (Ew11.out.trans hw12)
      have Fw12 := Lib.hid (Fw11.out.trans hw12)
      have tew12 := fun W (h : Ext w12 W) => Ew12.out.trans h
      have tfw12 := fun W (h : Ext w12 W) => Fw12.out.trans h
      clear tew11 tfw11
      repeat (first | (refine mx_pu (v := ?_) rfl (fun W => ?_) ?_; rotate_left; (focus (go_simp <;> with_reducible rfl)); simp only [Act.put, List.setIfInBounds_toArray, List.set_cons_zero, List.set_cons_succ]) | (refine mx_no3 rfl ?_; simp only [Act.put, List.setIfInBounds_toArray, List.set_cons_zero, List.set_cons_succ]) | (refine mx_st (v := ?_) rfl (fun W hW => ?_) ?_; rotate_left; (focus (go_simp <;> with_reducible rfl)); simp only [Act.put, List.setIfInBounds_toArray, List.set_cons_zero, List.set_cons_succ]) | (refine mx_no0 rfl ?_; simp only [Act.put, List.setIfInBounds_toArray, List.set_cons_zero, List.set_cons_succ]) | (refine mx_no1 Ext.grows rfl ?_; simp only [Act.put, List.setIfInBounds_toArray, List.set_cons_zero, List.set_cons_succ]))
      refine mx_call (f := ?_) (args := ?_) rfl ?_ ?_
      rotate_left 2
      focus (go_simp <;> (refine ⟨?_, ?_⟩ <;> with_reducible rfl))
      have hI := Total_c (S := fun _ => True) (d := d) (Fresh.all w12) (HT.out.1.1.ext Ew12.out) HB.out.1
      rw [HT.out.2.2.1.2.1] at hI
      with_reducible refine hI.mono ?_
      clear hI
      rintro e w13 ⟨v13, rfl, hw13, hv13⟩
      refine ⟨_, rfl, hw13, ?_⟩
      obtain ⟨ta2, tk2, tc2, rfl⟩ := slice_of_nat hv13
      have HV13 := Lib.hid hv13
      clear hv13
      simp only [Act.put, List.setIfInBounds_toArray, List.set_cons_zero, List.set_cons_succ]
      have Ew13 := Lib.hid (Ew12.out.trans hw13)
      have Fw13 := Lib.hid (Fw12.out.trans hw13)
      have tew13 := fun W (h : Ext w13 W) => Ew13.out.trans h
      have tfw13 := fun W (h : Ext w13 W) => Fw13.out.trans h
      clear tew12 tfw12
      repeat (first | (refine mx_pu (v := ?_) rfl (fun W => ?_) ?_; rotate_left; (focus (go_simp <;> with_reducible rfl)); simp only [Act.put, List.setIfInBounds_toArray, List.set_cons_zero, List.set_cons_succ]) | (refine mx_no3 rfl ?_; simp only [Act.put, List.setIfInBounds_toArray, List.set_cons_zero, List.set_cons_succ]) | (refine mx_st (v := ?_) rfl (fun W hW => ?_) ?_; rotate_left; (focus (go_simp <;> with_reducible rfl)); simp only [Act.put, List.setIfInBounds_toArray, List.set_cons_zero, List.set_cons_succ]) | (refine mx_no0 rfl ?_; simp only [Act.put, List.setIfInBounds_toArray, List.set_cons_zero, List.set_cons_succ]) | (refine mx_no1 Ext.grows rfl ?_; simp only [Act.put, List.setIfInBounds_toArray, List.set_cons_zero, List.set_cons_succ]))
      refine mx_call (f := ?_) (args := ?_) rfl ?_ ?_
      rotate_left 2
      focus (go_simp <;> (refine ⟨?_, ?_⟩ <;> with_reducible rfl))
      have hI := Total_c (S := fun _ => True) (d := d) (Fresh.all w13) (HT.out.2.1.1.ext Ew13.out) HB.out.2.2.1
      rw [HT.out.2.2.2.1.2.1] at hI
      with_reducible refine hI.mono ?_
      clear hI
      rintro e w14 ⟨v14, rfl, hw14, hv14⟩
      refine ⟨_, rfl, hw14, ?_⟩
      obtain ⟨ta3, tk3, tc3, rfl⟩ := slice_of_nat hv14
      have HV14 := Lib.hid hv14
      clear hv14
      simp only [Act.put, List.setIfInBounds_toArray, List.set_cons_zero, List.set_cons_succ]
      have Ew14 := Lib.hid (Ew13.out.trans hw14)
      have Fw14 := Lib.hid (Fw13.out.trans hw14)
      have tew14 := fun W (h : Ext w14 W) => Ew14.out.trans h
      have tfw14 := fun W (h : Ext w14 W) => Fw14.out.trans h
      clear tew13 tfw13
      repeat (first | (refine mx_pu (v := ?_) rfl (fun W => ?_) ?_; rotate_left; (focus (go_simp <;> with_reducible rfl)); simp only [Act.put, List.setIfInBounds_toArray, List.set_cons_zero, List.set_cons_succ]) | (refine mx_no3 rfl ?_; simp only [Act.put, List.setIfInBounds_toArray, List.set_cons_zero, List.set_cons_succ]) | (refine mx_st (v := ?_) rfl (fun W hW => ?_) ?_; rotate_left; (focus (go_simp <;> with_reducible rfl)); simp only [Act.put, List.setIfInBounds_toArray, List.set_cons_zero, List.set_cons_succ]) | (refine mx_no0 rfl ?_; simp only [Act.put, List.setIfInBounds_toArray, List.set_cons_zero, List.set_cons_succ]) | (refine mx_no1 Ext.grows rfl ?_; simp only [Act.put, List.setIfInBounds_toArray, List.set_cons_zero, List.set_cons_succ]))
      refine mx_call (f := ?_) (args := ?_) rfl ?_ ?_
      rotate_left 2
      focus (go_simp <;> (refine ⟨?_, ?_⟩ <;> with_reducible rfl))
      obtain ⟨l1, d1, m1, e1⟩ := HV13.out
      obtain ⟨l2, d2, m2, e2⟩ := HV14.out
      have hI := add_nat (Fresh.all w14) (d1.ext hw14) d2 (by rw [e1]; exact bigN_gt' (by omega)) (by rw [e2]; exact bigN_gt' (by omega))
      rw [e1, e2] at hI
      clear d1 d2 m1 m2 e1 e2 l1 l2
      with_reducible refine hI.mono ?_
      clear hI
      rintro e w15 ⟨v15, rfl, hw15, hv15⟩
      refine ⟨_, rfl, hw15, ?_⟩
      obtain ⟨ta4, tk4, tc4, rfl⟩ := slice_of_nat hv15
      have HV15 := Lib.hid hv15
      clear hv15
      simp only [Act.put, List.setIfInBounds_toArray, List.set_cons_zero, List.set_cons_succ]
      have Ew15 := Lib.hid (Ew14.out.trans hw15)
      have Fw15 := Lib.hid (Fw14.out.trans hw15)
      have tew15 := fun W (h : Ext w15 W) => Ew15.out.trans h
      have tfw15 := fun W (h : Ext w15 W) => Fw15.out.trans h
      clear tew14 tfw14
      repeat (first | (refine mx_pu (v := ?_) rfl (fun W => ?_) ?_; rotate_left; (focus (go_simp <;> with_reducible rfl)); simp only [Act.put, List.setIfInBounds_toArray, List.set_cons_zero, List.set_cons_succ]) | (refine mx_no3 rfl ?_; simp only [Act.put, List.setIfInBounds_toArray, List.set_cons_zero, List.set_cons_succ]) | (refine mx_st (v := ?_) rfl (fun W hW => ?_) ?_; rotate_left; (focus (go_simp <;> with_reducible rfl)); simp only [Act.put, List.setIfInBounds_toArray, List.set_cons_zero, List.set_cons_succ]) | (refine mx_no0 rfl ?_; simp only [Act.put, List.setIfInBounds_toArray, List.set_cons_zero, List.set_cons_succ]) | (refine mx_no1 Ext.grows rfl ?_; simp only [Act.put, List.setIfInBounds_toArray, List.set_cons_zero, List.set_cons_succ]))
      refine mx_call (f := ?_) (args := ?_) rfl ?_ ?_
      rotate_left 2
      focus (go_simp <;> (refine ⟨?_, ?_⟩ <;> with_reducible rfl))
      obtain ⟨l1, d1, m1, e1⟩ := HV12.out
      obtain ⟨l2, d2, m2, e2⟩ := HV15.out
      have hI := cmp_nat ((((d1.mono (fun _ _ => trivial)).ext hw13).ext hw14).ext hw15) d2
      rw [e1, e2, cmpI_eq rfl] at hI
      clear d1 d2 m1 m2 e1 e2 l1 l2
      with_reducible refine hI.mono ?_
      clear hI
      rintro e w16 ⟨rfl, nq, rfl⟩
      have hw16 := Ext.drewN w15 nq
      generalize w15.drewN nq = w16 at hw16 ⊢
      refine ⟨_, rfl, hw16, ?_⟩
      simp only [Act.put, List.setIfInBounds_toArray, List.set_cons_zero, List.set_cons_succ]
      have Ew16 := Lib.hid (Ew15.out.trans hw16)
      have Fw16 := Lib.hid (Fw15.out.trans hw16)
      have tew16 := fun W (h : Ext w16 W) => Ew16.out.trans h
      have tfw16 := fun W (h : Ext w16 W) => Fw16.out.trans h
      clear tew15 tfw15
      repeat (first | (refine mx_pu (v := ?_) rfl (fun W => ?_) ?_; rotate_left; (focus (go_simp <;> with_reducible rfl)); simp only [Act.put, List.setIfInBounds_toArray, List.set_cons_zero, List.set_cons_succ]) | (refine mx_no3 rfl ?_; simp only [Act.put, List.setIfInBounds_toArray, List.set_cons_zero, List.set_cons_succ]) | (refine mx_st (v := ?_) rfl (fun W hW => ?_) ?_; rotate_left; (focus (go_simp <;> with_reducible rfl)); simp only [Act.put, List.setIfInBounds_toArray, List.set_cons_zero, List.set_cons_succ]) | (refine mx_no0 rfl ?_; simp only [Act.put, List.setIfInBounds_toArray, List.set_cons_zero, List.set_cons_succ]) | (refine mx_no1 Ext.grows rfl ?_; simp only [Act.put, List.setIfInBounds_toArray, List.set_cons_zero, List.set_cons_succ]))
      refine mx_call (f := ?_) (args := ?_) rfl ?_ ?_
      rotate_left 2
      focus (go_simp <;> (refine ⟨?_, ?_⟩ <;> with_reducible rfl))
      have hI := Len_c (d := d) (HQ.out.2.2.1.ext Fw16.out)
      rw [HPM.out.2.2, show ((m.length + n.length : Nat) : Int) = (m.length : Int) + (n.length : Int) by omega] at hI
      with_reducible refine hI.mono ?_
      clear hI
      rintro e w17 ⟨rfl, hw17⟩
      refine ⟨_, rfl, hw17, ?_⟩
      simp only [Act.put, List.setIfInBounds_toArray, List.set_cons_zero, List.set_cons_succ]
      have Ew17 := Lib.hid (Ew16.out.trans hw17)
      have Fw17 := Lib.hid (Fw16.out.trans hw17)
      have tew17 := fun W (h : Ext w17 W) => Ew17.out.trans h
      have tfw17 := fun W (h : Ext w17 W) => Fw17.out.trans h
      clear tew16 tfw16
      repeat (first | (refine mx_pu (v := ?_) rfl (fun W => ?_) ?_; rotate_left; (focus (go_simp <;> with_reducible rfl)); simp only [Act.put, List.setIfInBounds_toArray, List.set_cons_zero, List.set_cons_succ]) | (refine mx_no3 rfl ?_; simp only [Act.put, List.setIfInBounds_toArray, List.set_cons_zero, List.set_cons_succ]) | (refine mx_st (v := ?_) rfl (fun W hW => ?_) ?_; rotate_left; (focus (go_simp <;> with_reducible rfl)); simp only [Act.put, List.setIfInBounds_toArray, List.set_cons_zero, List.set_cons_succ]) | (refine mx_no0 rfl ?_; simp only [Act.put, List.setIfInBounds_toArray, List.set_cons_zero, List.set_cons_succ]) | (refine mx_no1 Ext.grows rfl ?_; simp only [Act.put, List.setIfInBounds_toArray, List.set_cons_zero, List.set_cons_succ]))
      refine mx_call (f := ?_) (args := ?_) rfl ?_ ?_
      rotate_left 2
      focus (go_simp <;> (refine ⟨?_, ?_⟩ <;> with_reducible rfl))
      have hI := Len_c (d := d) (HT.out.1.1.ext Ew17.out)
      rw [HT.out.2.2.1.1] at hI
      with_reducible refine hI.mono ?_
      clear hI
      rintro e w18 ⟨rfl, hw18⟩
      refine ⟨_, rfl, hw18, ?_⟩
      simp only [Act.put, List.setIfInBounds_toArray, List.set_cons_zero, List.set_cons_succ]
      have Ew18 := Lib.hid (Ew17.out.trans hw18)
      have Fw18 := Lib.hid (Fw17.out.trans hw18)
      have tew18 := fun W (h : Ext w18 W) => Ew18.out.trans h
      have tfw18 := fun W (h : Ext w18 W) => Fw18.out.trans h
      clear tew17 tfw17
      repeat (first | (refine mx_pu (v := ?_) rfl (fun W => ?_) ?_; rotate_left; (focus (go_simp <;> with_reducible rfl)); simp only [Act.put, List.setIfInBounds_toArray, List.set_cons_zero, List.set_cons_succ]) | (refine mx_no3 rfl ?_; simp only [Act.put, List.setIfInBounds_toArray, List.set_cons_zero, List.set_cons_succ]) | (refine mx_st (v := ?_) rfl (fun W hW => ?_) ?_; rotate_left; (focus (go_simp <;> with_reducible rfl)); simp only [Act.put, List.setIfInBounds_toArray, List.set_cons_zero, List.set_cons_succ]) | (refine mx_no0 rfl ?_; simp only [Act.put, List.setIfInBounds_toArray, List.set_cons_zero, List.set_cons_succ]) | (refine mx_no1 Ext.grows rfl ?_; simp only [Act.put, List.setIfInBounds_toArray, List.set_cons_zero, List.set_cons_succ]))
      refine mx_call (f := ?_) (args := ?_) rfl ?_ ?_
      rotate_left 2
      focus (go_simp <;> (refine ⟨?_, ?_⟩ <;> with_reducible rfl))
      have hI := Len_c (d := d) (HT.out.2.1.1.ext Ew18.out)
      rw [HT.out.2.2.2.1.1] at hI
      with_reducible refine hI.mono ?_
      clear hI
      rintro e w19 ⟨rfl, hw19⟩
      refine ⟨_, rfl, hw19, ?_⟩
      simp only [Act.put, List.setIfInBounds_toArray, List.set_cons_zero, List.set_cons_succ]
      have Ew19 := Lib.hid (Ew18.out.trans hw19)
      have Fw19 := Lib.hid (Fw18.out.trans hw19)
      have tew19 := fun W (h : Ext w19 W) => Ew19.out.trans h
      have tfw19 := fun W (h : Ext w19 W) => Fw19.out.trans h
      clear tew18 tfw18
      repeat (first | (refine mx_pu (v := ?_) rfl (fun W => ?_) ?_; rotate_left; (focus (go_simp <;> with_reducible rfl)); simp only [Act.put, List.setIfInBounds_toArray, List.set_cons_zero, List.set_cons_succ]) | (refine mx_no3 rfl ?_; simp only [Act.put, List.setIfInBounds_toArray, List.set_cons_zero, List.set_cons_succ]) | (refine mx_st (v := ?_) rfl (fun W hW => ?_) ?_; rotate_left; (focus (go_simp <;> with_reducible rfl)); simp only [Act.put, List.setIfInBounds_toArray, List.set_cons_zero, List.set_cons_succ]) | (refine mx_no0 rfl ?_; simp only [Act.put, List.setIfInBounds_toArray, List.set_cons_zero, List.set_cons_succ]) | (refine mx_no1 Ext.grows rfl ?_; simp only [Act.put, List.setIfInBounds_toArray, List.set_cons_zero, List.set_cons_succ]))
      refine mx_call (f := ?_) (args := ?_) rfl ?_ ?_
      rotate_left 2
      focus (go_simp <;> (refine ⟨?_, ?_⟩ <;> with_reducible rfl))
      have hI := Check_c (S := fun b => b ≠ g) (Fresh.ne (by have := Fw19.out.size; omega)) d pa (HQ.out.2.2.1.ext Fw19.out) HQ.out.2.2.2.1 HQ.out.2.2.2.2.1 HK.out.1.2.1 (by have := HK.out.2.1; omega) (bigN_gt' (by have := HK.out.2.2; omega))
      with_reducible refine hI.mono ?_
      clear hI
      rintro e w20 ⟨rfl, hw20⟩
      refine ⟨_, rfl, hw20, ?_⟩
      simp only [Act.put, List.setIfInBounds_toArray, List.set_cons_zero, List.set_cons_succ]
      have Ew20 := Lib.hid (Ew19.out.trans hw20)
      have Fw20 := Lib.hid (Fw19.out.trans hw20)
      have tew20 := fun W (h : Ext w20 W) => Ew20.out.trans h
      have tfw20 := fun W (h : Ext w20 W) => Fw20.out.trans h
      clear tew19 tfw19
      repeat (first | (refine mx_pu (v := ?_) rfl (fun W => ?_) ?_; rotate_left; (focus (go_simp <;> with_reducible rfl)); simp only [Act.put, List.setIfInBounds_toArray, List.set_cons_zero, List.set_cons_succ]) | (refine mx_no3 rfl ?_; simp only [Act.put, List.setIfInBounds_toArray, List.set_cons_zero, List.set_cons_succ]) | (refine mx_st (v := ?_) rfl (fun W hW => ?_) ?_; rotate_left; (focus (go_simp <;> with_reducible rfl)); simp only [Act.put, List.setIfInBounds_toArray, List.set_cons_zero, List.set_cons_succ]) | (refine mx_no0 rfl ?_; simp only [Act.put, List.setIfInBounds_toArray, List.set_cons_zero, List.set_cons_succ]) | (refine mx_no1 Ext.grows rfl ?_; simp only [Act.put, List.setIfInBounds_toArray, List.set_cons_zero, List.set_cons_succ]))
      refine mx_nil ?_
      clear tew20 tfw20 hs1
      have e20 := Ew20.out
      have hEA := Ext.alloc w20 (.cells #[] 60)
      go_wp2_with (first
        | (at_builtin; refine wpList_append_row (S := fun _ => True) rfl (.tmp 119) (.tmp 120) 54 rfl w20.heap.size 60 i0 (.agg #[.int .i64 0, .int .i64 0, .string ⟨#[]⟩, .int .u64 0]) 4 40 Try.underlying54 HI.out.1 HI.out.2.1 HI.out.2.2.1 HI.out.2.2.2 rfl (by decide) (.slice (some ⟨w20.heap.size, 0, none⟩) 0 0) 0 [] rfl (World.ownsRow_made w20 #[] 0 (Nat.le_refl _) (Nat.zero_le _) rfl) ma m.length mc (m.flatMap itemCells) rfl (flat_len itemCells_len m) ((HW.out.1.ext e20).ext hEA) (oneCells_items m) HW.out.2.2.1 (by decide) (by omega) hEA.size ?_; intro v21 w21 hown21 hgrow21; have HO1 := Lib.hid (And.intro hown21 hgrow21); clear hown21 hgrow21)
        | (at_builtin; refine wpList_append_row (S := fun _ => True) rfl (.tmp 121) (.tmp 122) 54 rfl w20.heap.size 60 i0 (.agg #[.int .i64 0, .int .i64 0, .string ⟨#[]⟩, .int .u64 0]) 4 40 Try.underlying54 HI.out.1 HI.out.2.1 HI.out.2.2.1 HI.out.2.2.2 rfl (by decide) v21 (0 + m.length) ([] ++ m.flatMap itemCells) rfl HO1.out.1 na n.length nc (n.flatMap itemCells) rfl (flat_len itemCells_len n) (HW.out.2.1.ext (e20.trans (adds_mid HO1.out.2))) (oneCells_items n) HW.out.2.2.2 (by decide) (by omega) (adds_mid HO1.out.2).size ?_; intro v22 w22 hown22 hgrow22; have HO2 := Lib.hid (And.intro hown22 hgrow22); clear hown22 hgrow22))
      obtain ⟨wl, rfl⟩ : ∃ wl : World, wl = wr := ⟨_, rfl⟩
      obtain ⟨hx22, hit⟩ := adds_end HO1.out HO2.out
      obtain ⟨ba, bcap, rfl, hbc1, hbc2, hbc3, hbrow⟩ := hit
      have hLl : (m ++ n).length ≤ 300 := by rw [List.length_append]; omega
      have hmL : ∀ x ∈ m ++ n, x ∈ lst ta := fun x hx => HPM.out.1.mem_iff.2 hx
      have hbL : ∀ v, befL d v (lst ta) = befL d v m + befL d v n := fun v => by rw [befL_perm HPM.out.1, befL_append]
      have HL2 := Lib.hid (And.intro hmL (And.intro hbL (And.intro hbrow (And.intro (e20.trans hx22) (Fw20.out.trans hx22)))))
      clear hmL hbL hbrow hbc3 HO1 HO2 hx22 hEA e20 HPM HI
      generalize m ++ n = L at *
      go_loopw [20] (fun i wq => ∃ j : Nat, j ≤ L.length ∧ i = .int .i64 j ∧ Hid (Ext w22 wq)) (fun i _ => L.length - (intOf i).toNat)
      case atStart => exact ⟨0, Nat.zero_le _, rfl, Ext.refl _⟩
      case round =>
        obtain ⟨j, hj, rfl, HJ⟩ := hrel
        have hq := HJ.out
        have eq2 := HL2.out.2.2.2.1.trans hq
        have fq2 := HL2.out.2.2.2.2.trans hq
        by_cases hjl : j < L.length
        · have hx : L[j]? = some L[j] := List.getElem?_eq_getElem hjl
          obtain ⟨b1, o1, hbb, y0, y1, y2, y3⟩ := row_item HL2.out.2.2.1 hx
          have hin := HL2.out.1 L[j] (List.getElem_mem _)
          cases hbb
          generalize L[j] = x at *
          obtain ⟨⟨xk, xn, xs⟩, xw⟩ := x
          have hlk := look_mem HQ.out.2.2.2.2.1 hin
          have hbe := HL2.out.2.1 ⟨xk, xn, xs⟩
          have hbm := befL_le d ⟨xk, xn, xs⟩ m
          have hbn := befL_le d ⟨xk, xn, xs⟩ n
          have HX := Lib.hid (And.intro hlk hbe)
          clear hx hin hlk hbe
          have Ewr := Lib.hid eq2
          have Fwr := Lib.hid fq2
          have Gwr := Lib.hid hq
          go_wp2_with fail
          refine wp_region_mixE 15 [(0, 0), (1, 3), (2, 3), (3, 3), (4, 3), (5, 0), (6, 1), (7, 3), (8, 3), (9, 3), (10, 3), (11, 3), (12, 3), (13, 3)] (by kernel_rfl) (fun _ _ d _ _ h => by cases d <;> exact h) ?_
          intro w31 hw31
          simp only [List.map_cons, List.map_nil, mixPick_lt _ _ 0 rfl, mixPick_lt _ _ 1 rfl, mixPick_lt _ _ 2 rfl, mixPick_lt _ _ 3 rfl, mixPick_fork, List.getD_cons_zero, List.getD_cons_succ]
          generalize yielded _ = y
          have Ew31 := Lib.hid (Ewr.out.trans hw31)
          have Fw31 := Lib.hid (Fwr.out.trans hw31)
          have tew31 := fun W (h : Ext w31 W) => Ew31.out.trans h
          have tfw31 := fun W (h : Ext w31 W) => Fw31.out.trans h
          have Gw31 := Lib.hid (Gwr.out.trans hw31)
          have tgw31 := fun W (h : Ext w31 W) => Gw31.out.trans h
          repeat (first | (refine mx_pu (v := ?_) rfl (fun W => ?_) ?_; rotate_left; (focus (go_simp <;> with_reducible rfl)); simp only [Act.put, List.setIfInBounds_toArray, List.set_cons_zero, List.set_cons_succ]) | (refine mx_st (v := ?_) rfl (fun W hW => ?_) ?_; rotate_left; (focus (go_simp <;> with_reducible rfl)); simp only [Act.put, List.setIfInBounds_toArray, List.set_cons_zero, List.set_cons_succ]))
          refine mx_call (f := ?_) (args := ?_) rfl ?_ ?_
          rotate_left 2
          focus (go_simp <;> (refine ⟨?_, ?_⟩ <;> with_reducible rfl))
          have hI := Before_c (S := fun b => b ≠ g) (Fresh.ne (by have := Fw31.out.size; omega)) d pa ⟨xk, xn, xs⟩ (HQ.out.2.2.1.ext Fw31.out) HQ.out.2.2.2.2.1 (by have := HK.out.2.1; omega) (bigN_gt' (by have := HK.out.2.2; omega))
          rw [HX.out.1, HX.out.2] at hI
          with_reducible refine hI.mono ?_
          clear hI
          rintro e w32 ⟨hw32, bv1, vis1, rfl, -, hbv1⟩
          refine ⟨_, rfl, hw32, ?_⟩
          obtain ⟨aa1, ak1, ac1, rfl⟩ := slice_of_nat hbv1
          have HV1 := Lib.hid hbv1
          clear hbv1
          simp only [Act.put, List.setIfInBounds_toArray, List.set_cons_zero, List.set_cons_succ]
          have Ew32 := Lib.hid (Ew31.out.trans hw32)
          have Fw32 := Lib.hid (Fw31.out.trans hw32)
          have tew32 := fun W (h : Ext w32 W) => Ew32.out.trans h
          have tfw32 := fun W (h : Ext w32 W) => Fw32.out.trans h
          have Gw32 := Lib.hid (Gw31.out.trans hw32)
          clear tew31 tfw31 tgw31
          repeat (first | (refine mx_pu (v := ?_) rfl (fun W => ?_) ?_; rotate_left; (focus (go_simp <;> with_reducible rfl)); simp only [Act.put, List.setIfInBounds_toArray, List.set_cons_zero, List.set_cons_succ]) | (refine mx_st (v := ?_) rfl (fun W hW => ?_) ?_; rotate_left; (focus (go_simp <;> with_reducible rfl)); simp only [Act.put, List.setIfInBounds_toArray, List.set_cons_zero, List.set_cons_succ]))
          refine mx_nil ?_
          clear tew32 tfw32
          have gE := Ew32.out
          have gG := Gw32.out
          go_wp2_with fail
          clear gE gG
          refine wp_region_mixE 15 [(0, 0), (1, 3), (2, 3), (3, 3), (4, 3), (5, 0), (6, 1), (7, 3), (8, 3), (9, 3), (10, 3), (11, 3), (12, 3), (13, 3)] (by kernel_rfl) (fun _ _ d _ _ h => by cases d <;> exact h) ?_
          intro w33 hw33
          simp only [List.map_cons, List.map_nil, mixPick_lt _ _ 0 rfl, mixPick_lt _ _ 1 rfl, mixPick_lt _ _ 2 rfl, mixPick_lt _ _ 3 rfl, mixPick_fork, List.getD_cons_zero, List.getD_cons_succ]
          generalize yielded _ = y
          have Ew33 := Lib.hid (Ew32.out.trans hw33)
          have Fw33 := Lib.hid (Fw32.out.trans hw33)
          have tew33 := fun W (h : Ext w33 W) => Ew33.out.trans h
          have tfw33 := fun W (h : Ext w33 W) => Fw33.out.trans h
          have Gw33 := Lib.hid (Gw32.out.trans hw33)
          have tgw33 := fun W (h : Ext w33 W) => Gw33.out.trans h
          repeat (first | (refine mx_pu (v := ?_) rfl (fun W => ?_) ?_; rotate_left; (focus (go_simp <;> with_reducible rfl)); simp only [Act.put, List.setIfInBounds_toArray, List.set_cons_zero, List.set_cons_succ]) | (refine mx_st (v := ?_) rfl (fun W hW => ?_) ?_; rotate_left; (focus (go_simp <;> with_reducible rfl)); simp only [Act.put, List.setIfInBounds_toArray, List.set_cons_zero, List.set_cons_succ]))
          refine mx_call (f := ?_) (args := ?_) rfl ?_ ?_
          rotate_left 2
          focus (go_simp <;> (refine ⟨?_, ?_⟩ <;> with_reducible rfl))
          have hI := Before_c (S := fun _ => True) (Fresh.all w33) d p ⟨xk, xn, xs⟩ (HT.out.1.1.ext Ew33.out) (by rw [HT.out.1.2.2.1]; exact HT.out.1.2.2.2.2.1) (by have := HB.out.2.1; omega) HB.out.1
          rw [HT.out.1.2.2.1] at hI
          with_reducible refine hI.mono ?_
          clear hI
          rintro e w34 ⟨hw34, bv2, vis2, rfl, -, hbv2⟩
          refine ⟨_, rfl, hw34, ?_⟩
          obtain ⟨aa2, ak2, ac2, rfl⟩ := slice_of_nat hbv2
          have HV2 := Lib.hid hbv2
          clear hbv2
          simp only [Act.put, List.setIfInBounds_toArray, List.set_cons_zero, List.set_cons_succ]
          have Ew34 := Lib.hid (Ew33.out.trans hw34)
          have Fw34 := Lib.hid (Fw33.out.trans hw34)
          have tew34 := fun W (h : Ext w34 W) => Ew34.out.trans h
          have tfw34 := fun W (h : Ext w34 W) => Fw34.out.trans h
          have Gw34 := Lib.hid (Gw33.out.trans hw34)
          clear tew33 tfw33 tgw33
          repeat (first | (refine mx_pu (v := ?_) rfl (fun W => ?_) ?_; rotate_left; (focus (go_simp <;> with_reducible rfl)); simp only [Act.put, List.setIfInBounds_toArray, List.set_cons_zero, List.set_cons_succ]) | (refine mx_st (v := ?_) rfl (fun W hW => ?_) ?_; rotate_left; (focus (go_simp <;> with_reducible rfl)); simp only [Act.put, List.setIfInBounds_toArray, List.set_cons_zero, List.set_cons_succ]))
          refine mx_nil ?_
          clear tew34 tfw34
          go_wp2_with fail
          refine wp_region_mixE 15 [(0, 0), (1, 3), (2, 3), (3, 3), (4, 3), (5, 0), (6, 1), (7, 3), (8, 3), (9, 3), (10, 3), (11, 3), (12, 3), (13, 3)] (by kernel_rfl) (fun _ _ d _ _ h => by cases d <;> exact h) ?_
          intro w35 hw35
          simp only [List.map_cons, List.map_nil, mixPick_lt _ _ 0 rfl, mixPick_lt _ _ 1 rfl, mixPick_lt _ _ 2 rfl, mixPick_lt _ _ 3 rfl, mixPick_fork, List.getD_cons_zero, List.getD_cons_succ]
          generalize yielded _ = y
          have Ew35 := Lib.hid (Ew34.out.trans hw35)
          have Fw35 := Lib.hid (Fw34.out.trans hw35)
          have tew35 := fun W (h : Ext w35 W) => Ew35.out.trans h
          have tfw35 := fun W (h : Ext w35 W) => Fw35.out.trans h
          have Gw35 := Lib.hid (Gw34.out.trans hw35)
          have tgw35 := fun W (h : Ext w35 W) => Gw35.out.trans h
          repeat (first | (refine mx_pu (v := ?_) rfl (fun W => ?_) ?_; rotate_left; (focus (go_simp <;> with_reducible rfl)); simp only [Act.put, List.setIfInBounds_toArray, List.set_cons_zero, List.set_cons_succ]) | (refine mx_st (v := ?_) rfl (fun W hW => ?_) ?_; rotate_left; (focus (go_simp <;> with_reducible rfl)); simp only [Act.put, List.setIfInBounds_toArray, List.set_cons_zero, List.set_cons_succ]))
          refine mx_call (f := ?_) (args := ?_) rfl ?_ ?_
          rotate_left 2
          focus (go_simp <;> (refine ⟨?_, ?_⟩ <;> with_reducible rfl))
          have hI := Before_c (S := fun _ => True) (Fresh.all w35) d pu ⟨xk, xn, xs⟩ (HT.out.2.1.1.ext Ew35.out) (by rw [HT.out.2.1.2.2.1]; exact HT.out.2.1.2.2.2.2.1) (by have := HB.out.2.2.2; omega) HB.out.2.2.1
          rw [HT.out.2.1.2.2.1] at hI
          with_reducible refine hI.mono ?_
          clear hI
          rintro e w36 ⟨hw36, bv3, vis3, rfl, -, hbv3⟩
          refine ⟨_, rfl, hw36, ?_⟩
          obtain ⟨aa3, ak3, ac3, rfl⟩ := slice_of_nat hbv3
          have HV3 := Lib.hid hbv3
          clear hbv3
          simp only [Act.put, List.setIfInBounds_toArray, List.set_cons_zero, List.set_cons_succ]
          have Ew36 := Lib.hid (Ew35.out.trans hw36)
          have Fw36 := Lib.hid (Fw35.out.trans hw36)
          have tew36 := fun W (h : Ext w36 W) => Ew36.out.trans h
          have tfw36 := fun W (h : Ext w36 W) => Fw36.out.trans h
          have Gw36 := Lib.hid (Gw35.out.trans hw36)
          clear tew35 tfw35 tgw35
          repeat (first | (refine mx_pu (v := ?_) rfl (fun W => ?_) ?_; rotate_left; (focus (go_simp <;> with_reducible rfl)); simp only [Act.put, List.setIfInBounds_toArray, List.set_cons_zero, List.set_cons_succ]) | (refine mx_st (v := ?_) rfl (fun W hW => ?_) ?_; rotate_left; (focus (go_simp <;> with_reducible rfl)); simp only [Act.put, List.setIfInBounds_toArray, List.set_cons_zero, List.set_cons_succ]))
          refine mx_nil ?_
          clear tew36 tfw36
          go_wp2_with fail
          obtain ⟨l1, d1, m1, e1⟩ := HV2.out
          obtain ⟨l2, d2, m2, e2⟩ := HV3.out
          have hI := add_nat (Fresh.all w36) ((d1.ext hw35).ext hw36) d2 (by rw [e1]; exact bigN_gt' (by omega)) (by rw [e2]; exact bigN_gt' (by omega))
          rw [e1, e2] at hI
          clear d1 d2 m1 m2 e1 e2 l1 l2
          with_reducible refine hI.mono ?_
          clear hI
          rintro e w37 ⟨v37, rfl, hw37, hv37⟩
          obtain ⟨aa4, ak4, ac4, rfl⟩ := slice_of_nat hv37
          have HV4 := Lib.hid hv37
          clear hv37
          go_wp2_with fail
          obtain ⟨l1, d1, m1, e1⟩ := HV1.out
          obtain ⟨l2, d2, m2, e2⟩ := HV4.out
          have hI := cmp_nat ((((((d1.mono (fun _ _ => trivial)).ext hw33).ext hw34).ext hw35).ext hw36).ext hw37) d2
          rw [e1, e2, cmpI_eq rfl] at hI
          clear d1 d2 m1 m2 e1 e2 l1 l2
          with_reducible refine hI.mono ?_
          clear hI
          rintro e w38 ⟨rfl, nq2, rfl⟩
          have HE := Lib.hid ((Gw36.out.trans hw37).trans (Ext.drewN w37 nq2))
          generalize w37.drewN nq2 = w38 at HE ⊢
          go_wp2_with fail
          go_roundw
          case rel => exact ⟨j + 1, by omega, by go_num, HE⟩
          case measure => simp [intOf]; omega
        · go_wp2_with fail
          with_reducible refine (awake_c (w := wr)).mono ?_
          rintro e w39 ⟨rfl, hw39⟩
          go_wp2_with fail
          go_ret
          exact ⟨rfl, (HT.out.2.2.2.2.trans eq2).trans hw39⟩
set_option maxRecDepth 100000 in
theorem WtreeAdds_all {H : Type} (enc : TypeId × Value → H) (W : World) (base : Nat) (args : Array Value) (ds gs : List (DataW H)) (before : List MemPlace)
    (hval : ∀ (j : Nat) t v, Try.f6.params[j]? = some t → args[j]? = some v → Value.okWide Try.prog W .any base t v)
    (hW : DataW.Whole enc Try.prog Try.f6.params.toList Rows.wtreeAddsSpec.vars false W args.toList ds gs before) :
    Calls Try.prog 6 args W fun e W' => ∃ v, e = .returned v ∧ Rows.wtreeAddsSpec.post enc Try.prog Try.f6 false true false false W args v W' := by
  have hW' := hW
  obtain ⟨p, q, hA0, hV, rfl, hfz, hnd⟩ := hW
  have hA : DataW.TrodAll enc Try.prog W 0 (fun _ => true) true Try.f6.params.toList args.toList ds p := hA0
  rw [Try.params6] at hA hval
  obtain ⟨v0, vs0, d0, ds0, p0, q0, hargs, rfl, rfl, h0, r0⟩ := trodAll_cons hA
  obtain ⟨v1, vs1, d1, ds1, p1, q1, rfl, rfl, rfl, h1, r1⟩ := trodAll_cons r0
  obtain ⟨v2, vs2, d2, ds2, p2, q2, rfl, rfl, rfl, h2, r2⟩ := trodAll_cons r1
  obtain ⟨rfl, rfl, rfl⟩ := trodAll_nil r2
  obtain rfl : args = #[v0, v1, v2] := by cases args; simp_all
  obtain ⟨rfl, rfl⟩ := trodVars_none hV
  obtain ⟨la, hacts⟩ := acts_in (hval 0 50 v0 rfl rfl) h0
  obtain ⟨lm, hactm⟩ := acts_in (hval 1 50 v1 rfl rfl) h1
  obtain ⟨d, rfl, rfl, rfl⟩ := open_bool Try.underlying4 (hval 2 4 v2 rfl rfl) h2
  have hyp : ActsV W v0 la ∧ ActsV W v1 lm := ⟨hacts, hactm⟩
  have main : Calls Try.prog 6 #[v0, v1, .bool d] W (BoolRes true W) := WtreeAdds_main hyp
  refine main.mono fun e W' ⟨he, hx⟩ => ?_
  subst he
  exact ⟨_, rfl, post_true (bt := 4) laid39 rfl (by kernel_rfl) Try.underlying4 (by kernel_rfl) rfl hW' hx⟩
set_option maxRecDepth 100000 in
theorem WtreeAdds_lifted (os : Os) (started : os.Started) (H : Type) (enc : TypeId × Value → H) :
    ReturnsInHanded {} Try.checked os 6 .any (Rows.wtreeAddsSpec.pre6 enc Try.prog Try.f6 Rows.wtreeAddsRow.domain false) (Rows.wtreeAddsSpec.post enc Try.prog Try.f6 false true false false) := by
  refine returnsInHanded_of_change (C := Try.checked) own39 started (by kernel_rfl) Try.func6
    (ChangeSpec.witness6 (enc := enc) (C := Try.checked) false ⟨#[], #[.slice none 0 0, .slice none 0 0, .bool false], []⟩ 8 (by kernel_rfl) (by kernel_rfl) (by kernel_rfl) (by kernel_rfl)) ?_
  intro W base args ds gs before hval0 hW hcnd _
  exact WtreeAdds_all enc W base args ds gs before hval0 hW
theorem WtreeAdds_holds : Rows.WtreeAddsSaid :=
  OpenClaim.holds_of_wide 6 Try.f6 rfl rfl rfl rfl rfl rfl rfl ⟨rfl, rfl, rfl, rfl, rfl⟩ rfl rfl rfl rfl rfl (by kernel_rfl) Try.func6 (by kernel_rfl)
    (of_decide_eq_true (by kernel_rfl)) (by unfold Func.isWrapper; first | (rw [if_pos (by decide +kernel)]; kernel_rfl) | (rw [if_neg (by decide +kernel)]; exact ⟨rfl, rfl⟩))
    (fun os started H enc _ => WtreeAdds_lifted os started H enc)
end Go.Proofs.Ytbbnpicddmplbaa

/- WtreeKeeps returns true for every input, and its arguments read afterwards as before. No condition. -/
import Derived.Test.YtbbnpicddmplbaaPut
import Derived.Test.YtbbnpicddmplbaaFdP
import Derived.Deep.DeepCutAuto
namespace Go.Proofs.Ytbbnpicddmplbaa
open Go.ChangeShapes Go.WideShapes Go.ChangeAt Go.RowKit
set_option linter.unusedVariables false
set_option linter.unusedSimpArgs false
variable {S : Nat → Prop}



theorem insL_front {d : Bool} {x : GV × Nat} {r : List (GV × Nat)} (h : Sorted d (x :: r)) : insL d x r = x :: r := by
  cases r with
  | nil => rfl
  | cons y r =>
    have h1 := (List.pairwise_cons.1 h).1 y (List.mem_cons_self ..)
    rw [insL, if_pos (by omega)]
theorem PlayOK.drop {d : Bool} {n : Nat} {l : List (GV × Nat)} (h : PlayOK d n l) (k : Nat) : PlayOK d n (l.drop k) :=
  ⟨List.Pairwise.sublist (List.drop_sublist k l) h.1, fun x hx => h.2.1 x (List.mem_of_mem_drop hx), by have := h.2.2.1; rw [List.length_drop]; omega, fun x hx => h.2.2.2 x (List.mem_of_mem_drop hx)⟩
def KeepRel (w : World) (g : Nat) (d : Bool) (l : List (GV × Nat)) (p : Option Addr) (t : T) (wr : World) : Prop :=
  Ext w wr ∧ Blk wr g [.bool d, .pointer p] 27 ∧ TreeV (fun b => b ≠ g) wr p t ∧ Avl t ∧ lst t = l
set_option maxHeartbeats 8000000 in
set_option maxRecDepth 100000 in
theorem WtreeKeeps_main {w : World} {lv mv : Value} {la lm : List GAct} {d : Bool} (hyp : ActsV w lv la ∧ ActsV w mv lm) : Calls Try.prog 9 #[lv, mv, .bool d] w (BoolRes true w) := by
  obtain ⟨hl, hm⟩ := hyp
  obtain ⟨a, cap, rfl, hrest⟩ := id hl
  obtain ⟨b, cbp, rfl, hb1, hb2, hb3, hb4, hb5⟩ := id hm
  have HL := Lib.hid hl
  have HM := Lib.hid (And.intro hm (And.intro hb4 hb5))
  clear hl hm hrest hb3 hb4 hb5
  go_enter Try.func9, Try.ntmps9
  go_wp2_with fail
  have hI := great_c HL.out
  with_reducible refine hI.mono ?_
  clear hI
  rintro e w1 ⟨rfl, hw1⟩
  cases hg : greatB la
  rotate_left
  · clear hg
    go_wp2_with fail
    with_reducible refine (awake_c (w := w1)).mono ?_
    rintro e w2 ⟨rfl, hw2⟩
    go_wp2_with fail
    go_ret
    exact ⟨rfl, hw1.trans hw2⟩
  have hlen := not_great hg
  clear hg
  go_wp2_with fail
  have hI := great_c (HM.out.1.ext hw1)
  with_reducible refine hI.mono ?_
  clear hI
  rintro e w2 ⟨rfl, hw2⟩
  have e2 := hw1.trans hw2
  cases hg : greatB lm
  rotate_left
  · clear hg
    go_wp2_with fail
    with_reducible refine (awake_c (w := w2)).mono ?_
    rintro e w3 ⟨rfl, hw3⟩
    go_wp2_with fail
    go_ret
    exact ⟨rfl, e2.trans hw3⟩
  have hlenm := not_great hg
  clear hg
  go_wp2_with fail
  have hI := played_c (S := fun _ => True) (Fresh.all w2) d (HL.out.ext e2) hlen
  with_reducible refine hI.mono ?_
  clear hI
  generalize playL d la = l
  rintro e w3 ⟨p, t, ma, mc, rfl, hw3, h1, h2, h3, h4, h5⟩
  have hS : Same (fun _ => True) d la.length l p t (.slice ma l.length mc) w3 := ⟨h1, h2, h3, h4, h5⟩
  clear h1 h2 h3 h4 h5
  have hf := hS.facts (by omega)
  have e4 := Ext.alloc w3 (.cells #[.bool d, .pointer p] 27)
  have hb4 := Blk.new w3 [.bool d, .pointer p] 27
  have HS := Lib.hid (And.intro (hS.ext e4) (And.intro hf ((e2.trans hw3).trans e4)))
  clear hS hf
  go_wp2_with fail
  generalize w3.alloc (.cells #[.bool d, .pointer p] 27) = w4 at e4 hb4 HS ⊢
  have HB : Hid (tot t < bigN ∧ sz t ≤ 1000) := by rw [Hid, HS.out.2.1.2.1, HS.out.2.1.1]; exact ⟨bigN_gt' (by have := HS.out.2.1.2.2.2; omega), HS.out.2.1.2.2.1⟩
  obtain ⟨q0, q1⟩ := boxT hb4
  clear e4 hb4 e2 hw1 hw2 hw3
  go_loopw [10] (fun i wr => ∃ k : Nat, k ≤ lm.length ∧ i = .int .i64 k ∧ Hid (Ext w4 wr)) (fun i _ => lm.length - (intOf i).toNat)
  case atStart => exact ⟨0, Nat.zero_le _, rfl, Ext.refl _⟩
  case round =>
    obtain ⟨k, hk, rfl, HR⟩ := hrel
    have er := HR.out
    by_cases hkl : k < lm.length
    · have hx : lm[k]? = some lm[k] := List.getElem?_eq_getElem hkl
      obtain ⟨b1, o1, rfl, -, y0, y1, y2, y3, y4⟩ := row_act (HM.out.2.1.ext HS.out.2.2) hx
      have hmem := HM.out.2.2 lm[k] (List.getElem_mem _)
      generalize lm[k] = x at *
      obtain ⟨xq, ⟨xk, xn, xs⟩, xw⟩ := x
      simp only at *
      obtain ⟨hq, hxw, -⟩ := hmem
      clear hx
      have Ewr := Lib.hid er
      have hxc : IntKind.u64.wrap (xw : Int) = (xw : Int) := by simp [IntKind.wrap, IntKind.signed, IntKind.bits]; omega
      go_wp2_with fail
      refine wp_region_mixE 8 [(0, 0), (1, 3), (2, 3), (3, 3), (4, 3), (5, 0), (6, 1)] (by kernel_rfl) (fun _ _ d _ _ h => by cases d <;> exact h) ?_
      intro w11 hw11
      simp only [List.map_cons, List.map_nil, mixPick_lt _ _ 0 rfl, mixPick_lt _ _ 1 rfl, mixPick_lt _ _ 2 rfl, mixPick_lt _ _ 3 rfl, mixPick_fork, List.getD_cons_zero, List.getD_cons_succ]
      generalize yielded _ = y
      have Ew11 := Lib.hid (Ewr.out.trans hw11)
      have tew11 := fun W (h : Ext w11 W) => Ew11.out.trans h
      repeat (first | (refine mx_pu (v := ?_) rfl (fun W => ?_) ?_; rotate_left; (focus (go_simp <;> with_reducible rfl)); simp only [Act.put, List.setIfInBounds_toArray, List.set_cons_zero, List.set_cons_succ]) | (refine mx_st (v := ?_) rfl (fun W hW => ?_) ?_; rotate_left; (focus (go_simp <;> with_reducible rfl)); simp only [Act.put, List.setIfInBounds_toArray, List.set_cons_zero, List.set_cons_succ]))
      refine mx_call (f := ?_) (args := ?_) rfl ?_ ?_
      rotate_left 2
      focus (go_simp <;> (refine ⟨?_, ?_⟩ <;> with_reducible rfl))
      have hI := Delete_c (Fresh.all w11) d p ⟨xk, xn, xs⟩ (HS.out.1.1.ext Ew11.out) HS.out.1.2.1 (by rw [HS.out.1.2.2.1]; exact HS.out.1.2.2.2.2.1) (by have := HB.out.2; omega) HB.out.1
      with_reducible refine hI.mono ?_
      clear hI
      rintro e w12 ⟨p12, t12, rfl, hw12, -, -, -⟩
      refine ⟨_, rfl, hw12, ?_⟩
      simp only [Act.put, List.setIfInBounds_toArray, List.set_cons_zero, List.set_cons_succ]
      repeat (first | (refine mx_pu (v := ?_) rfl (fun W => ?_) ?_; rotate_left; (focus (go_simp <;> with_reducible rfl)); simp only [Act.put, List.setIfInBounds_toArray, List.set_cons_zero, List.set_cons_succ]) | (refine mx_st (v := ?_) rfl (fun W hW => ?_) ?_; rotate_left; (focus (go_simp <;> with_reducible rfl)); simp only [Act.put, List.setIfInBounds_toArray, List.set_cons_zero, List.set_cons_succ]))
      refine mx_nil ?_
      have e12 := Ew11.out.trans hw12
      have Ew12 := Lib.hid e12
      clear tew11
      go_wp2_with fail
      refine wp_region_mixE 15 [(0, 0), (1, 3), (2, 3), (3, 3), (4, 3), (5, 0), (6, 3), (7, 3), (8, 3), (9, 3), (10, 0), (11, 3), (12, 1), (13, 1)] (by kernel_rfl) (fun _ _ d _ _ h => by cases d <;> exact h) ?_
      intro w13 hw13
      simp only [List.map_cons, List.map_nil, mixPick_lt _ _ 0 rfl, mixPick_lt _ _ 1 rfl, mixPick_lt _ _ 2 rfl, mixPick_lt _ _ 3 rfl, mixPick_fork, List.getD_cons_zero, List.getD_cons_succ]
      generalize yielded _ = y
      have Ew13 := Lib.hid (Ew12.out.trans hw13)
      have tew13 := fun W (h : Ext w13 W) => Ew13.out.trans h
      repeat (first | (refine mx_pu (v := ?_) rfl (fun W => ?_) ?_; rotate_left; (focus (go_simp <;> with_reducible rfl)); simp only [Act.put, List.setIfInBounds_toArray, List.set_cons_zero, List.set_cons_succ]) | (refine mx_st (v := ?_) rfl (fun W hW => ?_) ?_; rotate_left; (focus (go_simp <;> with_reducible rfl)); simp only [Act.put, List.setIfInBounds_toArray, List.set_cons_zero, List.set_cons_succ]))
      refine mx_call (f := ?_) (args := ?_) rfl ?_ ?_
      rotate_left 2
      focus (go_simp <;> (refine ⟨?_, ?_⟩ <;> with_reducible rfl))
      have hI := of_nat' (S := fun _ => True) (Fresh.all w13) (xw : Nat) xw rfl (by omega)
      with_reducible refine hI.mono ?_
      clear hI
      rintro e w15 ⟨v15, rfl, hw15, l15, d15, n15, e15⟩
      obtain ⟨a15, c15, rfl, -⟩ := id d15
      refine ⟨_, rfl, hw15, ?_⟩
      simp only [Act.put, List.setIfInBounds_toArray, List.set_cons_zero, List.set_cons_succ]
      have Fw15 := Lib.hid (Ew13.out.trans hw15)
      clear tew13 hxc
      repeat (first | (refine mx_pu (v := ?_) rfl (fun W => ?_) ?_; rotate_left; (focus (go_simp <;> with_reducible rfl)); simp only [Act.put, List.setIfInBounds_toArray, List.set_cons_zero, List.set_cons_succ]) | (refine mx_st (v := ?_) rfl (fun W hW => ?_) ?_; rotate_left; (focus (go_simp <;> with_reducible rfl)); simp only [Act.put, List.setIfInBounds_toArray, List.set_cons_zero, List.set_cons_succ]))
      refine mx_call (f := ?_) (args := ?_) rfl ?_ ?_
      rotate_left 2
      focus (go_simp <;> (refine ⟨?_, ?_⟩ <;> with_reducible rfl))
      have hle15 : l15.length ≤ 35184372088832 := by have := bigK_le (n15.length_of_lt (by rw [e15]; exact bigN_gt' (by omega))); omega
      by_cases hv : (⟨xk, xn, xs⟩ : GV).valid = true
      · by_cases hw0 : xw = 0
        · have hI := Put_zero (Fresh.all w15) d p ⟨xk, xn, xs⟩ (.slice a15 l15.length c15) d15 hle15 hv (by rw [e15]; exact hw0)
          clear d15 n15 e15 hle15
          refine Calls.mono (hI.mono fun e W' (h : _ ∧ Ext w15 W') => (⟨h.2, _, h.1⟩ : Ext w15 W' ∧ ∃ v, e = .returned v)) ?_
          rintro e w16 hP
          obtain ⟨hw16, v16, rfl⟩ : Ext w15 w16 ∧ ∃ v, e = .returned v := hP
          refine ⟨_, rfl, hw16, ?_⟩
          simp only [Act.put, List.setIfInBounds_toArray, List.set_cons_zero, List.set_cons_succ]
          refine mx_nil ?_
          have HE := Lib.hid ((Fw15.out).trans hw16)
          go_wp2_with fail
          go_roundw
          case rel => exact ⟨k + 1, by omega, by go_num, HE⟩
          case measure => simp [intOf]; omega
        · have hI := Put_ok (Fresh.all w15) d p ⟨xk, xn, xs⟩ (.slice a15 l15.length c15) (HS.out.1.1.ext Fw15.out) HS.out.1.2.1 (by rw [HS.out.1.2.2.1]; exact HS.out.1.2.2.2.2.1) (by have := HB.out.2; omega) (by rw [e15, HS.out.2.1.2.1]; exact bigN_gt' (by have := HS.out.2.1.2.2.2; omega)) d15 hle15 hv (by rw [e15]; omega)
          clear d15 n15 e15 hle15
          refine Calls.mono (hI.mono fun e W' h => (⟨h.choose_spec.choose_spec.2.1, _, h.choose_spec.choose_spec.1⟩ : Ext w15 W' ∧ ∃ v, e = .returned v)) ?_
          rintro e w16 hP
          obtain ⟨hw16, v16, rfl⟩ : Ext w15 w16 ∧ ∃ v, e = .returned v := hP
          refine ⟨_, rfl, hw16, ?_⟩
          simp only [Act.put, List.setIfInBounds_toArray, List.set_cons_zero, List.set_cons_succ]
          refine mx_nil ?_
          have HE := Lib.hid ((Fw15.out).trans hw16)
          go_wp2_with fail
          go_roundw
          case rel => exact ⟨k + 1, by omega, by go_num, HE⟩
          case measure => simp [intOf]; omega
      · have hI := Put_inv (w := w15) d p ⟨xk, xn, xs⟩ (.slice a15 l15.length c15) (by simpa using hv)
        clear d15 n15 e15 hle15
        refine Calls.mono (hI.mono fun e W' (h : _ ∧ Ext w15 W') => (⟨h.2, _, h.1⟩ : Ext w15 W' ∧ ∃ v, e = .returned v)) ?_
        rintro e w16 hP
        obtain ⟨hw16, v16, rfl⟩ : Ext w15 w16 ∧ ∃ v, e = .returned v := hP
        refine ⟨_, rfl, hw16, ?_⟩
        simp only [Act.put, List.setIfInBounds_toArray, List.set_cons_zero, List.set_cons_succ]
        refine mx_nil ?_
        have HE := Lib.hid ((Fw15.out).trans hw16)
        go_wp2_with fail
        go_roundw
        case rel => exact ⟨k + 1, by omega, by go_num, HE⟩
        case measure => simp [intOf]; omega
    · obtain rfl : k = lm.length := by omega
      go_wp2_with fail
      have hI := tells_c (S := fun _ => True) (Fresh.all wr) d (HS.out.1.ext er) (by omega)
      with_reducible refine hI.mono ?_
      clear hI
      rintro e w5 ⟨rfl, hw5⟩
      have e5 := er.trans hw5
      go_wp2_with fail
      with_reducible refine (New_c d).mono ?_
      rintro e w6 ⟨rfl, hw6⟩
      have e7 := Ext.alloc w6 (.cells #[.bool d, .pointer none] 27)
      have hb7 := Blk.new w6 [.bool d, .pointer none] 27
      have e67 := (e5.trans hw6).trans e7
      have hlo : w4.heap.size ≤ w6.heap.size := (e5.trans hw6).size
      obtain ⟨ma', mc', hmv, hmc1, hmc2, hmc3, hmrow⟩ := id HS.out.1.2.2.2.1
      obtain ⟨rfl, rfl⟩ : ma = ma' ∧ mc = mc' := by cases hmv; exact ⟨rfl, rfl⟩
      have HW := Lib.hid hmrow
      have hl1000 := HS.out.2.1.2.2.1
      clear hmv hmc3 hmrow
      go_wp2_with fail
      generalize w6.alloc (.cells #[.bool d, .pointer none] 27) = w7 at e7 hb7 e67 ⊢
      generalize w6.heap.size = g at *
      have HS7 := Lib.hid (And.intro e67 hb7)
      clear e67 hb7 e7 hw6 e5 hw5 er HR q0 q1
      go_loopw [12] (fun i wq => ∃ (k : Nat) (p : Option Addr) (t : T), k ≤ l.length ∧ i = .int .i64 ((k : Int) - 1) ∧ Hid (KeepRel w4 g d (l.drop k) p t wq)) (fun i _ => (intOf i + 1).toNat)
      case atStart => exact ⟨l.length, none, .nil, Nat.le_refl _, rfl, HS7.out.1, HS7.out.2, TreeV.nil _, trivial, by rw [List.drop_length]; rfl⟩
      case round =>
        obtain ⟨k, p2, t2, hk, rfl, HQ⟩ := hrel
        clear HS7
        have eq := HQ.out.1
        have hok := HS.out.1.2.2.2.2.drop k
        have hsz : sz t2 ≤ 1000 := by rw [← sz_lst, HQ.out.2.2.2.2, List.length_drop]; omega
        have hto : tot t2 ≤ 4294967296000 := by rw [← tot_lst, HQ.out.2.2.2.2]; exact hok.sum (by omega)
        by_cases h0 : 0 < k
        · obtain ⟨j, rfl⟩ : ∃ j, k = j + 1 := ⟨k - 1, by omega⟩
          have hx : l[j]? = some l[j] := List.getElem?_eq_getElem (by omega)
          obtain ⟨b1, o1, hbb, y0, y1, y2, y3⟩ := row_item HW.out hx
          have hdr := drop_item l hx
          have hgd := HS.out.1.2.2.2.2.2.1 l[j] (List.getElem_mem _)
          have hwt := HS.out.1.2.2.2.2.2.2.2 l[j] (List.getElem_mem _)
          have hsd := (HS.out.1.2.2.2.2.drop j).1
          rw [hdr] at hsd
          have hjl : j < l.length := by omega
          cases hbb
          generalize l[j] = x at *
          obtain ⟨⟨xk, xn, xs⟩, xw⟩ := x
          simp only at hgd hwt
          have HD := Lib.hid (And.intro hdr (And.intro hsd (And.intro hsz hto)))
          have ej : ((j + 1 : Nat) : Int) - 1 = (j : Int) := by omega
          rw [ej]
          clear hx hdr hsd ej hsz hto
          obtain ⟨q0, q1⟩ := boxT HQ.out.2.1
          have hgr := HQ.out.2.1.lt
          have hrr := Ext.refl wr
          go_upto_region 17 with fail
          have PP : Hid (PutPre (fun b => b ≠ g) d p2 t2 ⟨xk, xn, xs⟩ xw wr) := ⟨HQ.out.2.2.1, HQ.out.2.2.2.1, by rw [HQ.out.2.2.2.2]; exact hok.1, by have := HD.out.2.2.1; omega, by have := HD.out.2.2.2; omega, hgd.1, hgd.2, by omega, Fresh.ne hgr⟩
          have y0' : ∀ W, Ext wr W → W.cell? ⟨b1, o1 + j * 4, none⟩ = some (.int .i64 xk) := fun W h => y0 W (eq.trans h)
          have y1' : ∀ W, Ext wr W → W.cell? ⟨b1, o1 + j * 4 + 1, none⟩ = some (.int .i64 xn) := fun W h => y1 W (eq.trans h)
          have y2' : ∀ W, Ext wr W → W.cell? ⟨b1, o1 + j * 4 + 2, none⟩ = some (.string xs) := fun W h => y2 W (eq.trans h)
          have y3' : ∀ W, Ext wr W → W.cell? ⟨b1, o1 + j * 4 + 3, none⟩ = some (.int .u64 (xw : Nat)) := fun W h => y3 W (eq.trans h)
          clear y0 y1 y2 y3
          generalize hSB : (fun b => b ≠ g) = SB at PP
          have HSB := Lib.hid hSB
          clear hSB hok
          go_cut [13, 14] (fun s11 s12 wx => ∃ (gx : Nat) (p5 : Option Addr) (t5 : T), s11 = .pointer (some ⟨gx, 0, none⟩) ∧ s12 = .int .i64 0 ∧ Hid (PutPost SB d t2 ⟨xk, xn, xs⟩ xw wr gx p5 t5 wx))
          case first =>
            obtain ⟨wb, rfl⟩ : ∃ wb : World, wb = wr := ⟨_, rfl⟩
            obtain ⟨pp, rfl⟩ : ∃ pp : Option Addr, pp = p2 := ⟨_, rfl⟩
            obtain ⟨tt, rfl⟩ : ∃ tt : T, tt = t2 := ⟨_, rfl⟩
            have Ewb := Lib.hid (Ext.refl wb)
            refine wp_region_mixE 37 [(0, 0), (1, 3), (2, 3), (3, 3), (4, 3), (5, 0), (6, 3), (7, 3), (8, 3), (9, 3), (10, 0), (16, 4), (11, 1), (7, 4), (12, 1), (13, 3), (14, 3), (15, 3), (16, 1), (17, 2), (18, 3), (16, 1), (12, 1), (13, 3), (14, 3), (15, 3), (17, 2), (18, 3), (16, 1), (11, 1), (12, 1), (13, 3), (14, 3), (15, 3), (17, 2), (18, 3)] (by kernel_rfl) (fun _ _ d _ _ h => by cases d <;> exact h) ?_
            intro w6 hw6
            simp only [List.map_cons, List.map_nil, mixPick_lt _ _ 0 rfl, mixPick_lt _ _ 1 rfl, mixPick_lt _ _ 2 rfl, mixPick_lt _ _ 3 rfl, mixPick_fork, List.getD_cons_zero, List.getD_cons_succ]
            generalize yielded _ = y
            have Ew6 := Lib.hid (Ewb.out.trans hw6)
            have tew6 := fun W (h : Ext w6 W) => Ew6.out.trans h
            have hz6 := hw6.size
            repeat (first | (refine mx_pu (v := ?_) rfl (fun W => ?_) ?_; rotate_left; (focus (go_simp <;> with_reducible rfl)); simp only [Act.put, List.setIfInBounds_toArray, List.set_cons_zero, List.set_cons_succ]) | (refine mx_st (v := ?_) rfl (fun W hW => ?_) ?_; rotate_left; (focus (go_simp <;> with_reducible rfl)); simp only [Act.put, List.setIfInBounds_toArray, List.set_cons_zero, List.set_cons_succ]))
            refine mx_two ?_ ?_
            · simp only [List.take_succ_cons, List.take_zero]
              refine mx_call (f := ?_) (args := ?_) rfl ?_ ?_
              rotate_left 2
              focus (go_simp <;> (refine ⟨?_, ?_⟩ <;> with_reducible rfl))
              have hI := of_nat' (S := SB) (w := w6) (PP.out.2.2.2.2.2.2.2.2.ext Ew6.out) ((xw : Nat)) (xw) rfl (by omega)
              with_reducible refine hI.mono ?_
              clear hI
              rintro e' w7 ⟨v4, rfl, hw7, l4, d4, n4, e4⟩
              obtain ⟨a4, c4, rfl, -⟩ := id d4
              refine ⟨_, rfl, hw7, ?_⟩
              simp only [Act.put, List.setIfInBounds_toArray, List.set_cons_zero, List.set_cons_succ]
              have Ew7 := Lib.hid (Ew6.out.trans hw7)
              have tew7 := fun W (h : Ext w7 W) => Ew7.out.trans h
              clear tew6
              have hz7 := hw7.size
              have D4 := Lib.hid (And.intro d4 (And.intro n4 e4))
              clear d4 n4 e4
              repeat (first | (refine mx_pu (v := ?_) rfl (fun W => ?_) ?_; rotate_left; (focus (go_simp <;> with_reducible rfl)); simp only [Act.put, List.setIfInBounds_toArray, List.set_cons_zero, List.set_cons_succ]) | (refine mx_st (v := ?_) rfl (fun W hW => ?_) ?_; rotate_left; (focus (go_simp <;> with_reducible rfl)); simp only [Act.put, List.setIfInBounds_toArray, List.set_cons_zero, List.set_cons_succ]))
              refine mx_two ?_ ?_
              · simp only [List.take_succ_cons, List.take_zero]
                refine mx_call (f := ?_) (args := ?_) rfl ?_ ?_
                rotate_left 2
                focus (go_simp <;> (refine ⟨?_, ?_⟩ <;> with_reducible rfl))
                have hI := Put_ok (S := SB) (w := w7) (PP.out.2.2.2.2.2.2.2.2.ext Ew7.out) d pp ⟨xk, xn, xs⟩ (.slice a4 l4.length c4) (t := tt) ((PP.out.1.old.mono (S' := SB) (fun b h => h.1)).ext Ew7.out) PP.out.2.1 PP.out.2.2.1 (by have := PP.out.2.2.2.1; omega) (by rw [D4.out.2.2]; exact bigN_gt' (by have := PP.out.2.2.2.2.1; have := PP.out.2.2.2.2.2.2.2.1; omega)) (D4.out.1) (by have := bigK_le (D4.out.2.1.length_of_lt (by rw [D4.out.2.2]; exact bigN_gt' (by have := PP.out.2.2.2.2.2.2.2.1; omega))); omega) PP.out.2.2.2.2.2.1 (by rw [D4.out.2.2]; exact PP.out.2.2.2.2.2.2.1)
                rw [D4.out.2.2] at hI
                with_reducible refine hI.mono ?_
                clear hI
                rintro e' w8 ⟨p5, t5, rfl, hw8, ht5, hl5, ha5⟩
                refine ⟨_, rfl, hw8, ?_⟩
                have H5 := Lib.hid (And.intro ht5 (And.intro hl5 ha5))
                clear ht5 hl5 ha5
                simp only [Act.put, List.setIfInBounds_toArray, List.set_cons_zero, List.set_cons_succ]
                have Ew8 := Lib.hid (Ew7.out.trans hw8)
                have tew8 := fun W (h : Ext w8 W) => Ew8.out.trans h
                clear tew7
                have hz8 := hw8.size
                repeat (first | (refine mx_pu (v := ?_) rfl (fun W => ?_) ?_; rotate_left; (focus (go_simp <;> with_reducible rfl)); simp only [Act.put, List.setIfInBounds_toArray, List.set_cons_zero, List.set_cons_succ]) | (refine mx_st (v := ?_) rfl (fun W hW => ?_) ?_; rotate_left; (focus (go_simp <;> with_reducible rfl)); simp only [Act.put, List.setIfInBounds_toArray, List.set_cons_zero, List.set_cons_succ]))
                refine mx_al (v := ?_) (cs := ?_) (t := ?_) rfl ?_ (fun _ h => h) ?_
                rotate_left 3
                focus (go_simp <;> (first | with_reducible rfl | (refine ⟨?_, ?_⟩ <;> with_reducible rfl)))
                intro w9 hw9 hb0
                simp only [Act.put, List.setIfInBounds_toArray, List.set_cons_zero, List.set_cons_succ]
                have Ew9 := Lib.hid (Ew8.out.trans hw9)
                have tew9 := fun W (h : Ext w9 W) => Ew9.out.trans h
                clear tew8
                have hbl : Blk w9 w8.heap.size [.bool false, .pointer none] 27 := hb0
                clear hb0
                have hgb : w8.heap.size < w9.heap.size := hbl.lt
                have hgl : wb.heap.size ≤ w8.heap.size := Ew8.out.size
                generalize hgbe : w8.heap.size = gx at *
                have HGB := Lib.hid hgbe
                clear hgbe
                repeat (first | (refine mx_pu (v := ?_) rfl (fun W => ?_) ?_; rotate_left; (focus (go_simp <;> with_reducible rfl)); simp only [Act.put, List.setIfInBounds_toArray, List.set_cons_zero, List.set_cons_succ]) | (refine mx_st (v := ?_) rfl (fun W hW => ?_) ?_; rotate_left; (focus (go_simp <;> with_reducible rfl)); simp only [Act.put, List.setIfInBounds_toArray, List.set_cons_zero, List.set_cons_succ]))
                have HBL := Lib.hid hbl
                have r0 := hbl.freeF 0
                have r1 := hbl.freeF 1
                obtain ⟨z0, z1⟩ := boxT hbl
                have er9 := Ext.refl w9
                clear hbl
                refine mx_ts (w' := ?_) rfl ?_ ?_
                rotate_left
                focus (go_simp <;> with_reducible rfl)
                have hk := HBL.out.set2 (a := .bool d) (b := .pointer p5)
                have hbt := ExtBut.set2 w9 gx (.bool d) (.pointer p5)
                generalize (World.setCell w9 ⟨gx, 0, none⟩ (.bool d)).setCell ⟨gx, 1, none⟩ (.pointer p5) = w10 at hk hbt ⊢
                have HX : Hid (PutPost SB d tt ⟨xk, xn, xs⟩ (xw) wb gx p5 t5 w10) := ⟨hbt.ext Ew9.out (fun b h => by subst h; exact hgl), hk, (((H5.out.1.old.mono (S' := fun b => SB b ∧ b ≠ gx) (fun b h => ⟨h.1, by have := h.2; have := HGB.out; omega⟩)).ext hw9).but (fun b h => h.2) hbt).mono (fun b h => h.1), H5.out.2.2, H5.out.2.1, hgl⟩
                clear hk hbt r0 r1 z0 z1 er9
                simp only [Act.put, List.setIfInBounds_toArray, List.set_cons_zero, List.set_cons_succ]
                repeat (first | (refine mx_pu (v := ?_) rfl (fun W => ?_) ?_; rotate_left; (focus (go_simp <;> with_reducible rfl)); simp only [Act.put, List.setIfInBounds_toArray, List.set_cons_zero, List.set_cons_succ]) | (refine mx_st (v := ?_) rfl (fun W hW => ?_) ?_; rotate_left; (focus (go_simp <;> with_reducible rfl)); simp only [Act.put, List.setIfInBounds_toArray, List.set_cons_zero, List.set_cons_succ]))
                refine mx_nil ?_
                go_wp2_with fail
                go_meet
                exact ⟨gx, p5, t5, rfl, rfl, HX⟩
              · simp only [List.drop_succ_cons, List.drop_zero]
                refine mx_al (v := ?_) (cs := ?_) (t := ?_) rfl ?_ (fun _ h => h) ?_
                rotate_left 3
                focus (go_simp <;> (first | with_reducible rfl | (refine ⟨?_, ?_⟩ <;> with_reducible rfl)))
                intro w8 hw8 hb0
                simp only [Act.put, List.setIfInBounds_toArray, List.set_cons_zero, List.set_cons_succ]
                have Ew8 := Lib.hid (Ew7.out.trans hw8)
                have tew8 := fun W (h : Ext w8 W) => Ew8.out.trans h
                clear tew7
                have hbl : Blk w8 w7.heap.size [.bool false, .pointer none] 27 := hb0
                clear hb0
                have hgb : w7.heap.size < w8.heap.size := hbl.lt
                have hgl : wb.heap.size ≤ w7.heap.size := Ew7.out.size
                generalize hgbe : w7.heap.size = gx at *
                have HGB := Lib.hid hgbe
                clear hgbe
                repeat (first | (refine mx_pu (v := ?_) rfl (fun W => ?_) ?_; rotate_left; (focus (go_simp <;> with_reducible rfl)); simp only [Act.put, List.setIfInBounds_toArray, List.set_cons_zero, List.set_cons_succ]) | (refine mx_st (v := ?_) rfl (fun W hW => ?_) ?_; rotate_left; (focus (go_simp <;> with_reducible rfl)); simp only [Act.put, List.setIfInBounds_toArray, List.set_cons_zero, List.set_cons_succ]))
                refine mx_call (f := ?_) (args := ?_) rfl ?_ ?_
                rotate_left 2
                focus (go_simp <;> (refine ⟨?_, ?_⟩ <;> with_reducible rfl))
                have hI := Put_ok (S := fun b => SB b ∧ b ≠ gx) (w := w8) (fun b hb => ⟨PP.out.2.2.2.2.2.2.2.2.ext Ew8.out b hb, by omega⟩) d pp ⟨xk, xn, xs⟩ (.slice a4 l4.length c4) (t := tt) ((PP.out.1.old.mono (S' := fun b => SB b ∧ b ≠ gx) (fun b h => ⟨h.1, by have := h.2; omega⟩)).ext Ew8.out) PP.out.2.1 PP.out.2.2.1 (by have := PP.out.2.2.2.1; omega) (by rw [D4.out.2.2]; exact bigN_gt' (by have := PP.out.2.2.2.2.1; have := PP.out.2.2.2.2.2.2.2.1; omega)) ((D4.out.1.old.mono (fun b h => ⟨h.1, by have := h.2; have := HGB.out; omega⟩)).ext hw8) (by have := bigK_le (D4.out.2.1.length_of_lt (by rw [D4.out.2.2]; exact bigN_gt' (by have := PP.out.2.2.2.2.2.2.2.1; omega))); omega) PP.out.2.2.2.2.2.1 (by rw [D4.out.2.2]; exact PP.out.2.2.2.2.2.2.1)
                rw [D4.out.2.2] at hI
                with_reducible refine hI.mono ?_
                clear hI
                rintro e' w9 ⟨p5, t5, rfl, hw9, ht5, hl5, ha5⟩
                refine ⟨_, rfl, hw9, ?_⟩
                have H5 := Lib.hid (And.intro ht5 (And.intro hl5 ha5))
                clear ht5 hl5 ha5
                simp only [Act.put, List.setIfInBounds_toArray, List.set_cons_zero, List.set_cons_succ]
                have Ew9 := Lib.hid (Ew8.out.trans hw9)
                have tew9 := fun W (h : Ext w9 W) => Ew9.out.trans h
                clear tew8
                have hz9 := hw9.size
                repeat (first | (refine mx_pu (v := ?_) rfl (fun W => ?_) ?_; rotate_left; (focus (go_simp <;> with_reducible rfl)); simp only [Act.put, List.setIfInBounds_toArray, List.set_cons_zero, List.set_cons_succ]) | (refine mx_st (v := ?_) rfl (fun W hW => ?_) ?_; rotate_left; (focus (go_simp <;> with_reducible rfl)); simp only [Act.put, List.setIfInBounds_toArray, List.set_cons_zero, List.set_cons_succ]))
                have hbl := hbl.ext hw9
                have HBL := Lib.hid hbl
                have r0 := hbl.freeF 0
                have r1 := hbl.freeF 1
                obtain ⟨z0, z1⟩ := boxT hbl
                have er9 := Ext.refl w9
                clear hbl
                refine mx_ts (w' := ?_) rfl ?_ ?_
                rotate_left
                focus (go_simp <;> with_reducible rfl)
                have hk := HBL.out.set2 (a := .bool d) (b := .pointer p5)
                have hbt := ExtBut.set2 w9 gx (.bool d) (.pointer p5)
                generalize (World.setCell w9 ⟨gx, 0, none⟩ (.bool d)).setCell ⟨gx, 1, none⟩ (.pointer p5) = w10 at hk hbt ⊢
                have HX : Hid (PutPost SB d tt ⟨xk, xn, xs⟩ (xw) wb gx p5 t5 w10) := ⟨hbt.ext Ew9.out (fun b h => by subst h; exact hgl), hk, ((H5.out.1).but (fun b h => h.2) hbt).mono (fun b h => h.1), H5.out.2.2, H5.out.2.1, hgl⟩
                clear hk hbt r0 r1 z0 z1 er9
                simp only [Act.put, List.setIfInBounds_toArray, List.set_cons_zero, List.set_cons_succ]
                repeat (first | (refine mx_pu (v := ?_) rfl (fun W => ?_) ?_; rotate_left; (focus (go_simp <;> with_reducible rfl)); simp only [Act.put, List.setIfInBounds_toArray, List.set_cons_zero, List.set_cons_succ]) | (refine mx_st (v := ?_) rfl (fun W hW => ?_) ?_; rotate_left; (focus (go_simp <;> with_reducible rfl)); simp only [Act.put, List.setIfInBounds_toArray, List.set_cons_zero, List.set_cons_succ]))
                refine mx_nil ?_
                go_wp2_with fail
                go_meet
                exact ⟨gx, p5, t5, rfl, rfl, HX⟩
            · simp only [List.drop_succ_cons, List.drop_zero]
              refine mx_al (v := ?_) (cs := ?_) (t := ?_) rfl ?_ (fun _ h => h) ?_
              rotate_left 3
              focus (go_simp <;> (first | with_reducible rfl | (refine ⟨?_, ?_⟩ <;> with_reducible rfl)))
              intro w7 hw7 hb0
              simp only [Act.put, List.setIfInBounds_toArray, List.set_cons_zero, List.set_cons_succ]
              have Ew7 := Lib.hid (Ew6.out.trans hw7)
              have tew7 := fun W (h : Ext w7 W) => Ew7.out.trans h
              clear tew6
              have hbl : Blk w7 w6.heap.size [.bool false, .pointer none] 27 := hb0
              clear hb0
              have hgb : w6.heap.size < w7.heap.size := hbl.lt
              have hgl : wb.heap.size ≤ w6.heap.size := Ew6.out.size
              generalize hgbe : w6.heap.size = gx at *
              have HGB := Lib.hid hgbe
              clear hgbe
              repeat (first | (refine mx_pu (v := ?_) rfl (fun W => ?_) ?_; rotate_left; (focus (go_simp <;> with_reducible rfl)); simp only [Act.put, List.setIfInBounds_toArray, List.set_cons_zero, List.set_cons_succ]) | (refine mx_st (v := ?_) rfl (fun W hW => ?_) ?_; rotate_left; (focus (go_simp <;> with_reducible rfl)); simp only [Act.put, List.setIfInBounds_toArray, List.set_cons_zero, List.set_cons_succ]))
              refine mx_call (f := ?_) (args := ?_) rfl ?_ ?_
              rotate_left 2
              focus (go_simp <;> (refine ⟨?_, ?_⟩ <;> with_reducible rfl))
              have hI := of_nat' (S := fun b => SB b ∧ b ≠ gx) (w := w7) (fun b hb => ⟨PP.out.2.2.2.2.2.2.2.2.ext Ew7.out b hb, by omega⟩) ((xw : Nat)) (xw) rfl (by omega)
              with_reducible refine hI.mono ?_
              clear hI
              rintro e' w8 ⟨v4, rfl, hw8, l4, d4, n4, e4⟩
              obtain ⟨a4, c4, rfl, -⟩ := id d4
              refine ⟨_, rfl, hw8, ?_⟩
              simp only [Act.put, List.setIfInBounds_toArray, List.set_cons_zero, List.set_cons_succ]
              have Ew8 := Lib.hid (Ew7.out.trans hw8)
              have tew8 := fun W (h : Ext w8 W) => Ew8.out.trans h
              clear tew7
              have hz8 := hw8.size
              have D4 := Lib.hid (And.intro d4 (And.intro n4 e4))
              clear d4 n4 e4
              repeat (first | (refine mx_pu (v := ?_) rfl (fun W => ?_) ?_; rotate_left; (focus (go_simp <;> with_reducible rfl)); simp only [Act.put, List.setIfInBounds_toArray, List.set_cons_zero, List.set_cons_succ]) | (refine mx_st (v := ?_) rfl (fun W hW => ?_) ?_; rotate_left; (focus (go_simp <;> with_reducible rfl)); simp only [Act.put, List.setIfInBounds_toArray, List.set_cons_zero, List.set_cons_succ]))
              refine mx_call (f := ?_) (args := ?_) rfl ?_ ?_
              rotate_left 2
              focus (go_simp <;> (refine ⟨?_, ?_⟩ <;> with_reducible rfl))
              have hI := Put_ok (S := fun b => SB b ∧ b ≠ gx) (w := w8) (fun b hb => ⟨PP.out.2.2.2.2.2.2.2.2.ext Ew8.out b hb, by omega⟩) d pp ⟨xk, xn, xs⟩ (.slice a4 l4.length c4) (t := tt) ((PP.out.1.old.mono (S' := fun b => SB b ∧ b ≠ gx) (fun b h => ⟨h.1, by have := h.2; omega⟩)).ext Ew8.out) PP.out.2.1 PP.out.2.2.1 (by have := PP.out.2.2.2.1; omega) (by rw [D4.out.2.2]; exact bigN_gt' (by have := PP.out.2.2.2.2.1; have := PP.out.2.2.2.2.2.2.2.1; omega)) (D4.out.1) (by have := bigK_le (D4.out.2.1.length_of_lt (by rw [D4.out.2.2]; exact bigN_gt' (by have := PP.out.2.2.2.2.2.2.2.1; omega))); omega) PP.out.2.2.2.2.2.1 (by rw [D4.out.2.2]; exact PP.out.2.2.2.2.2.2.1)
              rw [D4.out.2.2] at hI
              with_reducible refine hI.mono ?_
              clear hI
              rintro e' w9 ⟨p5, t5, rfl, hw9, ht5, hl5, ha5⟩
              refine ⟨_, rfl, hw9, ?_⟩
              have H5 := Lib.hid (And.intro ht5 (And.intro hl5 ha5))
              clear ht5 hl5 ha5
              simp only [Act.put, List.setIfInBounds_toArray, List.set_cons_zero, List.set_cons_succ]
              have Ew9 := Lib.hid (Ew8.out.trans hw9)
              have tew9 := fun W (h : Ext w9 W) => Ew9.out.trans h
              clear tew8
              have hz9 := hw9.size
              repeat (first | (refine mx_pu (v := ?_) rfl (fun W => ?_) ?_; rotate_left; (focus (go_simp <;> with_reducible rfl)); simp only [Act.put, List.setIfInBounds_toArray, List.set_cons_zero, List.set_cons_succ]) | (refine mx_st (v := ?_) rfl (fun W hW => ?_) ?_; rotate_left; (focus (go_simp <;> with_reducible rfl)); simp only [Act.put, List.setIfInBounds_toArray, List.set_cons_zero, List.set_cons_succ]))
              have hbl := (hbl.ext hw8).ext hw9
              have HBL := Lib.hid hbl
              have r0 := hbl.freeF 0
              have r1 := hbl.freeF 1
              obtain ⟨z0, z1⟩ := boxT hbl
              have er9 := Ext.refl w9
              clear hbl
              refine mx_ts (w' := ?_) rfl ?_ ?_
              rotate_left
              focus (go_simp <;> with_reducible rfl)
              have hk := HBL.out.set2 (a := .bool d) (b := .pointer p5)
              have hbt := ExtBut.set2 w9 gx (.bool d) (.pointer p5)
              generalize (World.setCell w9 ⟨gx, 0, none⟩ (.bool d)).setCell ⟨gx, 1, none⟩ (.pointer p5) = w10 at hk hbt ⊢
              have HX : Hid (PutPost SB d tt ⟨xk, xn, xs⟩ (xw) wb gx p5 t5 w10) := ⟨hbt.ext Ew9.out (fun b h => by subst h; exact hgl), hk, ((H5.out.1).but (fun b h => h.2) hbt).mono (fun b h => h.1), H5.out.2.2, H5.out.2.1, hgl⟩
              clear hk hbt r0 r1 z0 z1 er9
              simp only [Act.put, List.setIfInBounds_toArray, List.set_cons_zero, List.set_cons_succ]
              repeat (first | (refine mx_pu (v := ?_) rfl (fun W => ?_) ?_; rotate_left; (focus (go_simp <;> with_reducible rfl)); simp only [Act.put, List.setIfInBounds_toArray, List.set_cons_zero, List.set_cons_succ]) | (refine mx_st (v := ?_) rfl (fun W hW => ?_) ?_; rotate_left; (focus (go_simp <;> with_reducible rfl)); simp only [Act.put, List.setIfInBounds_toArray, List.set_cons_zero, List.set_cons_succ]))
              refine mx_nil ?_
              go_wp2_with fail
              go_meet
              exact ⟨gx, p5, t5, rfl, rfl, HX⟩
          case rest =>
            obtain ⟨gx, p5, t5, rfl, rfl, HX'⟩ := hcut
            have hX := HX'.out
            rw [← HSB.out] at hX
            have HX := Lib.hid hX
            clear hX PP HX' HSB
            have hl5 : lst t5 = l.drop j := by rw [HX.out.2.2.2.2.1, HQ.out.2.2.2.2, insL_front HD.out.2.1, HD.out.1]
            have H5 := Lib.hid hl5
            clear hl5
            obtain ⟨z0, z1⟩ := boxT HX.out.2.1
            have hcc := Ext.refl wc
            have e13 := HX.out.1
            have r0 := HQ.out.2.1.freeF 0
            have r1 := HQ.out.2.1.freeF 1
            go_wp2_with fail
            have hkk := (HQ.out.2.1.ext e13).set2 (a := .bool d) (b := .pointer p5)
            have hbt := ExtBut.set2 wc g (.bool d) (.pointer p5)
            generalize (World.setCell wc ⟨g, 0, none⟩ (.bool d)).setCell ⟨g, 1, none⟩ (.pointer p5) = w14 at hkk hbt ⊢
            have hN : KeepRel w4 g d (l.drop j) p5 t5 w14 := ⟨hbt.ext (HQ.out.1.trans e13) (fun b h => by omega), hkk, HX.out.2.2.1.but (fun b h => h) hbt, HX.out.2.2.2.1, H5.out⟩
            have HN := Lib.hid hN
            clear hN hkk hbt r0 r1 z0 z1
            go_roundw
            case rel => exact ⟨j, p5, t5, by omega, rfl, HN⟩
            case measure => simp [intOf]
        · obtain rfl : k = 0 := by omega
          obtain ⟨q0, q1⟩ := boxT HQ.out.2.1
          have hrr := Ext.refl wr
          go_wp2_with fail
          have hSame : Same (fun _ => True) d la.length l p2 t2 (.slice ma l.length mc) wr := ⟨HQ.out.2.2.1.mono (fun _ _ => trivial), HQ.out.2.2.2.1, HQ.out.2.2.2.2, HS.out.1.2.2.2.1.ext eq, HS.out.1.2.2.2.2⟩
          have hI := tells_c (S := fun _ => True) (Fresh.all wr) d hSame (by omega)
          clear hSame
          with_reducible refine hI.mono ?_
          clear hI
          rintro e w20 ⟨rfl, hw20⟩
          go_wp2_with fail
          with_reducible refine (awake_c (w := w20)).mono ?_
          rintro e w21 ⟨rfl, hw21⟩
          go_wp2_with fail
          go_ret
          exact ⟨rfl, ((HS.out.2.2.trans eq).trans hw20).trans hw21⟩
set_option maxRecDepth 100000 in
theorem WtreeKeeps_all {H : Type} (enc : TypeId × Value → H) (W : World) (base : Nat) (args : Array Value) (ds gs : List (DataW H)) (before : List MemPlace)
    (hval : ∀ (j : Nat) t v, Try.f9.params[j]? = some t → args[j]? = some v → Value.okWide Try.prog W .any base t v)
    (hW : DataW.Whole enc Try.prog Try.f9.params.toList Rows.wtreeKeepsSpec.vars false W args.toList ds gs before) :
    Calls Try.prog 9 args W fun e W' => ∃ v, e = .returned v ∧ Rows.wtreeKeepsSpec.post enc Try.prog Try.f9 false true false false W args v W' := by
  have hW' := hW
  obtain ⟨p, q, hA0, hV, rfl, hfz, hnd⟩ := hW
  have hA : DataW.TrodAll enc Try.prog W 0 (fun _ => true) true Try.f9.params.toList args.toList ds p := hA0
  rw [Try.params9] at hA hval
  obtain ⟨v0, vs0, d0, ds0, p0, q0, hargs, rfl, rfl, h0, r0⟩ := trodAll_cons hA
  obtain ⟨v1, vs1, d1, ds1, p1, q1, rfl, rfl, rfl, h1, r1⟩ := trodAll_cons r0
  obtain ⟨v2, vs2, d2, ds2, p2, q2, rfl, rfl, rfl, h2, r2⟩ := trodAll_cons r1
  obtain ⟨rfl, rfl, rfl⟩ := trodAll_nil r2
  obtain rfl : args = #[v0, v1, v2] := by cases args; simp_all
  obtain ⟨rfl, rfl⟩ := trodVars_none hV
  obtain ⟨la, hacts⟩ := acts_in (hval 0 50 v0 rfl rfl) h0
  obtain ⟨lm, hactm⟩ := acts_in (hval 1 50 v1 rfl rfl) h1
  obtain ⟨d, rfl, rfl, rfl⟩ := open_bool Try.underlying4 (hval 2 4 v2 rfl rfl) h2
  have hyp : ActsV W v0 la ∧ ActsV W v1 lm := ⟨hacts, hactm⟩
  have main : Calls Try.prog 9 #[v0, v1, .bool d] W (BoolRes true W) := WtreeKeeps_main hyp
  refine main.mono fun e W' ⟨he, hx⟩ => ?_
  subst he
  exact ⟨_, rfl, post_true (bt := 4) laid39 rfl (by kernel_rfl) Try.underlying4 (by kernel_rfl) rfl hW' hx⟩
set_option maxRecDepth 100000 in
theorem WtreeKeeps_lifted (os : Os) (started : os.Started) (H : Type) (enc : TypeId × Value → H) :
    ReturnsInHanded {} Try.checked os 9 .any (Rows.wtreeKeepsSpec.pre6 enc Try.prog Try.f9 Rows.wtreeKeepsRow.domain false) (Rows.wtreeKeepsSpec.post enc Try.prog Try.f9 false true false false) := by
  refine returnsInHanded_of_change (C := Try.checked) own39 started (by kernel_rfl) Try.func9
    (ChangeSpec.witness6 (enc := enc) (C := Try.checked) false ⟨#[], #[.slice none 0 0, .slice none 0 0, .bool false], []⟩ 8 (by kernel_rfl) (by kernel_rfl) (by kernel_rfl) (by kernel_rfl)) ?_
  intro W base args ds gs before hval0 hW hcnd _
  exact WtreeKeeps_all enc W base args ds gs before hval0 hW
theorem WtreeKeeps_holds : Rows.WtreeKeepsSaid :=
  OpenClaim.holds_of_wide 9 Try.f9 rfl rfl rfl rfl rfl rfl rfl ⟨rfl, rfl, rfl, rfl, rfl⟩ rfl rfl rfl rfl rfl (by kernel_rfl) Try.func9 (by kernel_rfl)
    (of_decide_eq_true (by kernel_rfl)) (by unfold Func.isWrapper; first | (rw [if_pos (by decide +kernel)]; kernel_rfl) | (rw [if_neg (by decide +kernel)]; exact ⟨rfl, rfl⟩))
    (fun os started H enc _ => WtreeKeeps_lifted os started H enc)
end Go.Proofs.Ytbbnpicddmplbaa

/- Chapter 39's statements: tells. -/
import Derived.Test.YtbbnpicddmplbaaPl2
namespace Go.Proofs.Ytbbnpicddmplbaa
open Go.RowKit Go.Deep
set_option linter.unusedVariables false
set_option linter.unusedSimpArgs false
variable {S : Nat → Prop}


theorem look_at {d : Bool} : ∀ {l : List (GV × Nat)} {i : Nat} {x : GV} {n : Nat}, Sorted d l → l[i]? = some (x, n) → lookL d x l = some n
  | [], i, x, n, _, h => by simp at h
  | y :: r, 0, x, n, _, h => by
    simp only [List.getElem?_cons_zero, Option.some.injEq] at h
    subst h
    rw [lookL, if_pos (tcmp_refl _ _)]
  | y :: r, i + 1, x, n, hs, h => by
    simp only [List.getElem?_cons_succ] at h
    have h1 := (List.pairwise_cons.1 hs).1 (x, n) (List.mem_of_getElem? h)
    rw [lookL, if_neg (fun h0 => by have := tcmp_eq h0; subst this; rw [tcmp_refl] at h1; omega), look_at (List.pairwise_cons.1 hs).2 h]
theorem ht_zero (t : T) : ht t = 0 ↔ sz t = 0 := by
  cases t with
  | nil => simp [ht, sz]
  | node b o e l r => simp [ht, sz]
theorem atL_get {l : List (GV × Nat)} {i : Nat} : atL (i : Int) l = l[i]? := by rw [atL, if_neg (by omega)]; rfl
/-- What holds of a tree and the items that it was played beside. -/
def Same (S : Nat → Prop) (d : Bool) (n : Nat) (l : List (GV × Nat)) (p : Option Addr) (t : T) (mv : Value) (w : World) : Prop :=
  TreeV S w p t ∧ Avl t ∧ lst t = l ∧ ItemsV S w mv l ∧ PlayOK d n l
theorem Same.ext {d : Bool} {n : Nat} {l : List (GV × Nat)} {p : Option Addr} {t : T} {mv : Value} {w w' : World} (h : Same S d n l p t mv w) (e : Ext w w') : Same S d n l p t mv w' := ⟨h.1.ext e, h.2.1, h.2.2.1, h.2.2.2.1.ext e, h.2.2.2.2⟩
theorem Same.mono {S' : Nat → Prop} {d : Bool} {n : Nat} {l : List (GV × Nat)} {p : Option Addr} {t : T} {mv : Value} {w : World} (h : Same S d n l p t mv w) (hm : ∀ b, S b → S' b) : Same S' d n l p t mv w := ⟨h.1.mono hm, h.2.1, h.2.2.1, h.2.2.2.1.mono hm, h.2.2.2.2⟩
theorem Same.facts {d : Bool} {n : Nat} {l : List (GV × Nat)} {p : Option Addr} {t : T} {mv : Value} {w : World} (h : Same S d n l p t mv w) (hn : n ≤ 1000) : sz t = l.length ∧ tot t = sumW l ∧ l.length ≤ 1000 ∧ sumW l ≤ 4294967296000 :=
  ⟨by rw [← sz_lst, h.2.2.1], by rw [← tot_lst, h.2.2.1], Nat.le_trans h.2.2.2.2.2.2.1 hn, h.2.2.2.2.sum hn⟩
set_option maxHeartbeats 4000000 in
set_option maxRecDepth 100000 in
theorem tells_c {w : World} (hS : Fresh S w) (d : Bool) {p : Option Addr} {t : T} {mv : Value} {l : List (GV × Nat)} {n : Nat} (h : Same S d n l p t mv w) (hn : n ≤ 1000) :
    Calls Try.prog 35 #[.agg #[.bool d, .pointer p], mv] w (BoolRes true w) := by
  have hf := h.facts hn
  obtain ⟨a, cap, rfl, hc1, hc2, hc3, hrow⟩ := id h.2.2.2.1
  have HH := Lib.hid (And.intro h (And.intro hrow (And.intro hf hS)))
  have hl1000 := hf.2.2.1
  clear h hrow hf hS hc3
  go_enter Try.func35, Try.ntmps35
  go_wp2_with fail
  have hb0 := Blk.new w [.bool d, .pointer p] 27
  have e0 := Ext.alloc w (.cells #[.bool d, .pointer p] 27)
  generalize w.alloc (.cells #[.bool d, .pointer p] 27) = w0 at hb0 e0 ⊢
  obtain ⟨q0, q1⟩ := boxT hb0
  clear hb0
  have hI := Len_c (d := d) (HH.out.1.1.ext e0)
  rw [HH.out.2.2.1.1] at hI
  with_reducible refine hI.mono ?_
  clear hI
  rintro e w1 ⟨rfl, hw1⟩
  have f1 := hw1
  have e1 := e0.trans hw1
  go_wp2_with fail
  have hI := Total_c (d := d) (HH.out.2.2.2.ext e1) (HH.out.1.1.ext e1) (by rw [HH.out.2.2.1.2.1]; exact bigN_gt' (by have := HH.out.2.2.1.2.2.2; omega))
  rw [HH.out.2.2.1.2.1] at hI
  with_reducible refine hI.mono ?_
  clear hI
  rintro e w2 ⟨v2, rfl, hw2, hv2⟩
  have f2 := f1.trans hw2
  have e2 := e1.trans hw2
  have HV2 := Lib.hid hv2
  clear hv2 f1
  go_wp2_with fail
  have hI := rTotal_c (HH.out.1.2.2.2.1.ext e2) (by have := HH.out.2.2.1.2.2.2; omega)
  with_reducible refine hI.mono ?_
  clear hI
  rintro e w3 ⟨rfl, hw3⟩
  have f3 := f2.trans hw3
  have e3 := e2.trans hw3
  go_wp2_with fail
  have hI := is_c' (HV2.out.ext hw3) (sumW l : Nat) (sumW l) rfl (by have := HH.out.2.2.1.2.2.2; omega)
  rw [decide_eq_true (Eq.refl (sumW l))] at hI
  with_reducible refine hI.mono ?_
  clear hI
  rintro e w4 ⟨rfl, hw4⟩
  have f4 := f3.trans hw4
  have e4 := e3.trans hw4
  go_wp2_with fail
  have hI := Check_c (HH.out.2.2.2.ext e4) d p (HH.out.1.1.ext e4) HH.out.1.2.1 (by rw [HH.out.1.2.2.1]; exact HH.out.1.2.2.2.2.1) (by rw [HH.out.1.2.2.1]; exact HH.out.1.2.2.2.2.2.1) (by rw [HH.out.2.2.1.1]; omega) (by rw [HH.out.2.2.1.2.1]; exact bigN_gt' (by have := HH.out.2.2.1.2.2.2; omega))
  with_reducible refine hI.mono ?_
  clear hI
  rintro e w5 ⟨rfl, hw5⟩
  have f5 := f4.trans hw5
  have e5 := e4.trans hw5
  clear f2 f3 f4 e1 e2 e3 e4
  go_wp2_with fail
  have hI := Height_c (d := d) (HH.out.1.1.ext e5)
  with_reducible refine hI.mono ?_
  clear hI
  rintro e w6 ⟨rfl, hw6⟩
  have f6 := f5.trans hw6
  have e6 := e5.trans hw6
  go_wp2_with fail
  have hI := rHeight_c (w := w6) l.length (by omega)
  with_reducible refine hI.mono ?_
  clear hI
  rintro e w7 ⟨H, rfl, hH, -, rfl⟩
  have hhe := height_le HH.out.1.2.1 (H := H) (by rw [HH.out.2.2.1.1]; exact hH)
  have b1 : decide (H < ht t) = false := by simp; omega
  clear hH f5 e5
  go_wp2_with fail
  have hI := Height_c (d := d) (HH.out.1.1.ext e6)
  with_reducible refine hI.mono ?_
  clear hI
  rintro e w8 ⟨rfl, hw8⟩
  have f8 := f6.trans hw8
  have e8 := e6.trans hw8
  have hz := ht_zero t
  rw [HH.out.2.2.1.1] at hz
  have hb2 : ∃ b : Bool, ((ht t : Int) == 0) = b ∧ ((l.length : Int) == 0) = b := by
    refine ⟨_, rfl, ?_⟩
    rw [Bool.eq_iff_iff]
    simp only [beq_iff_eq]
    omega
  obtain ⟨bb, b2, b3⟩ := hb2
  clear hz b1 hhe f6 e6
  have HF8 := Lib.hid (And.intro f8 e8)
  have hwalk : ∀ b : Bool, b = bb → True := fun _ _ => trivial
  clear hwalk
  cases bb
  all_goals
    go_wp2_with fail
    clear b2 b3
    go_loopw [5] (fun i wq => ∃ k : Nat, k ≤ l.length ∧ i = .int .i64 k ∧ Hid (Ext w0 wq)) (fun i _ => l.length - (intOf i).toNat)
    case atStart => exact ⟨0, Nat.zero_le _, rfl, HF8.out.1⟩
    case round =>
      obtain ⟨k, hk, rfl, HL⟩ := hrel
      clear f8 e8
      have f9 := HL.out
      have e9 := e0.trans f9
      by_cases hkl : k < l.length
      · have hx : l[k]? = some l[k] := List.getElem?_eq_getElem hkl
        obtain ⟨b1, o1, rfl, y0, y1, y2, y3⟩ := row_item HH.out.2.1 hx
        have hmem := HH.out.1.2.2.2.2.2.2.2 l[k] (List.getElem_mem _)
        generalize l[k] = x at *
        obtain ⟨⟨xk, xn, xs⟩, xw⟩ := x
        simp only at hmem
        have HX := Lib.hid hx
        clear hx
        go_wp2_with fail
        have hI := At_c (HH.out.2.2.2.ext e9) d p (k : Int) (HH.out.1.1.ext e9) (by rw [HH.out.2.2.1.1]; omega) (by rw [HH.out.2.2.1.2.1]; exact bigN_gt' (by have := HH.out.2.2.1.2.2.2; omega))
        rw [HH.out.1.2.2.1, atL_get, HX.out] at hI
        with_reducible refine hI.mono ?_
        clear hI
        rintro e w10 ⟨hw10, ⟨hF0, -⟩ | ⟨x', n', sv, hF1, rfl, hsv⟩⟩
        · cases hF0
        cases hF1
        have f10 := f9.trans hw10
        have e10 := e9.trans hw10
        have eb := Ext.alloc w10 (.cells #[.int .i64 xk, .int .i64 xn, .string xs] 38)
        have f11 := f10.trans eb
        have e11 := e10.trans eb
        obtain ⟨sa, sk, sc, rfl⟩ := slice_of_nat hsv
        have HSV := Lib.hid hsv
        clear hsv f10 e10
        go_wp2_with fail
        have hb11 := Blk.new w10 [.int .i64 xk, .int .i64 xn, .string xs] 38
        generalize w10.alloc (.cells #[.int .i64 xk, .int .i64 xn, .string xs] 38) = w11 at eb f11 e11 hb11 ⊢
        obtain ⟨u0, u1, u2⟩ := boxV hb11
        clear hb11
        have Ew11 := Lib.hid e11
        have Fw11 := Lib.hid f11
        have Gw11 := Lib.hid (Ext.refl w11)
        clear f11 e11
        refine wp_region_mixE 13 [(0, 0), (1, 3), (2, 3), (3, 3), (4, 3), (5, 0), (6, 1), (7, 3), (8, 3), (9, 3), (10, 3), (11, 3)] (by kernel_rfl) (fun _ _ d _ _ h => by cases d <;> exact h) ?_
        intro w12 hw12
        simp only [List.map_cons, List.map_nil, mixPick_lt _ _ 0 rfl, mixPick_lt _ _ 1 rfl, mixPick_lt _ _ 2 rfl, mixPick_lt _ _ 3 rfl, mixPick_fork, List.getD_cons_zero, List.getD_cons_succ]
        generalize yielded _ = y
        have Ew12 := Lib.hid (Ew11.out.trans hw12)
        have Fw12 := Lib.hid (Fw11.out.trans hw12)
        have tew12 := fun W (h : Ext w12 W) => Ew12.out.trans h
        have tfw12 := fun W (h : Ext w12 W) => Fw12.out.trans h
        repeat (first | (refine mx_pu (v := ?_) rfl (fun W => ?_) ?_; rotate_left; (focus (go_simp <;> with_reducible rfl)); simp only [Act.put, List.setIfInBounds_toArray, List.set_cons_zero, List.set_cons_succ]) | (refine mx_st (v := ?_) rfl (fun W hW => ?_) ?_; rotate_left; (focus (go_simp <;> with_reducible rfl)); simp only [Act.put, List.setIfInBounds_toArray, List.set_cons_zero, List.set_cons_succ]))
        refine mx_call (f := ?_) (args := ?_) rfl ?_ ?_
        rotate_left 2
        focus (go_simp <;> (refine ⟨?_, ?_⟩ <;> with_reducible rfl))
        have hI := Get_c (HH.out.2.2.2.ext Ew12.out) d p ⟨xk, xn, xs⟩ (HH.out.1.1.ext Ew12.out) (by rw [HH.out.1.2.2.1]; exact HH.out.1.2.2.2.2.1) (by rw [HH.out.2.2.1.1]; omega) (by rw [HH.out.2.2.1.2.1]; exact bigN_gt' (by have := HH.out.2.2.1.2.2.2; omega))
        rw [HH.out.1.2.2.1, look_at HH.out.1.2.2.2.2.1 HX.out] at hI
        with_reducible refine hI.mono ?_
        clear hI
        rintro e w13 ⟨hw13, ⟨hF0, -⟩ | ⟨n', wv, hF1, rfl, hwv⟩⟩
        · cases hF0
        cases hF1
        refine ⟨_, rfl, hw13, ?_⟩
        obtain ⟨wa, wk, wc, rfl⟩ := slice_of_nat hwv
        have HWV := Lib.hid hwv
        clear hwv
        simp only [Act.put, List.setIfInBounds_toArray, List.set_cons_zero, List.set_cons_succ]
        have Ew13 := Lib.hid (Ew12.out.trans hw13)
        have Fw13 := Lib.hid (Fw12.out.trans hw13)
        have tew13 := fun W (h : Ext w13 W) => Ew13.out.trans h
        have tfw13 := fun W (h : Ext w13 W) => Fw13.out.trans h
        clear tew12 tfw12
        repeat (first | (refine mx_pu (v := ?_) rfl (fun W => ?_) ?_; rotate_left; (focus (go_simp <;> with_reducible rfl)); simp only [Act.put, List.setIfInBounds_toArray, List.set_cons_zero, List.set_cons_succ]) | (refine mx_st (v := ?_) rfl (fun W hW => ?_) ?_; rotate_left; (focus (go_simp <;> with_reducible rfl)); simp only [Act.put, List.setIfInBounds_toArray, List.set_cons_zero, List.set_cons_succ]))
        refine mx_nil ?_
        go_wp2_with fail
        have Gw13 := Lib.hid (hw12.trans hw13)
        refine wp_region_mixE 36 [(0, 3), (1, 3), (2, 3), (3, 3), (4, 3), (5, 3), (6, 3), (7, 0), (8, 3), (9, 3), (10, 3), (11, 3), (12, 0), (13, 3), (14, 3), (15, 3), (16, 3), (17, 3), (18, 3), (19, 3), (20, 3), (21, 0), (22, 1), (23, 3), (24, 3), (25, 3), (26, 3), (27, 3), (28, 3), (29, 3), (30, 3), (31, 0), (32, 1), (33, 3), (34, 3)] (by kernel_rfl) (fun _ _ d _ _ h => by cases d <;> exact h) ?_
        intro w14 hw14
        simp only [List.map_cons, List.map_nil, mixPick_lt _ _ 0 rfl, mixPick_lt _ _ 1 rfl, mixPick_lt _ _ 2 rfl, mixPick_lt _ _ 3 rfl, mixPick_fork, List.getD_cons_zero, List.getD_cons_succ]
        have Ew14 := Lib.hid (Ew13.out.trans hw14)
        have Fw14 := Lib.hid (Fw13.out.trans hw14)
        have tew14 := fun W (h : Ext w14 W) => Ew14.out.trans h
        have tfw14 := fun W (h : Ext w14 W) => Fw14.out.trans h
        have Gw14 := Lib.hid (Gw13.out.trans hw14)
        have tgw14 := fun W (h : Ext w14 W) => Gw14.out.trans h
        clear tew13 tfw13
        repeat (first | (refine mx_pu (v := ?_) rfl (fun W => ?_) ?_; rotate_left; (focus (go_simp <;> with_reducible rfl)); simp only [Act.put, List.setIfInBounds_toArray, List.set_cons_zero, List.set_cons_succ]) | (refine mx_no3 rfl ?_; simp only [Act.put, List.setIfInBounds_toArray, List.set_cons_zero, List.set_cons_succ]) | (refine mx_st (v := ?_) rfl (fun W hW => ?_) ?_; rotate_left; (focus (go_simp <;> with_reducible rfl)); simp only [Act.put, List.setIfInBounds_toArray, List.set_cons_zero, List.set_cons_succ]) | (refine mx_no0 rfl ?_; simp only [Act.put, List.setIfInBounds_toArray, List.set_cons_zero, List.set_cons_succ]) | (refine mx_no1 Ext.grows rfl ?_; simp only [Act.put, List.setIfInBounds_toArray, List.set_cons_zero, List.set_cons_succ]))
        refine mx_call (f := ?_) (args := ?_) rfl ?_ ?_
        rotate_left 2
        focus (go_simp <;> (refine ⟨?_, ?_⟩ <;> with_reducible rfl))
        have hI := is_c' (((HSV.out.ext eb).ext hw12).ext (hw13.trans hw14)) (xw : Nat) xw rfl (by omega)
        rw [decide_eq_true (Eq.refl xw)] at hI
        with_reducible refine hI.mono ?_
        clear hI
        rintro e w15 ⟨rfl, hw15⟩
        refine ⟨_, rfl, hw15, ?_⟩
        simp only [Act.put, List.setIfInBounds_toArray, List.set_cons_zero, List.set_cons_succ]
        have Ew15 := Lib.hid (Ew14.out.trans hw15)
        have Fw15 := Lib.hid (Fw14.out.trans hw15)
        have tew15 := fun W (h : Ext w15 W) => Ew15.out.trans h
        have tfw15 := fun W (h : Ext w15 W) => Fw15.out.trans h
        clear tew14 tfw14 tgw14
        repeat (first | (refine mx_pu (v := ?_) rfl (fun W => ?_) ?_; rotate_left; (focus (go_simp <;> with_reducible rfl)); simp only [Act.put, List.setIfInBounds_toArray, List.set_cons_zero, List.set_cons_succ]) | (refine mx_no3 rfl ?_; simp only [Act.put, List.setIfInBounds_toArray, List.set_cons_zero, List.set_cons_succ]) | (refine mx_st (v := ?_) rfl (fun W hW => ?_) ?_; rotate_left; (focus (go_simp <;> with_reducible rfl)); simp only [Act.put, List.setIfInBounds_toArray, List.set_cons_zero, List.set_cons_succ]) | (refine mx_no0 rfl ?_; simp only [Act.put, List.setIfInBounds_toArray, List.set_cons_zero, List.set_cons_succ]) | (refine mx_no1 Ext.grows rfl ?_; simp only [Act.put, List.setIfInBounds_toArray, List.set_cons_zero, List.set_cons_succ]))
        refine mx_call (f := ?_) (args := ?_) rfl ?_ ?_
        rotate_left 2
        focus (go_simp <;> (refine ⟨?_, ?_⟩ <;> with_reducible rfl))
        have hI := is_c' ((HWV.out.ext hw14).ext hw15) (xw : Nat) xw rfl (by omega)
        rw [decide_eq_true (Eq.refl xw)] at hI
        with_reducible refine hI.mono ?_
        clear hI
        rintro e w16 ⟨rfl, hw16⟩
        refine ⟨_, rfl, hw16, ?_⟩
        simp only [Act.put, List.setIfInBounds_toArray, List.set_cons_zero, List.set_cons_succ]
        have Ew16 := Lib.hid (Ew15.out.trans hw16)
        have Fw16 := Lib.hid (Fw15.out.trans hw16)
        have tew16 := fun W (h : Ext w16 W) => Ew16.out.trans h
        have tfw16 := fun W (h : Ext w16 W) => Fw16.out.trans h
        clear tew15 tfw15
        repeat (first | (refine mx_pu (v := ?_) rfl (fun W => ?_) ?_; rotate_left; (focus (go_simp <;> with_reducible rfl)); simp only [Act.put, List.setIfInBounds_toArray, List.set_cons_zero, List.set_cons_succ]) | (refine mx_no3 rfl ?_; simp only [Act.put, List.setIfInBounds_toArray, List.set_cons_zero, List.set_cons_succ]) | (refine mx_st (v := ?_) rfl (fun W hW => ?_) ?_; rotate_left; (focus (go_simp <;> with_reducible rfl)); simp only [Act.put, List.setIfInBounds_toArray, List.set_cons_zero, List.set_cons_succ]) | (refine mx_no0 rfl ?_; simp only [Act.put, List.setIfInBounds_toArray, List.set_cons_zero, List.set_cons_succ]) | (refine mx_no1 Ext.grows rfl ?_; simp only [Act.put, List.setIfInBounds_toArray, List.set_cons_zero, List.set_cons_succ]))
        refine mx_nil ?_
        go_wp2_with fail
        go_roundw
        case rel => exact ⟨k + 1, by omega, by go_num, Fw16⟩
        case measure => simp [intOf]; omega
      · obtain rfl : k = l.length := by omega
        go_wp2_with fail
        have hI := At_c (HH.out.2.2.2.ext e9) d p (-1) (HH.out.1.1.ext e9) (by rw [HH.out.2.2.1.1]; omega) (by rw [HH.out.2.2.1.2.1]; exact bigN_gt' (by have := HH.out.2.2.1.2.2.2; omega))
        rw [show atL (-1) (lst t) = none from rfl] at hI
        with_reducible refine hI.mono ?_
        clear hI
        rintro e w10 ⟨hw10, ⟨-, rfl⟩ | ⟨x', n', sv, hF1, -, -⟩⟩
        rotate_left
        · cases hF1
        have f10 := f9.trans hw10
        have e10 := e9.trans hw10
        have eb := Ext.alloc w10 (.cells #[.int .i64 0, .int .i64 0, .string ⟨#[]⟩] 38)
        have f11 := f10.trans eb
        have e11 := e10.trans eb
        go_wp2_with fail
        generalize w10.alloc (.cells #[.int .i64 0, .int .i64 0, .string ⟨#[]⟩] 38) = w11 at eb f11 e11 ⊢
        have hI := At_c (HH.out.2.2.2.ext e11) d p (l.length : Int) (HH.out.1.1.ext e11) (by rw [HH.out.2.2.1.1]; omega) (by rw [HH.out.2.2.1.2.1]; exact bigN_gt' (by have := HH.out.2.2.1.2.2.2; omega))
        rw [HH.out.1.2.2.1, atL_get, List.getElem?_eq_none (Nat.le_refl _)] at hI
        with_reducible refine hI.mono ?_
        clear hI
        rintro e w12 ⟨hw12, ⟨-, rfl⟩ | ⟨x', n', sv, hF1, -, -⟩⟩
        rotate_left
        · cases hF1
        have e12 := e11.trans hw12
        go_wp2_with fail
        go_ret
        exact ⟨rfl, e12.trans (Ext.alloc _ _)⟩
end Go.Proofs.Ytbbnpicddmplbaa

/- Chapter 39's statements: played. -/
import Derived.Test.YtbbnpicddmplbaaPl
namespace Go.Proofs.Ytbbnpicddmplbaa
open Go.RowKit Go.Deep
set_option linter.unusedVariables false
set_option linter.unusedSimpArgs false
variable {S : Nat → Prop}


/-- Blocks of S but for two. -/
def But2 (S : Nat → Prop) (r g b : Nat) : Prop := S b ∧ b ≠ r ∧ b ≠ g
/-- What holds at the head of a round of played. -/
def PlayRel (S : Nat → Prop) (w : World) (d : Bool) (r g k : Nat) (l : List (GV × Nat)) (p : Option Addr) (t : T) (mv : Value) (wr : World) : Prop :=
  Ext w wr ∧ Blk wr r [.bool false, .pointer none] 27 ∧ Blk wr g [.bool d, .pointer p] 27 ∧ TreeV (But2 S r g) wr p t ∧ Avl t ∧ lst t = l ∧ ItemsV (But2 S r g) wr mv l ∧ PlayOK d k l ∧ Fresh (But2 S r g) wr
/-- A struct of five cells. -/
theorem boxA {w : World} {g : Nat} {a b c d e : Value} {t : TypeId} (h : Blk w g [a, b, c, d, e] t) :
    (∀ W, Ext w W → W.cell? ⟨g, 0, none⟩ = some a) ∧ (∀ W, Ext w W → W.cell? ⟨g, 1, none⟩ = some b) ∧ (∀ W, Ext w W → W.cell? ⟨g, 2, none⟩ = some c) ∧ (∀ W, Ext w W → W.cell? ⟨g, 3, none⟩ = some d) ∧ (∀ W, Ext w W → W.cell? ⟨g, 4, none⟩ = some e) :=
  ⟨fun W e => (h.ext e).cell 0, fun W e => (h.ext e).cell 1, fun W e => (h.ext e).cell 2, fun W e => (h.ext e).cell 3, fun W e => (h.ext e).cell 4⟩
/-- What played hands back. -/
def PlayRes (S : Nat → Prop) (d : Bool) (l : List (GV × Nat)) (n : Nat) (w : World) (e : Ending) (w' : World) : Prop :=
  ∃ p t a c, e = .returned (.tuple #[.agg #[.bool d, .pointer p], .slice a l.length c, .bool true]) ∧ Ext w w' ∧ TreeV S w' p t ∧ Avl t ∧ lst t = l ∧ ItemsV S w' (.slice a l.length c) l ∧ PlayOK d n l
set_option maxHeartbeats 4000000 in
set_option maxRecDepth 100000 in
theorem played_c {w : World} (hS : Fresh S w) (d : Bool) {lv : Value} {la : List GAct} (hl : ActsV w lv la) (hlen : la.length ≤ 150) :
    Calls Try.prog 22 #[lv, .bool d] w (PlayRes S d (playL d la) la.length w) := by
  obtain ⟨a, cap, rfl, hc1, hc2, hc3, hrow, hall⟩ := hl
  have HR := Lib.hid (And.intro hrow (And.intro hall hS))
  clear hrow hc3 hall hS
  go_enter Try.func22, Try.ntmps22
  go_wp2_with fail
  have hb0 := Blk.new w [.bool false, .pointer none] 27
  have he0 := Ext.alloc w (.cells #[.bool false, .pointer none] 27)
  generalize w.alloc (.cells #[.bool false, .pointer none] 27) = w0 at hb0 he0 ⊢
  with_reducible refine (New_c d).mono ?_
  rintro e w1 ⟨rfl, hw1⟩
  go_wp2_with fail
  have hb2 := Blk.new w1 [.bool d, .pointer none] 27
  have hw2 := Ext.alloc w1 (.cells #[.bool d, .pointer none] 27)
  have hlt1 : w.heap.size < w1.heap.size := (hb0.ext hw1).lt
  generalize w1.alloc (.cells #[.bool d, .pointer none] 27) = w2 at hb2 hw2 ⊢
  have HS := Lib.hid (And.intro ((he0.trans hw1).trans hw2) (And.intro ((hb0.ext hw1).ext hw2) hb2))
  clear hb0 he0 hw1 hb2 hw2
  generalize w1.heap.size = g at *
  have hrs : ∀ r : Nat, w.heap.size = r → True := fun _ _ => trivial
  clear hrs
  go_loopw [8, 9] (fun mv i wr => ∃ (k : Nat) (p : Option Addr) (t : T), k ≤ la.length ∧ i = .int .i64 k ∧ Hid (PlayRel S w d w.heap.size g k (playL d (la.take k)) p t mv wr)) (fun _ i _ => la.length - (intOf i).toNat)
  case atStart => exact ⟨0, none, .nil, Nat.zero_le _, rfl, HS.out.1, HS.out.2.1, HS.out.2.2, TreeV.nil _, trivial, rfl, ItemsV.nil _, PlayOK.nil d, fun b hb => ⟨HR.out.2.2 b (Nat.le_trans HS.out.1.size hb), by have := HS.out.2.2.lt; omega, by have := HS.out.2.2.lt; omega⟩⟩
  case round =>
    obtain ⟨k, p, t, hk, rfl, HL⟩ := hrel
    clear HS
    have ewr := HL.out.1
    obtain ⟨q0, q1⟩ := boxT HL.out.2.2.1
    by_cases hkl : k < la.length
    · have hx : la[k]? = some la[k] := List.getElem?_eq_getElem hkl
      obtain ⟨b1, o1, rfl, -, y0, y1, y2, y3, y4⟩ := row_act HR.out.1 hx
      have hps := playL_succ d la hx
      have hmem := HR.out.2.1 la[k] (List.getElem_mem _)
      generalize la[k] = x at *
      obtain ⟨xq, ⟨xk, xn, xs⟩, xw⟩ := x
      simp only at *
      obtain ⟨hq, hxw, -⟩ := hmem
      have hls := HL.out.2.2.2.2.2.2.2.1.2.2.1
      have hsm := HL.out.2.2.2.2.2.2.2.1.sum (by omega)
      generalize hG : playL d (la.take k) = l at *
      obtain ⟨ma, mc, rfl, -⟩ := HL.out.2.2.2.2.2.2.1
      have hszt : sz t = l.length := by rw [← sz_lst, HL.out.2.2.2.2.2.1]
      have htot : tot t = sumW l := by rw [← tot_lst, HL.out.2.2.2.2.2.1]
      have HP := Lib.hid (And.intro hps (And.intro hszt htot))
      clear hps hx hG hszt htot
      have ea := Ext.alloc wr (.cells #[.int .u8 (xq : Nat), .int .i64 xk, .int .i64 xn, .string xs, .int .u32 (xw : Nat)] 80)
      by_cases h2 : xq % 3 = 2
      · have hq2 : ((xq : Int) % 3 == 2) = true := by simp; omega
        have HQ := Lib.hid h2
        clear h2
        go_wp2_with fail
        have hb3 := Blk.new wr [.int .u8 (xq : Nat), .int .i64 xk, .int .i64 xn, .string xs, .int .u32 (xw : Nat)] 80
        have hz3 : (wr.alloc (.cells #[.int .u8 (xq : Nat), .int .i64 xk, .int .i64 xn, .string xs, .int .u32 (xw : Nat)] 80)).heap.size = wr.heap.size + 1 := by simp
        generalize wr.alloc (.cells #[.int .u8 (xq : Nat), .int .i64 xk, .int .i64 xn, .string xs, .int .u32 (xw : Nat)] 80) = w3 at ea hb3 hz3 ⊢
        have HZ3 := Lib.hid hz3
        clear hz3
        obtain ⟨a0, a1, a2, a3, a4⟩ := boxA hb3
        clear hb3
        have hI := Delete_c (HL.out.2.2.2.2.2.2.2.2.ext ea) d p ⟨xk, xn, xs⟩ (HL.out.2.2.2.1.ext ea) HL.out.2.2.2.2.1 (by rw [HL.out.2.2.2.2.2.1]; exact HL.out.2.2.2.2.2.2.2.1.1) (by rw [HP.out.2.1]; omega) (by rw [HP.out.2.2]; exact bigN_gt' (by omega))
        rw [HL.out.2.2.2.2.2.1] at hI
        with_reducible refine hI.mono ?_
        clear hI
        rintro x w4 ⟨p4, t4, rfl, hw4, ht4, hl4, ha4⟩
        rw [HL.out.2.2.2.2.2.1] at hl4
        have H4 := Lib.hid (And.intro ht4 (And.intro hl4 ha4))
        clear ht4 hl4 ha4
        have ew4 := ea.trans hw4
        have fw4 := hw4
        have eb := Ext.alloc w4 (.cells #[.bool d, .pointer p4] 27)
        generalize hlk : lookL d ⟨xk, xn, xs⟩ l = lk
        have HLK := Lib.hid hlk
        clear hlk
        have ew5 := ew4.trans eb
        have fw5 := fw4.trans eb
        go_wp2_with fail
        have hb5 := Blk.new w4 [.bool d, .pointer p4] 27
        generalize w4.alloc (.cells #[.bool d, .pointer p4] 27) = w5 at eb ew5 fw5 hb5 ⊢
        have hI := rIndex_c d ⟨xk, xn, xs⟩ (HL.out.2.2.2.2.2.2.1.ext ew5)
        with_reducible refine hI.mono ?_
        clear hI
        rintro x w6 ⟨rfl, hw6⟩
        have ew6 := ew5.trans hw6
        have fw6 := fw5.trans hw6
        obtain ⟨z0, z1⟩ := boxT hb5
        have gw6 := hw6
        have hlk : ∃ b : Bool, lk.isSome = b ∧ decide ((0 : Int) ≤ idxL d ⟨xk, xn, xs⟩ l 0) = b := by
          rw [← HLK.out]
          rcases idxL_look (d := d) (v := ⟨xk, xn, xs⟩) (l := l) (k := 0) with ⟨h1, h2⟩ | ⟨i, n, h1, h2, -⟩
          · rw [h1, h2]; exact ⟨_, rfl, rfl⟩
          · rw [h1, h2]; exact ⟨_, rfl, by simp⟩
        generalize idxL d ⟨xk, xn, xs⟩ l 0 = ix at *
        obtain ⟨bb, hb1, hbb⟩ := hlk
        rw [hb1]
        clear hb1
        cases bb
        all_goals
          go_wp2_with fail
          clear hbb
          have Ew6 := Lib.hid ew6
          have Fw6 := Lib.hid fw6
          have Gw6 := Lib.hid gw6
          refine wp_region_mixE 8 [(0, 0), (1, 3), (2, 3), (3, 0), (4, 1), (5, 2), (6, 3)] (by kernel_rfl) (fun _ _ d _ _ h => by cases d <;> exact h) ?_
          intro w7 hw7
          simp only [List.map_cons, List.map_nil, mixPick_lt _ _ 0 rfl, mixPick_lt _ _ 1 rfl, mixPick_lt _ _ 2 rfl, mixPick_lt _ _ 3 rfl, mixPick_fork, List.getD_cons_zero, List.getD_cons_succ]
          generalize yielded _ = y
          have Ew7 := Lib.hid (Ew6.out.trans hw7)
          have Fw7 := Lib.hid (Fw6.out.trans hw7)
          have tew7 := fun W (h : Ext w7 W) => Ew7.out.trans h
          have tfw7 := fun W (h : Ext w7 W) => Fw7.out.trans h
          have Gw7 := Lib.hid (gw6.trans hw7)
          have tgw7 := fun W (h : Ext w7 W) => Gw7.out.trans h
          clear ew6 fw6 gw6 ew5 fw5 ew4 fw4
          repeat (first | (refine mx_pu (v := ?_) rfl (fun W => ?_) ?_; rotate_left; (focus (go_simp <;> with_reducible rfl)); simp only [Act.put, List.setIfInBounds_toArray, List.set_cons_zero, List.set_cons_succ]) | (refine mx_st (v := ?_) rfl (fun W hW => ?_) ?_; rotate_left; (focus (go_simp <;> with_reducible rfl)); simp only [Act.put, List.setIfInBounds_toArray, List.set_cons_zero, List.set_cons_succ]))
          refine mx_call (f := ?_) (args := ?_) rfl ?_ ?_
          rotate_left 2
          focus (go_simp <;> (refine ⟨?_, ?_⟩ <;> with_reducible rfl))
          have hI := rDelete_c (HL.out.2.2.2.2.2.2.2.2.ext Ew7.out) d ⟨xk, xn, xs⟩ (HL.out.2.2.2.2.2.2.1.ext Ew7.out) (by omega)
          with_reducible refine hI.mono ?_
          clear hI
          rintro x w8 ⟨v8, rfl, hw8, hv8⟩
          refine ⟨_, rfl, hw8, ?_⟩
          simp only [Act.put, List.setIfInBounds_toArray, List.set_cons_zero, List.set_cons_succ]
          have Ew8 := Lib.hid (Ew7.out.trans hw8)
          have Fw8 := Lib.hid (Fw7.out.trans hw8)
          have tew8 := fun W (h : Ext w8 W) => Ew8.out.trans h
          have tfw8 := fun W (h : Ext w8 W) => Fw8.out.trans h
          clear tew7 tfw7 tgw7
          repeat (first | (refine mx_pu (v := ?_) rfl (fun W => ?_) ?_; rotate_left; (focus (go_simp <;> with_reducible rfl)); simp only [Act.put, List.setIfInBounds_toArray, List.set_cons_zero, List.set_cons_succ]) | (refine mx_st (v := ?_) rfl (fun W hW => ?_) ?_; rotate_left; (focus (go_simp <;> with_reducible rfl)); simp only [Act.put, List.setIfInBounds_toArray, List.set_cons_zero, List.set_cons_succ]))
          have ew8 := Ew8.out
          have r0 := HL.out.2.2.1.freeF 0
          have r1 := HL.out.2.2.1.freeF 1
          refine mx_ts (w' := ?_) rfl ?_ ?_
          rotate_left
          focus (go_simp <;> with_reducible rfl)
          have hk := (HL.out.2.2.1.ext ew8).set2 (a := .bool d) (b := .pointer p4)
          have hbt := ExtBut.set2 w8 (g) (.bool d) (.pointer p4)
          generalize (World.setCell w8 ⟨g, 0, none⟩ (.bool d)).setCell ⟨g, 1, none⟩ (.pointer p4) = w9 at hk hbt ⊢
          have hN : PlayRel S w d w.heap.size g (k + 1) (delL d ⟨xk, xn, xs⟩ l) p4 t4 v8 w9 := by
            refine ⟨hbt.ext (HL.out.1.trans ew8) (fun b h => by omega), (HL.out.2.1.ext ew8).but (by omega) hbt, hk, (((((H4.out.1.ext eb).ext hw6).ext hw7).ext hw8).but (fun b h => h.2.2) hbt), H4.out.2.2, H4.out.2.1, hv8.but (fun b h => h.2.2) hbt, HL.out.2.2.2.2.2.2.2.1.del _, fun b hb => HL.out.2.2.2.2.2.2.2.2 b (Nat.le_trans ew8.size (Nat.le_trans hbt.1 hb))⟩
          have HN := Lib.hid hN
          clear hN hk hbt r0 r1 hv8
          simp only [Act.put, List.setIfInBounds_toArray, List.set_cons_zero, List.set_cons_succ]
          repeat (first | (refine mx_pu (v := ?_) rfl (fun W => ?_) ?_; rotate_left; (focus (go_simp <;> with_reducible rfl)); simp only [Act.put, List.setIfInBounds_toArray, List.set_cons_zero, List.set_cons_succ]) | (refine mx_st (v := ?_) rfl (fun W hW => ?_) ?_; rotate_left; (focus (go_simp <;> with_reducible rfl)); simp only [Act.put, List.setIfInBounds_toArray, List.set_cons_zero, List.set_cons_succ]))
          refine mx_nil ?_
          go_wp2_with fail
          go_roundw
          case rel => exact ⟨k + 1, p4, t4, by omega, by go_num, by rw [HP.out.1, actL, if_pos HQ.out]; exact HN⟩
          case measure => simp [intOf]; omega
      · have hq2 : ((xq : Int) % 3 == 2) = false := by simp; omega
        have HQ := Lib.hid h2
        clear h2
        by_cases hv : (⟨xk, xn, xs⟩ : GV).valid = true
        · by_cases hw0 : xw = 0
          · have hb0 : ((xw : Int) == 0) = true := by simp; omega
            have HW0 := Lib.hid hw0
            clear hw0
            go_wp2_with fail
            have hb3 := Blk.new wr [.int .u8 (xq : Nat), .int .i64 xk, .int .i64 xn, .string xs, .int .u32 (xw : Nat)] 80
            have hz3 : (wr.alloc (.cells #[.int .u8 (xq : Nat), .int .i64 xk, .int .i64 xn, .string xs, .int .u32 (xw : Nat)] 80)).heap.size = wr.heap.size + 1 := by simp
            generalize wr.alloc (.cells #[.int .u8 (xq : Nat), .int .i64 xk, .int .i64 xn, .string xs, .int .u32 (xw : Nat)] 80) = w3 at ea hb3 hz3 ⊢
            have HZ3 := Lib.hid hz3
            clear hz3
            obtain ⟨a0, a1, a2, a3, a4⟩ := boxA hb3
            clear hb3
            have ew4 := ea.trans (Ext.alloc w3 (.cells #[.int .u32 (xw : Nat), .int .u32 0] 32))
            have hdig : DigV (But2 S w.heap.size g) (w3.alloc (.cells #[.int .u32 (xw : Nat), .int .u32 0] 32)) (.slice (some ⟨w3.heap.size, 0, none⟩) 2 2) [xw, 0] :=
              ⟨_, _, rfl, by simp, by simp, by simp, Digs.mk hxw (Digs.mk (by omega) Digs.nil), rowAt_alloc w3 (HL.out.2.2.2.2.2.2.2.2 _ ea.size) _ _⟩
            have fw4 := Ext.alloc w3 (.cells #[.int .u32 (xw : Nat), .int .u32 0] 32)
            generalize w3.alloc (.cells #[.int .u32 (xw : Nat), .int .u32 0] 32) = w4 at ew4 fw4 hdig ⊢
            rw [HZ3.out] at hdig
            have hI := Put_zero (HL.out.2.2.2.2.2.2.2.2.ext ew4) d p ⟨xk, xn, xs⟩ (.slice (some ⟨wr.heap.size + 1, 0, none⟩) 2 2) hdig (by simp) hv (by rw [HW0.out]; simp [nval])
            with_reducible refine hI.mono ?_
            clear hI
            rintro x w5 ⟨rfl, hw5⟩
            have ew5 := ew4.trans hw5
            have fw5 := fw4.trans hw5
            have eb := Ext.alloc w5 (.cells #[.bool d, .pointer p] 27)
            have ew6 := ew5.trans eb
            have fw6 := fw5.trans eb
            go_wp2_with fail
            have hb6 := Blk.new w5 [.bool d, .pointer p] 27
            generalize w5.alloc (.cells #[.bool d, .pointer p] 27) = w6 at eb ew6 fw6 hb6 ⊢
            have hI := ref03_valid ⟨xk, xn, xs⟩ w6
            with_reducible refine hI.mono ?_
            clear hI
            rintro x w8 ⟨rfl, hw8⟩
            have ew8 := ew6.trans hw8
            have fw8 := fw6.trans hw8
            have gw8 := hw8
            obtain ⟨z0, z1⟩ := boxT hb6
            have r0 := HL.out.2.2.1.freeF 0
            have r1 := HL.out.2.2.1.freeF 1
            clear hb6 ew5 fw5 ew6 fw6
            rw [hv]
            go_wp2_with fail
            have hk := (HL.out.2.2.1.ext ew8).set2 (a := .bool d) (b := .pointer p)
            have hbt := ExtBut.set2 w8 (g) (.bool d) (.pointer p)
            generalize (World.setCell w8 ⟨g, 0, none⟩ (.bool d)).setCell ⟨g, 1, none⟩ (.pointer p) = w10 at hk hbt ⊢
            have hN : PlayRel S w d w.heap.size g (k + 1) l p t (.slice ma l.length mc) w10 := by
              refine ⟨hbt.ext (HL.out.1.trans ew8) (fun b h => by omega), (HL.out.2.1.ext ew8).but (by omega) hbt, hk, ((HL.out.2.2.2.1.ext ew8).but (fun b h => h.2.2) hbt), HL.out.2.2.2.2.1, HL.out.2.2.2.2.2.1, (HL.out.2.2.2.2.2.2.1.ext ew8).but (fun b h => h.2.2) hbt, HL.out.2.2.2.2.2.2.2.1.succ, fun b hb => HL.out.2.2.2.2.2.2.2.2 b (Nat.le_trans (ew8).size (Nat.le_trans hbt.1 hb))⟩
            have HN := Lib.hid hN
            clear hN hk hbt r0 r1
            go_roundw
            case rel => exact ⟨k + 1, p, t, by omega, by go_num, by rw [HP.out.1, actL, if_neg HQ.out, if_neg (fun h => h.2 HW0.out)]; exact HN⟩
            case measure => simp [intOf]; omega
          · have hb0 : ((xw : Int) == 0) = false := by simp; omega
            have hxw0 : 0 < xw := by omega
            clear hw0
            go_wp2_with fail
            have hb3 := Blk.new wr [.int .u8 (xq : Nat), .int .i64 xk, .int .i64 xn, .string xs, .int .u32 (xw : Nat)] 80
            have hz3 : (wr.alloc (.cells #[.int .u8 (xq : Nat), .int .i64 xk, .int .i64 xn, .string xs, .int .u32 (xw : Nat)] 80)).heap.size = wr.heap.size + 1 := by simp
            generalize wr.alloc (.cells #[.int .u8 (xq : Nat), .int .i64 xk, .int .i64 xn, .string xs, .int .u32 (xw : Nat)] 80) = w3 at ea hb3 hz3 ⊢
            have HZ3 := Lib.hid hz3
            clear hz3
            obtain ⟨a0, a1, a2, a3, a4⟩ := boxA hb3
            clear hb3
            have ew4 := ea.trans (Ext.alloc w3 (.cells #[.int .u32 (xw : Nat), .int .u32 0] 32))
            have hdig : DigV (But2 S w.heap.size g) (w3.alloc (.cells #[.int .u32 (xw : Nat), .int .u32 0] 32)) (.slice (some ⟨w3.heap.size, 0, none⟩) 2 2) [xw, 0] :=
              ⟨_, _, rfl, by simp, by simp, by simp, Digs.mk hxw (Digs.mk (by omega) Digs.nil), rowAt_alloc w3 (HL.out.2.2.2.2.2.2.2.2 _ ea.size) _ _⟩
            have fw4 := Ext.alloc w3 (.cells #[.int .u32 (xw : Nat), .int .u32 0] 32)
            generalize w3.alloc (.cells #[.int .u32 (xw : Nat), .int .u32 0] 32) = w4 at ew4 fw4 hdig ⊢
            rw [HZ3.out] at hdig
            have hnv : nval [xw, 0] = xw := by simp [nval]
            have hI := Put_ok (HL.out.2.2.2.2.2.2.2.2.ext ew4) d p ⟨xk, xn, xs⟩ (.slice (some ⟨wr.heap.size + 1, 0, none⟩) 2 2) (HL.out.2.2.2.1.ext ew4) HL.out.2.2.2.2.1 (by rw [HL.out.2.2.2.2.2.1]; exact HL.out.2.2.2.2.2.2.2.1.1) (by rw [HP.out.2.1]; omega) (by rw [HP.out.2.2, hnv]; exact bigN_gt' (by omega)) hdig (by simp) hv (by rw [hnv]; exact hxw0)
            rw [hnv] at hI
            clear hnv
            with_reducible refine hI.mono ?_
            clear hI
            rintro x w5 ⟨p5, t5, rfl, hw5, ht5, hl5, ha5⟩
            rw [HL.out.2.2.2.2.2.1] at hl5
            have H5 := Lib.hid (And.intro ht5 (And.intro hl5 ha5))
            clear ht5 hl5 ha5
            have ew5 := ew4.trans hw5
            have fw5 := fw4.trans hw5
            have eb := Ext.alloc w5 (.cells #[.bool d, .pointer p5] 27)
            have ew6 := ew5.trans eb
            have fw6 := fw5.trans eb
            go_wp2_with fail
            have hb6 := Blk.new w5 [.bool d, .pointer p5] 27
            generalize w5.alloc (.cells #[.bool d, .pointer p5] 27) = w6 at eb ew6 fw6 hb6 ⊢
            have hI := ref03_valid ⟨xk, xn, xs⟩ w6
            with_reducible refine hI.mono ?_
            clear hI
            rintro x w8 ⟨rfl, hw8⟩
            have ew8 := ew6.trans hw8
            have fw8 := fw6.trans hw8
            have gw8 := hw8
            obtain ⟨z0, z1⟩ := boxT hb6
            have r0 := HL.out.2.2.1.freeF 0
            have r1 := HL.out.2.2.1.freeF 1
            clear hb6 ew5 fw5 ew6 fw6
            rw [hv]
            have hxc : IntKind.u64.wrap (xw : Int) = (xw : Int) := by simp [IntKind.wrap, IntKind.signed, IntKind.bits]; omega
            go_wp2_with fail
            clear hxc
            have hI := rPut_c (HL.out.2.2.2.2.2.2.2.2.ext ew8) d ⟨xk, xn, xs⟩ xw (HL.out.2.2.2.2.2.2.1.ext ew8) (by omega)
            rw [rputFin_eq HL.out.2.2.2.2.2.2.2.1.1] at hI
            with_reducible refine hI.mono ?_
            clear hI
            rintro x w9 ⟨v9, rfl, hw9, hv9⟩
            have ew9 := ew8.trans hw9
            have gw9 := gw8.trans hw9
            have HV9 := Lib.hid hv9
            clear hv9
            go_wp2_with fail
            have hk := (HL.out.2.2.1.ext ew9).set2 (a := .bool d) (b := .pointer p5)
            have hbt := ExtBut.set2 w9 (g) (.bool d) (.pointer p5)
            generalize (World.setCell w9 ⟨g, 0, none⟩ (.bool d)).setCell ⟨g, 1, none⟩ (.pointer p5) = w10 at hk hbt ⊢
            have hN : PlayRel S w d w.heap.size g (k + 1) (insL d (⟨xk, xn, xs⟩, xw) l) p5 t5 (v9) w10 := by
              refine ⟨hbt.ext (HL.out.1.trans ew9) (fun b h => by omega), (HL.out.2.1.ext ew9).but (by omega) hbt, hk, (((((H5.out.1.ext eb).ext hw8).ext hw9)).but (fun b h => h.2.2) hbt), H5.out.2.2, H5.out.2.1, (HV9.out).but (fun b h => h.2.2) hbt, (HL.out.2.2.2.2.2.2.2.1.ins (⟨xk, xn, xs⟩, xw) hv hxw0 hxw), fun b hb => HL.out.2.2.2.2.2.2.2.2 b (Nat.le_trans (ew9).size (Nat.le_trans hbt.1 hb))⟩
            have HN := Lib.hid hN
            clear hN hk hbt r0 r1
            go_roundw
            case rel => exact ⟨k + 1, p5, t5, by omega, by go_num, by rw [HP.out.1, actL, if_neg HQ.out, if_pos ⟨hv, by simp; omega⟩]; exact HN⟩
            case measure => simp [intOf]; omega
        · have hv' : (⟨xk, xn, xs⟩ : GV).valid = false := by simpa using hv
          go_wp2_with fail
          have hb3 := Blk.new wr [.int .u8 (xq : Nat), .int .i64 xk, .int .i64 xn, .string xs, .int .u32 (xw : Nat)] 80
          have hz3 : (wr.alloc (.cells #[.int .u8 (xq : Nat), .int .i64 xk, .int .i64 xn, .string xs, .int .u32 (xw : Nat)] 80)).heap.size = wr.heap.size + 1 := by simp
          generalize wr.alloc (.cells #[.int .u8 (xq : Nat), .int .i64 xk, .int .i64 xn, .string xs, .int .u32 (xw : Nat)] 80) = w3 at ea hb3 hz3 ⊢
          have HZ3 := Lib.hid hz3
          clear hz3
          obtain ⟨a0, a1, a2, a3, a4⟩ := boxA hb3
          clear hb3
          have ew4 := ea.trans (Ext.alloc w3 (.cells #[.int .u32 (xw : Nat), .int .u32 0] 32))
          have hdig : DigV (But2 S w.heap.size g) (w3.alloc (.cells #[.int .u32 (xw : Nat), .int .u32 0] 32)) (.slice (some ⟨w3.heap.size, 0, none⟩) 2 2) [xw, 0] :=
            ⟨_, _, rfl, by simp, by simp, by simp, Digs.mk hxw (Digs.mk (by omega) Digs.nil), rowAt_alloc w3 (HL.out.2.2.2.2.2.2.2.2 _ ea.size) _ _⟩
          have fw4 := Ext.alloc w3 (.cells #[.int .u32 (xw : Nat), .int .u32 0] 32)
          generalize w3.alloc (.cells #[.int .u32 (xw : Nat), .int .u32 0] 32) = w4 at ew4 fw4 hdig ⊢
          rw [HZ3.out] at hdig
          have hI := Put_inv (w := w4) d p ⟨xk, xn, xs⟩ (.slice (some ⟨wr.heap.size + 1, 0, none⟩) 2 2) hv'
          with_reducible refine hI.mono ?_
          clear hI
          rintro x w5 ⟨rfl, hw5⟩
          have ew5 := ew4.trans hw5
          have fw5 := fw4.trans hw5
          have eb := Ext.alloc w5 (.cells #[.bool d, .pointer p] 27)
          have ew6 := ew5.trans eb
          have fw6 := fw5.trans eb
          go_wp2_with fail
          have hb6 := Blk.new w5 [.bool d, .pointer p] 27
          generalize w5.alloc (.cells #[.bool d, .pointer p] 27) = w6 at eb ew6 fw6 hb6 ⊢
          have hI := ref03_valid ⟨xk, xn, xs⟩ w6
          with_reducible refine hI.mono ?_
          clear hI
          rintro x w8 ⟨rfl, hw8⟩
          have ew8 := ew6.trans hw8
          have fw8 := fw6.trans hw8
          have gw8 := hw8
          obtain ⟨z0, z1⟩ := boxT hb6
          have r0 := HL.out.2.2.1.freeF 0
          have r1 := HL.out.2.2.1.freeF 1
          clear hb6 ew5 fw5 ew6 fw6
          rw [hv']
          go_wp2_with fail
          have hk := (HL.out.2.2.1.ext ew8).set2 (a := .bool d) (b := .pointer p)
          have hbt := ExtBut.set2 w8 (g) (.bool d) (.pointer p)
          generalize (World.setCell w8 ⟨g, 0, none⟩ (.bool d)).setCell ⟨g, 1, none⟩ (.pointer p) = w10 at hk hbt ⊢
          have hN : PlayRel S w d w.heap.size g (k + 1) l p t (.slice ma l.length mc) w10 := by
            refine ⟨hbt.ext (HL.out.1.trans ew8) (fun b h => by omega), (HL.out.2.1.ext ew8).but (by omega) hbt, hk, ((HL.out.2.2.2.1.ext ew8).but (fun b h => h.2.2) hbt), HL.out.2.2.2.2.1, HL.out.2.2.2.2.2.1, (HL.out.2.2.2.2.2.2.1.ext ew8).but (fun b h => h.2.2) hbt, HL.out.2.2.2.2.2.2.2.1.succ, fun b hb => HL.out.2.2.2.2.2.2.2.2 b (Nat.le_trans (ew8).size (Nat.le_trans hbt.1 hb))⟩
          have HN := Lib.hid hN
          clear hN hk hbt r0 r1
          go_roundw
          case rel => exact ⟨k + 1, p, t, by omega, by go_num, by rw [HP.out.1, actL, if_neg HQ.out, if_neg (fun h => hv h.1)]; exact HN⟩
          case measure => simp [intOf]; omega
    · obtain rfl : k = la.length := by omega
      have hls := HL.out.2.2.2.2.2.2.2.1
      rw [List.take_length] at *
      have er := Ext.refl wr
      obtain ⟨r0, r1⟩ := boxT HL.out.2.1
      have s0 := HL.out.2.1.freeF 0
      have s1 := HL.out.2.1.freeF 1
      have hlo : g ≠ w.heap.size := by omega
      generalize playL d la = l at *
      obtain ⟨ma, mc, rfl, -⟩ := HL.out.2.2.2.2.2.2.1
      go_wp2_with fail
      have hbt := ExtBut.set2 wr w.heap.size (.bool d) (.pointer p)
      have hkk := (HL.out.2.1).set2 (a := .bool d) (b := .pointer p)
      generalize (World.setCell wr ⟨w.heap.size, 0, none⟩ (.bool d)).setCell ⟨w.heap.size, 1, none⟩ (.pointer p) = w9 at hkk hbt ⊢
      have c0 := hkk.cell 0
      have c1 := hkk.cell 1
      clear hkk
      refine bodyPost_ret (v := .tuple #[.agg #[.bool d, .pointer p], .slice ma l.length mc, .bool true]) (by simp [results, Try.results22, go_sem, c0, c1]) rfl ?_
      exact ⟨p, t, ma, mc, rfl, hbt.ext HL.out.1 (fun b h => by omega), (HL.out.2.2.2.1.but (fun b h => h.2.1) hbt).mono (fun b h => h.1), HL.out.2.2.2.2.1, HL.out.2.2.2.2.2.1, (HL.out.2.2.2.2.2.2.1.but (fun b h => h.2.1) hbt).mono (fun b h => h.1), hls⟩
end Go.Proofs.Ytbbnpicddmplbaa

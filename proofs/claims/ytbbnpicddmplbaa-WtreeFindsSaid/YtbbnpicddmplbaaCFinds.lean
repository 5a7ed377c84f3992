/- WtreeFinds returns true for every input, and its arguments read afterwards as before. No condition. -/
import Derived.Test.YtbbnpicddmplbaaLaw
import Derived.Test.YtbbnpicddmplbaaFdP
import Derived.Deep.DeepCutAuto
namespace Go.Proofs.Ytbbnpicddmplbaa
open Go.ChangeShapes Go.WideShapes Go.ChangeAt Go.RowKit
set_option linter.unusedVariables false
set_option linter.unusedSimpArgs false
variable {S : Nat → Prop}


/-- What Find says, in one form. -/
def FindOK (S : Nat → Prop) (F0 : Option (GV × Nat)) (v : GV) (na : Option Addr) (nk nc : Nat) (er : Int) (w : World) : Prop :=
  ∃ p, NatV S w (.slice na nk nc) p ∧ ((F0 = none ∧ er = 3 ∧ v = ⟨0, 0, ⟨#[]⟩⟩ ∧ nk = 0) ∨ (F0 = some (v, p) ∧ er = 0))
theorem FindOK.ext {F0 : Option (GV × Nat)} {v : GV} {na : Option Addr} {nk nc : Nat} {er : Int} {w w' : World} (h : FindOK S F0 v na nk nc er w) (e : Ext w w') : FindOK S F0 v na nk nc er w' := by
  obtain ⟨p, h1, h2⟩ := h
  exact ⟨p, h1.ext e, h2⟩
theorem FindOK.but {G : Nat → Prop} {F0 : Option (GV × Nat)} {v : GV} {na : Option Addr} {nk nc : Nat} {er : Int} {w w' : World} (h : FindOK S F0 v na nk nc er w) (hg : ∀ b, S b → ¬ G b) (e : ExtBut G w w') : FindOK S F0 v na nk nc er w' := by
  obtain ⟨p, h1, h2⟩ := h
  exact ⟨p, h1.but hg e, h2⟩
theorem FindOK.mono {S' : Nat → Prop} {F0 : Option (GV × Nat)} {v : GV} {na : Option Addr} {nk nc : Nat} {er : Int} {w : World} (h : FindOK S F0 v na nk nc er w) (hm : ∀ b, S b → S' b) : FindOK S' F0 v na nk nc er w := by
  obtain ⟨p, h1, h2⟩ := h
  exact ⟨p, h1.mono hm, h2⟩
theorem FindOK.old {F0 : Option (GV × Nat)} {v : GV} {na : Option Addr} {nk nc : Nat} {er : Int} {w : World} (h : FindOK S F0 v na nk nc er w) : FindOK (fun b => S b ∧ b < w.heap.size) F0 v na nk nc er w := by
  obtain ⟨p, h1, h2⟩ := h
  exact ⟨p, h1.old, h2⟩
theorem find_any {F0 : Option (GV × Nat)} {H : Nat} {w w' : World} {e : Ending} (h : FindRes S F0 H w e w') :
    ∃ (vk vn : Int) (vs : ByteArray) (na : Option Addr) (nk nc vis : Nat) (er : Int), e = .returned (.tuple #[.agg #[.int .i64 vk, .int .i64 vn, .string vs], .slice na nk nc, .int .i64 (vis : Nat), .int .i64 er]) ∧ Ext w w' ∧ vis ≤ H ∧ FindOK S F0 ⟨vk, vn, vs⟩ na nk nc er w' := by
  obtain ⟨h1, ⟨h2, rfl⟩ | ⟨x, p, sv, n, h2, rfl, h4, h3⟩⟩ := h
  · exact ⟨0, 0, ⟨#[]⟩, none, 0, 0, 0, 3, rfl, h1, Nat.zero_le _, 0, NatV.zero _, .inl ⟨h2, rfl, rfl, rfl⟩⟩
  · obtain ⟨a, k, c, rfl⟩ := slice_of_nat h3
    obtain ⟨xk, xn, xs⟩ := x
    exact ⟨xk, xn, xs, a, k, c, n, 0, rfl, h1, h4, p, h3, .inr ⟨h2, rfl⟩⟩
/-- What the third statement of WtreeFinds leaves. -/
def FdCut (F0 : Option (GV × Nat)) (H : Nat) (w0 : World) (gb : Nat) (vk vn : Int) (vs : ByteArray) (na : Option Addr) (nk nc vis : Nat) (er : Int) (wx : World) : Prop :=
  Ext w0 wx ∧ vis ≤ H ∧ Blk wx gb [.int .i64 vk, .int .i64 vn, .string vs] 38 ∧ FindOK (fun _ => True) F0 ⟨vk, vn, vs⟩ na nk nc er wx
set_option maxHeartbeats 8000000 in
set_option maxRecDepth 100000 in
theorem WtreeFinds_main {w : World} {lv : Value} {la : List GAct} {d : Bool} {K : Nat} {qk qn : Int} {qs : ByteArray} (hyp : ActsV w lv la ∧ K < 18446744073709551616 ∧ qs.size ≤ 9223372036854775807) : Calls Try.prog 4 #[lv, .bool d, .agg #[.int .u64 (K : Nat), .int .i64 qk, .int .i64 qn, .string qs]] w (BoolRes true w) := by
  obtain ⟨hl, hK, hqs⟩ := hyp
  obtain ⟨a, cap, rfl, hrest⟩ := id hl
  have HL := Lib.hid hl
  clear hl hrest
  go_enter Try.func4, Try.ntmps4
  go_wp2_with fail
  have e0 := Ext.alloc w (.cells #[.int .u64 (K : Nat), .int .i64 qk, .int .i64 qn, .string qs] 52)
  have hb0 := Blk.new w [.int .u64 (K : Nat), .int .i64 qk, .int .i64 qn, .string qs] 52
  generalize w.alloc (.cells #[.int .u64 (K : Nat), .int .i64 qk, .int .i64 qn, .string qs] 52) = w0 at e0 hb0 ⊢
  have hI := great_c (HL.out.ext e0)
  with_reducible refine hI.mono ?_
  clear hI
  rintro e w1 ⟨rfl, hw1⟩
  have k0 : ∀ W, Ext w0 W → W.cell? ⟨w.heap.size, 0, none⟩ = some (.int .u64 (K : Nat)) := fun W e => (hb0.ext e).cell 0
  have k1 : ∀ W, Ext w0 W → W.cell? ⟨w.heap.size, 1, none⟩ = some (.int .i64 qk) := fun W e => (hb0.ext e).cell 1
  have k2 : ∀ W, Ext w0 W → W.cell? ⟨w.heap.size, 2, none⟩ = some (.int .i64 qn) := fun W e => (hb0.ext e).cell 2
  have k3 : ∀ W, Ext w0 W → W.cell? ⟨w.heap.size, 3, none⟩ = some (.string qs) := fun W e => (hb0.ext e).cell 3
  clear hb0
  cases hg : greatB la
  · have hlen := not_great hg
    clear hg
    by_cases hq : 100 < qs.size
    · have hqb : decide ((100 : Int) < (qs.size : Int)) = true := by simp; omega
      go_wp2_with fail
      with_reducible refine (awake_c (w := w1)).mono ?_
      rintro e w2 ⟨rfl, hw2⟩
      go_wp2_with fail
      go_ret
      exact ⟨rfl, (e0.trans hw1).trans hw2⟩
    · have hqb : decide ((100 : Int) < (qs.size : Int)) = false := by simp; omega
      go_wp2_with fail
      clear hqb
      have hI := played_c (S := fun _ => True) (Fresh.all w1) d (HL.out.ext (e0.trans hw1)) hlen
      with_reducible refine hI.mono ?_
      clear hI
      generalize playL d la = l
      rintro e w2 ⟨p, t, ma, mc, rfl, hw2, h1, h2, h3, h4, h5⟩
      have hS : Same (fun _ => True) d la.length l p t (.slice ma l.length mc) w2 := ⟨h1, h2, h3, h4, h5⟩
      clear h1 h2 h3 h4 h5
      have hf := hS.facts (by omega)
      have f2 := hw1.trans hw2
      have e3 := Ext.alloc w2 (.cells #[.bool d, .pointer p] 27)
      have hb3 := Blk.new w2 [.bool d, .pointer p] 27
      have f3 := f2.trans e3
      have HS' := Lib.hid (And.intro (hS.ext e3) (And.intro hf (e0.trans f3)))
      clear hS hf f2
      go_wp2_with fail
      generalize w2.alloc (.cells #[.bool d, .pointer p] 27) = w3 at e3 hb3 HS' f3 ⊢
      have HB : Hid (tot t < bigN) := by rw [Hid, HS'.out.2.1.2.1]; exact bigN_gt' (by have := HS'.out.2.1.2.2.2; omega)
      have hI := rFind_c K hK HS'.out.1.2.2.2.1 (by have := HS'.out.2.1.2.2.2; omega)
      with_reducible refine hI.mono ?_
      clear hI
      rintro e w5 ⟨rfl, hw5⟩
      obtain ⟨q0, q1⟩ := boxT (hb3.ext hw5)
      have f5 := f3.trans hw5
      have g5 := Ext.refl w5
      have HS := Lib.hid (And.intro (HS'.out.1.ext hw5) (And.intro HS'.out.2.1 (HS'.out.2.2.trans hw5)))
      obtain ⟨ma', mc', hmv, hmc1, hmc2, hmc3, hmrow⟩ := id HS.out.1.2.2.2.1
      obtain ⟨rfl, rfl⟩ : ma = ma' ∧ mc = mc' := by cases hmv; exact ⟨rfl, rfl⟩
      have HR := Lib.hid hmrow
      clear hmv hmc3 hmrow
      generalize hix : findIx K l 0 0 = ix
      obtain ⟨ii, fr⟩ := ix
      have HIX := Lib.hid hix
      clear hb3 e3 HS' f3 hix hw5
      go_upto_region 7 with fail
      go_cut [12, 13, 14, 15] (fun s12 s13 s14 s15 wx => ∃ (gb : Nat) (vk vn : Int) (vs : ByteArray) (na : Option Addr) (nk nc vis : Nat) (er : Int), s12 = .pointer (some ⟨gb, 0, none⟩) ∧ s13 = .slice na nk nc ∧ s14 = .int .i64 (vis : Nat) ∧ s15 = .int .i64 er ∧ Hid (FdCut (findL 0 K l) (ht t) w5 gb vk vn vs na nk nc vis er wx))
      case first =>
        have Ew5 := Lib.hid (Ext.refl w5)
        have Fw5 := Lib.hid f5
        refine wp_region_mixE 41 [(0, 0), (1, 3), (2, 0), (24, 4), (3, 1), (11, 4), (4, 1), (5, 3), (6, 3), (7, 3), (8, 3), (9, 3), (10, 1), (11, 2), (12, 3), (13, 3), (14, 3), (10, 1), (4, 1), (5, 3), (6, 3), (7, 3), (8, 3), (9, 3), (11, 2), (12, 3), (13, 3), (14, 3), (10, 1), (3, 1), (4, 1), (5, 3), (6, 3), (7, 3), (8, 3), (9, 3), (11, 2), (12, 3), (13, 3), (14, 3)] (by kernel_rfl) (fun _ _ d _ _ h => by cases d <;> exact h) ?_
        intro w6 hw6
        simp only [List.map_cons, List.map_nil, mixPick_lt _ _ 0 rfl, mixPick_lt _ _ 1 rfl, mixPick_lt _ _ 2 rfl, mixPick_lt _ _ 3 rfl, mixPick_fork, List.getD_cons_zero, List.getD_cons_succ]
        generalize yielded _ = y
        have Ew6 := Lib.hid (Ew5.out.trans hw6)
        have Fw6 := Lib.hid (Fw5.out.trans hw6)
        have tew6 := fun W (h : Ext w6 W) => Ew6.out.trans h
        have tfw6 := fun W (h : Ext w6 W) => Fw6.out.trans h
        repeat (first | (refine mx_pu (v := ?_) rfl (fun W => ?_) ?_; rotate_left; (focus (go_simp <;> with_reducible rfl)); simp only [Act.put, List.setIfInBounds_toArray, List.set_cons_zero, List.set_cons_succ]) | (refine mx_st (v := ?_) rfl (fun W hW => ?_) ?_; rotate_left; (focus (go_simp <;> with_reducible rfl)); simp only [Act.put, List.setIfInBounds_toArray, List.set_cons_zero, List.set_cons_succ]))
        refine mx_two ?_ ?_
        · simp only [List.take_succ_cons, List.take_zero]
          refine mx_call (f := ?_) (args := ?_) rfl ?_ ?_
          rotate_left 2
          focus (go_simp <;> (refine ⟨?_, ?_⟩ <;> with_reducible rfl))
          have hI := of_nat' (S := fun _ => True) (w := w6) (Fresh.all _) (K : Nat) K rfl hK
          with_reducible refine hI.mono ?_
          clear hI
          rintro e' w7 ⟨v4, rfl, hw7, l4, d4, n4, e4⟩
          obtain ⟨a4, c4, rfl, -⟩ := id d4
          refine ⟨_, rfl, hw7, ?_⟩
          simp only [Act.put, List.setIfInBounds_toArray, List.set_cons_zero, List.set_cons_succ]
          have Ew7 := Lib.hid (Ew6.out.trans hw7)
          have tew7 := fun W (h : Ext w7 W) => Ew7.out.trans h
          clear tew6
          have hz7 := hw7.size
          have D4 := Lib.hid (And.intro d4 e4)
          clear d4 n4 e4
          repeat (first | (refine mx_pu (v := ?_) rfl (fun W => ?_) ?_; rotate_left; (focus (go_simp <;> with_reducible rfl)); simp only [Act.put, List.setIfInBounds_toArray, List.set_cons_zero, List.set_cons_succ]) | (refine mx_st (v := ?_) rfl (fun W hW => ?_) ?_; rotate_left; (focus (go_simp <;> with_reducible rfl)); simp only [Act.put, List.setIfInBounds_toArray, List.set_cons_zero, List.set_cons_succ]))
          refine mx_two ?_ ?_
          · simp only [List.take_succ_cons, List.take_zero]
            refine mx_call (f := ?_) (args := ?_) rfl ?_ ?_
            rotate_left 2
            focus (go_simp <;> (refine ⟨?_, ?_⟩ <;> with_reducible rfl))
            have hI := Find_c (S := fun _ => True) (w := w7) (Fresh.all _) d p (D4.out.1) (t := t) (HS.out.1.1.old.mono (S' := fun _ => True) (fun b h => trivial) |>.ext Ew7.out) (by rw [HS.out.2.1.1]; have := HS.out.2.1.2.2.1; omega) HB.out
            rw [D4.out.2, HS.out.1.2.2.1] at hI
            with_reducible refine hI.mono ?_
            clear hI
            intro e' w8 hF
            obtain ⟨xk, xn, xs, na, nk, nc, vis, er, rfl, hw8, hvis, hok⟩ := find_any hF
            clear hF
            refine ⟨_, rfl, hw8, ?_⟩
            simp only [Act.put, List.setIfInBounds_toArray, List.set_cons_zero, List.set_cons_succ]
            have Ew8 := Lib.hid (Ew7.out.trans hw8)
            have tew8 := fun W (h : Ext w8 W) => Ew8.out.trans h
            clear tew7
            have hz8 := hw8.size
            have HN := Lib.hid hok
            clear hok
            repeat (first | (refine mx_pu (v := ?_) rfl (fun W => ?_) ?_; rotate_left; (focus (go_simp <;> with_reducible rfl)); simp only [Act.put, List.setIfInBounds_toArray, List.set_cons_zero, List.set_cons_succ]) | (refine mx_st (v := ?_) rfl (fun W hW => ?_) ?_; rotate_left; (focus (go_simp <;> with_reducible rfl)); simp only [Act.put, List.setIfInBounds_toArray, List.set_cons_zero, List.set_cons_succ]))
            refine mx_al (v := ?_) (cs := ?_) (t := ?_) rfl ?_ (fun _ h => h) ?_
            rotate_left 3
            focus (go_simp <;> (first | with_reducible rfl | (refine ⟨?_, ?_⟩ <;> with_reducible rfl)))
            intro w9 hw9 hb0
            simp only [Act.put, List.setIfInBounds_toArray, List.set_cons_zero, List.set_cons_succ]
            have Ew9 := Lib.hid (Ew8.out.trans hw9)
            have tew9 := fun W (h : Ext w9 W) => Ew9.out.trans h
            clear tew8
            have hbl : Blk w9 w8.heap.size [.int .i64 0, .int .i64 0, .string ⟨#[]⟩] 38 := hb0
            clear hb0
            have hgb : w8.heap.size < w9.heap.size := hbl.lt
            have hgl : w5.heap.size ≤ w8.heap.size := Ew8.out.size
            generalize hgbe : w8.heap.size = gb at *
            have HGB := Lib.hid hgbe
            clear hgbe
            repeat (first | (refine mx_pu (v := ?_) rfl (fun W => ?_) ?_; rotate_left; (focus (go_simp <;> with_reducible rfl)); simp only [Act.put, List.setIfInBounds_toArray, List.set_cons_zero, List.set_cons_succ]) | (refine mx_st (v := ?_) rfl (fun W hW => ?_) ?_; rotate_left; (focus (go_simp <;> with_reducible rfl)); simp only [Act.put, List.setIfInBounds_toArray, List.set_cons_zero, List.set_cons_succ]))
            have hbc := hbl
            obtain ⟨z0, z1, z2⟩ := boxV hbc
            have v0 := hbc.freeF 0
            have v1 := hbc.freeF 1
            have v2 := hbc.freeF 2
            have er9 := Ext.refl w9
            have HBL := Lib.hid hbc
            clear hbl hbc
            refine mx_ts (w' := ?_) rfl ?_ ?_
            rotate_left
            focus (go_simp <;> with_reducible rfl)
            have hk := HBL.out.set3' (a := .int .i64 xk) (b := .int .i64 xn) (c := .string xs)
            have hbt := ExtBut.set3 (G := fun b => b = gb) w9 gb (.int .i64 xk) (.int .i64 xn) (.string xs) rfl
            generalize ((World.setCell w9 ⟨gb, 0, none⟩ (.int .i64 xk)).setCell ⟨gb, 1, none⟩ (.int .i64 xn)).setCell ⟨gb, 2, none⟩ (.string xs) = w10 at hk hbt ⊢
            clear er9 z0 z1 z2 v0 v1 v2
            simp only [Act.put, List.setIfInBounds_toArray, List.set_cons_zero, List.set_cons_succ]
            repeat (first | (refine mx_pu (v := ?_) rfl (fun W => ?_) ?_; rotate_left; (focus (go_simp <;> with_reducible rfl)); simp only [Act.put, List.setIfInBounds_toArray, List.set_cons_zero, List.set_cons_succ]) | (refine mx_st (v := ?_) rfl (fun W hW => ?_) ?_; rotate_left; (focus (go_simp <;> with_reducible rfl)); simp only [Act.put, List.setIfInBounds_toArray, List.set_cons_zero, List.set_cons_succ]))
            refine mx_nil ?_
            have HX : Hid (FdCut (findL 0 K l) (ht t) w5 gb xk xn xs na nk nc vis er w10) := ⟨hbt.ext Ew9.out (fun b h => by subst h; exact hgl), hvis, hk, (((HN.out.old.mono (S' := fun b => b < gb) (fun b h => by have := h.2; have := HGB.out; omega)).ext hw9).but (fun b h => by omega) hbt).mono (fun _ _ => trivial)⟩
            clear hk hbt
            go_wp2_with fail
            go_meet
            exact ⟨gb, xk, xn, xs, na, nk, nc, vis, er, rfl, rfl, rfl, rfl, HX⟩
          · simp only [List.drop_succ_cons, List.drop_zero]
            refine mx_al (v := ?_) (cs := ?_) (t := ?_) rfl ?_ (fun _ h => h) ?_
            rotate_left 3
            focus (go_simp <;> (first | with_reducible rfl | (refine ⟨?_, ?_⟩ <;> with_reducible rfl)))
            intro w8 hw8 hb0
            simp only [Act.put, List.setIfInBounds_toArray, List.set_cons_zero, List.set_cons_succ]
            have Ew8 := Lib.hid (Ew7.out.trans hw8)
            have tew8 := fun W (h : Ext w8 W) => Ew8.out.trans h
            clear tew7
            have hbl : Blk w8 w7.heap.size [.int .i64 0, .int .i64 0, .string ⟨#[]⟩] 38 := hb0
            clear hb0
            have hgb : w7.heap.size < w8.heap.size := hbl.lt
            have hgl : w5.heap.size ≤ w7.heap.size := Ew7.out.size
            generalize hgbe : w7.heap.size = gb at *
            have HGB := Lib.hid hgbe
            clear hgbe
            repeat (first | (refine mx_pu (v := ?_) rfl (fun W => ?_) ?_; rotate_left; (focus (go_simp <;> with_reducible rfl)); simp only [Act.put, List.setIfInBounds_toArray, List.set_cons_zero, List.set_cons_succ]) | (refine mx_st (v := ?_) rfl (fun W hW => ?_) ?_; rotate_left; (focus (go_simp <;> with_reducible rfl)); simp only [Act.put, List.setIfInBounds_toArray, List.set_cons_zero, List.set_cons_succ]))
            refine mx_call (f := ?_) (args := ?_) rfl ?_ ?_
            rotate_left 2
            focus (go_simp <;> (refine ⟨?_, ?_⟩ <;> with_reducible rfl))
            have hI := Find_c (S := fun b => b ≠ gb) (w := w8) (Fresh.ne (by omega)) d p ((D4.out.1.old.mono (fun b h => by have := h.2; have := HGB.out; omega)).ext hw8) (t := t) (HS.out.1.1.old.mono (S' := fun b => b ≠ gb) (fun b h => by have := h.2; omega) |>.ext Ew8.out) (by rw [HS.out.2.1.1]; have := HS.out.2.1.2.2.1; omega) HB.out
            rw [D4.out.2, HS.out.1.2.2.1] at hI
            with_reducible refine hI.mono ?_
            clear hI
            intro e' w9 hF
            obtain ⟨xk, xn, xs, na, nk, nc, vis, er, rfl, hw9, hvis, hok⟩ := find_any hF
            clear hF
            refine ⟨_, rfl, hw9, ?_⟩
            simp only [Act.put, List.setIfInBounds_toArray, List.set_cons_zero, List.set_cons_succ]
            have Ew9 := Lib.hid (Ew8.out.trans hw9)
            have tew9 := fun W (h : Ext w9 W) => Ew9.out.trans h
            clear tew8
            have hz9 := hw9.size
            have HN := Lib.hid hok
            clear hok
            repeat (first | (refine mx_pu (v := ?_) rfl (fun W => ?_) ?_; rotate_left; (focus (go_simp <;> with_reducible rfl)); simp only [Act.put, List.setIfInBounds_toArray, List.set_cons_zero, List.set_cons_succ]) | (refine mx_st (v := ?_) rfl (fun W hW => ?_) ?_; rotate_left; (focus (go_simp <;> with_reducible rfl)); simp only [Act.put, List.setIfInBounds_toArray, List.set_cons_zero, List.set_cons_succ]))
            have hbl := hbl.ext hw9
            have hbc := hbl
            obtain ⟨z0, z1, z2⟩ := boxV hbc
            have v0 := hbc.freeF 0
            have v1 := hbc.freeF 1
            have v2 := hbc.freeF 2
            have er9 := Ext.refl w9
            have HBL := Lib.hid hbc
            clear hbl hbc
            refine mx_ts (w' := ?_) rfl ?_ ?_
            rotate_left
            focus (go_simp <;> with_reducible rfl)
            have hk := HBL.out.set3' (a := .int .i64 xk) (b := .int .i64 xn) (c := .string xs)
            have hbt := ExtBut.set3 (G := fun b => b = gb) w9 gb (.int .i64 xk) (.int .i64 xn) (.string xs) rfl
            generalize ((World.setCell w9 ⟨gb, 0, none⟩ (.int .i64 xk)).setCell ⟨gb, 1, none⟩ (.int .i64 xn)).setCell ⟨gb, 2, none⟩ (.string xs) = w10 at hk hbt ⊢
            clear er9 z0 z1 z2 v0 v1 v2
            simp only [Act.put, List.setIfInBounds_toArray, List.set_cons_zero, List.set_cons_succ]
            repeat (first | (refine mx_pu (v := ?_) rfl (fun W => ?_) ?_; rotate_left; (focus (go_simp <;> with_reducible rfl)); simp only [Act.put, List.setIfInBounds_toArray, List.set_cons_zero, List.set_cons_succ]) | (refine mx_st (v := ?_) rfl (fun W hW => ?_) ?_; rotate_left; (focus (go_simp <;> with_reducible rfl)); simp only [Act.put, List.setIfInBounds_toArray, List.set_cons_zero, List.set_cons_succ]))
            refine mx_nil ?_
            have HX : Hid (FdCut (findL 0 K l) (ht t) w5 gb xk xn xs na nk nc vis er w10) := ⟨hbt.ext Ew9.out (fun b h => by subst h; exact hgl), hvis, hk, ((HN.out).but (fun b h => by omega) hbt).mono (fun _ _ => trivial)⟩
            clear hk hbt
            go_wp2_with fail
            go_meet
            exact ⟨gb, xk, xn, xs, na, nk, nc, vis, er, rfl, rfl, rfl, rfl, HX⟩
        · simp only [List.drop_succ_cons, List.drop_zero]
          refine mx_al (v := ?_) (cs := ?_) (t := ?_) rfl ?_ (fun _ h => h) ?_
          rotate_left 3
          focus (go_simp <;> (first | with_reducible rfl | (refine ⟨?_, ?_⟩ <;> with_reducible rfl)))
          intro w7 hw7 hb0
          simp only [Act.put, List.setIfInBounds_toArray, List.set_cons_zero, List.set_cons_succ]
          have Ew7 := Lib.hid (Ew6.out.trans hw7)
          have tew7 := fun W (h : Ext w7 W) => Ew7.out.trans h
          clear tew6
          have hbl : Blk w7 w6.heap.size [.int .i64 0, .int .i64 0, .string ⟨#[]⟩] 38 := hb0
          clear hb0
          have hgb : w6.heap.size < w7.heap.size := hbl.lt
          have hgl : w5.heap.size ≤ w6.heap.size := Ew6.out.size
          generalize hgbe : w6.heap.size = gb at *
          have HGB := Lib.hid hgbe
          clear hgbe
          repeat (first | (refine mx_pu (v := ?_) rfl (fun W => ?_) ?_; rotate_left; (focus (go_simp <;> with_reducible rfl)); simp only [Act.put, List.setIfInBounds_toArray, List.set_cons_zero, List.set_cons_succ]) | (refine mx_st (v := ?_) rfl (fun W hW => ?_) ?_; rotate_left; (focus (go_simp <;> with_reducible rfl)); simp only [Act.put, List.setIfInBounds_toArray, List.set_cons_zero, List.set_cons_succ]))
          refine mx_call (f := ?_) (args := ?_) rfl ?_ ?_
          rotate_left 2
          focus (go_simp <;> (refine ⟨?_, ?_⟩ <;> with_reducible rfl))
          have hI := of_nat' (S := fun b => b ≠ gb) (w := w7) (Fresh.ne (by omega)) (K : Nat) K rfl hK
          with_reducible refine hI.mono ?_
          clear hI
          rintro e' w8 ⟨v4, rfl, hw8, l4, d4, n4, e4⟩
          obtain ⟨a4, c4, rfl, -⟩ := id d4
          refine ⟨_, rfl, hw8, ?_⟩
          simp only [Act.put, List.setIfInBounds_toArray, List.set_cons_zero, List.set_cons_succ]
          have Ew8 := Lib.hid (Ew7.out.trans hw8)
          have tew8 := fun W (h : Ext w8 W) => Ew8.out.trans h
          clear tew7
          have hz8 := hw8.size
          have D4 := Lib.hid (And.intro d4 e4)
          clear d4 n4 e4
          repeat (first | (refine mx_pu (v := ?_) rfl (fun W => ?_) ?_; rotate_left; (focus (go_simp <;> with_reducible rfl)); simp only [Act.put, List.setIfInBounds_toArray, List.set_cons_zero, List.set_cons_succ]) | (refine mx_st (v := ?_) rfl (fun W hW => ?_) ?_; rotate_left; (focus (go_simp <;> with_reducible rfl)); simp only [Act.put, List.setIfInBounds_toArray, List.set_cons_zero, List.set_cons_succ]))
          refine mx_call (f := ?_) (args := ?_) rfl ?_ ?_
          rotate_left 2
          focus (go_simp <;> (refine ⟨?_, ?_⟩ <;> with_reducible rfl))
          have hI := Find_c (S := fun b => b ≠ gb) (w := w8) (Fresh.ne (by omega)) d p (D4.out.1) (t := t) (HS.out.1.1.old.mono (S' := fun b => b ≠ gb) (fun b h => by have := h.2; omega) |>.ext Ew8.out) (by rw [HS.out.2.1.1]; have := HS.out.2.1.2.2.1; omega) HB.out
          rw [D4.out.2, HS.out.1.2.2.1] at hI
          with_reducible refine hI.mono ?_
          clear hI
          intro e' w9 hF
          obtain ⟨xk, xn, xs, na, nk, nc, vis, er, rfl, hw9, hvis, hok⟩ := find_any hF
          clear hF
          refine ⟨_, rfl, hw9, ?_⟩
          simp only [Act.put, List.setIfInBounds_toArray, List.set_cons_zero, List.set_cons_succ]
          have Ew9 := Lib.hid (Ew8.out.trans hw9)
          have tew9 := fun W (h : Ext w9 W) => Ew9.out.trans h
          clear tew8
          have hz9 := hw9.size
          have HN := Lib.hid hok
          clear hok
          repeat (first | (refine mx_pu (v := ?_) rfl (fun W => ?_) ?_; rotate_left; (focus (go_simp <;> with_reducible rfl)); simp only [Act.put, List.setIfInBounds_toArray, List.set_cons_zero, List.set_cons_succ]) | (refine mx_st (v := ?_) rfl (fun W hW => ?_) ?_; rotate_left; (focus (go_simp <;> with_reducible rfl)); simp only [Act.put, List.setIfInBounds_toArray, List.set_cons_zero, List.set_cons_succ]))
          have hbl := (hbl.ext hw8).ext hw9
          have hbc := hbl
          obtain ⟨z0, z1, z2⟩ := boxV hbc
          have v0 := hbc.freeF 0
          have v1 := hbc.freeF 1
          have v2 := hbc.freeF 2
          have er9 := Ext.refl w9
          have HBL := Lib.hid hbc
          clear hbl hbc
          refine mx_ts (w' := ?_) rfl ?_ ?_
          rotate_left
          focus (go_simp <;> with_reducible rfl)
          have hk := HBL.out.set3' (a := .int .i64 xk) (b := .int .i64 xn) (c := .string xs)
          have hbt := ExtBut.set3 (G := fun b => b = gb) w9 gb (.int .i64 xk) (.int .i64 xn) (.string xs) rfl
          generalize ((World.setCell w9 ⟨gb, 0, none⟩ (.int .i64 xk)).setCell ⟨gb, 1, none⟩ (.int .i64 xn)).setCell ⟨gb, 2, none⟩ (.string xs) = w10 at hk hbt ⊢
          clear er9 z0 z1 z2 v0 v1 v2
          simp only [Act.put, List.setIfInBounds_toArray, List.set_cons_zero, List.set_cons_succ]
          repeat (first | (refine mx_pu (v := ?_) rfl (fun W => ?_) ?_; rotate_left; (focus (go_simp <;> with_reducible rfl)); simp only [Act.put, List.setIfInBounds_toArray, List.set_cons_zero, List.set_cons_succ]) | (refine mx_st (v := ?_) rfl (fun W hW => ?_) ?_; rotate_left; (focus (go_simp <;> with_reducible rfl)); simp only [Act.put, List.setIfInBounds_toArray, List.set_cons_zero, List.set_cons_succ]))
          refine mx_nil ?_
          have HX : Hid (FdCut (findL 0 K l) (ht t) w5 gb xk xn xs na nk nc vis er w10) := ⟨hbt.ext Ew9.out (fun b h => by subst h; exact hgl), hvis, hk, ((HN.out).but (fun b h => by omega) hbt).mono (fun _ _ => trivial)⟩
          clear hk hbt
          go_wp2_with fail
          go_meet
          exact ⟨gb, xk, xn, xs, na, nk, nc, vis, er, rfl, rfl, rfl, rfl, HX⟩
      case rest =>
        obtain ⟨gb, vk, vn, vs, na, nk, nc, vis, er, rfl, rfl, rfl, rfl, HX⟩ := hcut
        have ec := HX.out.1
        have fc := f5.trans ec
        have hvis : vis ≤ ht t := HX.out.2.1
        have hv1 : decide (ht t < vis) = false := by simp; omega
        obtain ⟨u0, u1, u2⟩ := boxV HX.out.2.2.1
        clear f5 g5
        go_wp2_with fail
        have hI := Height_c (d := d) (HS.out.1.1.ext ec)
        with_reducible refine hI.mono ?_
        clear hI
        rintro e w7 ⟨rfl, g7⟩
        have e7 := ec.trans g7
        have f7 := fc.trans g7
        rcases findIx_find (K := K) (l := l) (k := 0) (σ := 0) with ⟨h1, h2⟩ | ⟨i, x, n, p0, h1, h2, h3, h4⟩
        · rw [HIX.out] at h2
          cases h2
          have hx4 := HX.out.2.2.2
          rw [h1] at hx4
          obtain ⟨p1, hp1, ⟨-, rfl, hv, rfl⟩ | ⟨hF, -⟩⟩ := hx4
          rotate_left
          · cases hF
          cases hv
          clear hp1 h1
          go_wp2_with fail
          clear hv1 ec fc
          have ey := e7
          have fy := f7
          have hI := Get_c (Fresh.all w7) d p ⟨qk, qn, qs⟩ (HS.out.1.1.ext ey) (by rw [HS.out.1.2.2.1]; exact HS.out.1.2.2.2.2.1) (by rw [HS.out.2.1.1]; have := HS.out.2.1.2.2.1; omega) HB.out
          rw [HS.out.1.2.2.1] at hI
          with_reducible refine hI.mono ?_
          clear hI
          rcases idxL_look (d := d) (v := ⟨qk, qn, qs⟩) (l := l) (k := 0) with ⟨m1, m2⟩ | ⟨j2, n2, m1, m2, m3⟩
          · rw [m1]
            rintro e w20 ⟨hw20, ⟨-, rfl⟩ | ⟨n', wv, hF1, -, -⟩⟩
            rotate_left
            · cases hF1
            have e20 := ey.trans hw20
            have f20 := fy.trans hw20
            have HM2 := Lib.hid (And.intro m1 m2)
            clear m1 m2 ey fy
            go_wp2_with fail
            have hI := rIndex_c d ⟨qk, qn, qs⟩ (HS.out.1.2.2.2.1.ext e20)
            rw [HM2.out.2] at hI
            with_reducible refine hI.mono ?_
            clear hI
            rintro e w21 ⟨rfl, hw21⟩
            have e21 := e20.trans hw21
            have f21 := f20.trans hw21
            clear e20 f20
            go_wp2_with fail
            have hI := Before_c (Fresh.all w21) d p ⟨qk, qn, qs⟩ (HS.out.1.1.ext e21) (by rw [HS.out.1.2.2.1]; exact HS.out.1.2.2.2.2.1) (by rw [HS.out.2.1.1]; have := HS.out.2.1.2.2.1; omega) HB.out
            rw [HS.out.1.2.2.1] at hI
            rw [HM2.out.1] at hI
            with_reducible refine hI.mono ?_
            clear hI
            rintro e w22 ⟨hw22, bv, vis2, rfl, hvis2, hbv⟩
            have e22 := e21.trans hw22
            have f22 := f21.trans hw22
            obtain ⟨ba, bk, bc, rfl⟩ := slice_of_nat hbv
            have HBV := Lib.hid hbv
            clear hbv e21 f21
            go_wp2_with fail
            have hsm := HS.out.2.1.2.2.2
            have hbl := befL_le d ⟨qk, qn, qs⟩ l
            have hI := rBefore_c d ⟨qk, qn, qs⟩ (HS.out.1.2.2.2.1.ext e22) (by omega)
            generalize befL d ⟨qk, qn, qs⟩ l = bf at *
            with_reducible refine hI.mono ?_
            clear hI
            rintro e w23 ⟨rfl, hw23⟩
            have e23 := e22.trans hw23
            have f23 := f22.trans hw23
            go_wp2_with fail
            have hI := is_c' (HBV.out.ext hw23) (bf : Nat) bf rfl (by omega)
            rw [decide_eq_true (Eq.refl bf)] at hI
            with_reducible refine hI.mono ?_
            clear hI
            rintro e w24 ⟨rfl, hw24⟩
            have e24 := e23.trans hw24
            have f24 := f23.trans hw24
            clear e22 f22 e23 f23 hsm hbl
            go_wp2_with fail
            have hI := rIndex_c d ⟨qk, qn, qs⟩ (HS.out.1.2.2.2.1.ext e24)
            rw [HM2.out.2] at hI
            with_reducible refine hI.mono ?_
            clear hI
            rintro e w25 ⟨rfl, hw25⟩
            have e25 := e24.trans hw25
            have f25 := f24.trans hw25
            go_wp2_with fail
            have hI := Height_c (d := d) (HS.out.1.1.ext e25)
            with_reducible refine hI.mono ?_
            clear hI
            rintro e w26 ⟨rfl, hw26⟩
            have hv2 : decide (vis2 ≤ ht t) = true := by simp; omega
            go_wp2_with fail
            with_reducible refine (awake_c (w := w26)).mono ?_
            rintro e w27 ⟨rfl, hw27⟩
            go_wp2_with fail
            go_ret
            exact ⟨rfl, (((e0.trans f25).trans hw26).trans hw27)⟩
          · rw [m1]
            rintro e w20 ⟨hw20, ⟨hF0, -⟩ | ⟨n', wv, hF1, rfl, hwv⟩⟩
            · cases hF0
            cases hF1
            have e20 := ey.trans hw20
            have f20 := fy.trans hw20
            obtain ⟨wa, wk, wc', rfl⟩ := slice_of_nat hwv
            have HWV := Lib.hid hwv
            rw [Nat.zero_add] at m2
            obtain ⟨bb, ob, hbb, s0, s1, s2, s3⟩ := row_item HR.out m3
            have hnb := HS.out.1.2.2.2.2.2.2.2 (⟨qk, qn, qs⟩, n2) (List.mem_of_getElem? m3)
            have hjl : j2 < l.length := (List.getElem?_eq_some_iff.1 m3).1
            simp only at hnb
            have HM2 := Lib.hid (And.intro m1 m2)
            clear m1 m2 m3 ey fy hwv
            cases hbb
            go_wp2_with fail
            have hI := rIndex_c d ⟨qk, qn, qs⟩ (HS.out.1.2.2.2.1.ext e20)
            rw [HM2.out.2] at hI
            with_reducible refine hI.mono ?_
            clear hI
            rintro e w21a ⟨rfl, hw21a⟩
            have e21a := e20.trans hw21a
            have f21a := f20.trans hw21a
            go_wp2_with fail
            have hI := is_c' (HWV.out.ext hw21a) (n2 : Nat) n2 rfl (by omega)
            rw [decide_eq_true (Eq.refl n2)] at hI
            with_reducible refine hI.mono ?_
            clear hI
            rintro e w21 ⟨rfl, hw21⟩
            have e21 := e21a.trans hw21
            have f21 := f21a.trans hw21
            clear e20 f20 e21a f21a
            go_wp2_with fail
            have hI := Before_c (Fresh.all w21) d p ⟨qk, qn, qs⟩ (HS.out.1.1.ext e21) (by rw [HS.out.1.2.2.1]; exact HS.out.1.2.2.2.2.1) (by rw [HS.out.2.1.1]; have := HS.out.2.1.2.2.1; omega) HB.out
            rw [HS.out.1.2.2.1] at hI
            rw [HM2.out.1] at hI
            with_reducible refine hI.mono ?_
            clear hI
            rintro e w22 ⟨hw22, bv, vis2, rfl, hvis2, hbv⟩
            have e22 := e21.trans hw22
            have f22 := f21.trans hw22
            obtain ⟨ba, bk, bc, rfl⟩ := slice_of_nat hbv
            have HBV := Lib.hid hbv
            clear hbv e21 f21
            go_wp2_with fail
            have hsm := HS.out.2.1.2.2.2
            have hbl := befL_le d ⟨qk, qn, qs⟩ l
            have hI := rBefore_c d ⟨qk, qn, qs⟩ (HS.out.1.2.2.2.1.ext e22) (by omega)
            generalize befL d ⟨qk, qn, qs⟩ l = bf at *
            with_reducible refine hI.mono ?_
            clear hI
            rintro e w23 ⟨rfl, hw23⟩
            have e23 := e22.trans hw23
            have f23 := f22.trans hw23
            go_wp2_with fail
            have hI := is_c' (HBV.out.ext hw23) (bf : Nat) bf rfl (by omega)
            rw [decide_eq_true (Eq.refl bf)] at hI
            with_reducible refine hI.mono ?_
            clear hI
            rintro e w24 ⟨rfl, hw24⟩
            have e24 := e23.trans hw24
            have f24 := f23.trans hw24
            clear e22 f22 e23 f23 hsm hbl
            go_wp2_with fail
            have hI := rIndex_c d ⟨qk, qn, qs⟩ (HS.out.1.2.2.2.1.ext e24)
            rw [HM2.out.2] at hI
            with_reducible refine hI.mono ?_
            clear hI
            rintro e w25 ⟨rfl, hw25⟩
            have e25 := e24.trans hw25
            have f25 := f24.trans hw25
            go_wp2_with fail
            have hI := Height_c (d := d) (HS.out.1.1.ext e25)
            with_reducible refine hI.mono ?_
            clear hI
            rintro e w26 ⟨rfl, hw26⟩
            have hv2 : decide (vis2 ≤ ht t) = true := by simp; omega
            go_wp2_with fail
            with_reducible refine (awake_c (w := w26)).mono ?_
            rintro e w27 ⟨rfl, hw27⟩
            go_wp2_with fail
            go_ret
            exact ⟨rfl, (((e0.trans f25).trans hw26).trans hw27)⟩
        · rw [HIX.out] at h3
          simp only [Prod.mk.injEq, Nat.zero_add] at h3
          obtain ⟨rfl, rfl⟩ := h3
          have hx4 := HX.out.2.2.2
          rw [h2] at hx4
          obtain ⟨p1, hp1, ⟨hF, -⟩ | ⟨hF, rfl⟩⟩ := hx4
          · cases hF
          cases hF
          obtain ⟨b1, o1, rfl, y0, y1, y2, y3⟩ := row_item HR.out h1
          have hil : i < l.length := (List.getElem?_eq_some_iff.1 h1).1
          have HP1 := Lib.hid hp1
          clear hp1 h2 h1
          have hfr : fr < 18446744073709551616 := by have := HS.out.2.1.2.2.2; omega
          clear h4
          go_wp2_with fail
          clear hv1 ec fc
          have Ew7 := Lib.hid e7
          have Fw7 := Lib.hid g7
          refine wp_region_mixE 18 [(0, 3), (1, 3), (2, 3), (3, 0), (4, 3), (5, 3), (6, 3), (7, 3), (8, 0), (9, 3), (10, 3), (11, 3), (12, 3), (13, 3), (14, 1), (15, 3), (16, 3)] (by kernel_rfl) (fun _ _ d _ _ h => by cases d <;> exact h) ?_
          intro w8 hw8
          simp only [List.map_cons, List.map_nil, mixPick_lt _ _ 0 rfl, mixPick_lt _ _ 1 rfl, mixPick_lt _ _ 2 rfl, mixPick_lt _ _ 3 rfl, mixPick_fork, List.getD_cons_zero, List.getD_cons_succ]
          have Ew8 := Lib.hid (Ew7.out.trans hw8)
          have Fw8 := Lib.hid (Fw7.out.trans hw8)
          have tew8 := fun W (h : Ext w8 W) => Ew8.out.trans h
          have tfw8 := fun W (h : Ext w8 W) => Fw8.out.trans h
          repeat (first | (refine mx_pu (v := ?_) rfl (fun W => ?_) ?_; rotate_left; (focus (go_simp <;> with_reducible rfl)); simp only [Act.put, List.setIfInBounds_toArray, List.set_cons_zero, List.set_cons_succ]) | (refine mx_no3 rfl ?_; simp only [Act.put, List.setIfInBounds_toArray, List.set_cons_zero, List.set_cons_succ]) | (refine mx_st (v := ?_) rfl (fun W hW => ?_) ?_; rotate_left; (focus (go_simp <;> with_reducible rfl)); simp only [Act.put, List.setIfInBounds_toArray, List.set_cons_zero, List.set_cons_succ]) | (refine mx_no0 rfl ?_; simp only [Act.put, List.setIfInBounds_toArray, List.set_cons_zero, List.set_cons_succ]) | (refine mx_no1 Ext.grows rfl ?_; simp only [Act.put, List.setIfInBounds_toArray, List.set_cons_zero, List.set_cons_succ]))
          refine mx_call (f := ?_) (args := ?_) rfl ?_ ?_
          rotate_left 2
          focus (go_simp <;> (refine ⟨?_, ?_⟩ <;> with_reducible rfl))
          have hI := is_c' ((HP1.out.ext g7).ext hw8) (fr : Nat) fr rfl hfr
          rw [decide_eq_true (Eq.refl fr)] at hI
          with_reducible refine hI.mono ?_
          clear hI
          rintro e w9 ⟨rfl, hw9⟩
          refine ⟨_, rfl, hw9, ?_⟩
          simp only [Act.put, List.setIfInBounds_toArray, List.set_cons_zero, List.set_cons_succ]
          repeat (first | (refine mx_pu (v := ?_) rfl (fun W => ?_) ?_; rotate_left; (focus (go_simp <;> with_reducible rfl)); simp only [Act.put, List.setIfInBounds_toArray, List.set_cons_zero, List.set_cons_succ]) | (refine mx_no3 rfl ?_; simp only [Act.put, List.setIfInBounds_toArray, List.set_cons_zero, List.set_cons_succ]) | (refine mx_st (v := ?_) rfl (fun W hW => ?_) ?_; rotate_left; (focus (go_simp <;> with_reducible rfl)); simp only [Act.put, List.setIfInBounds_toArray, List.set_cons_zero, List.set_cons_succ]) | (refine mx_no0 rfl ?_; simp only [Act.put, List.setIfInBounds_toArray, List.set_cons_zero, List.set_cons_succ]) | (refine mx_no1 Ext.grows rfl ?_; simp only [Act.put, List.setIfInBounds_toArray, List.set_cons_zero, List.set_cons_succ]))
          refine mx_nil ?_
          have e9 := (e7.trans hw8).trans hw9
          have f9 := (f7.trans hw8).trans hw9
          clear tew8 tfw8
          go_wp2_with fail
          have ey := e9
          have fy := f9
          have hI := Get_c (Fresh.all w9) d p ⟨qk, qn, qs⟩ (HS.out.1.1.ext ey) (by rw [HS.out.1.2.2.1]; exact HS.out.1.2.2.2.2.1) (by rw [HS.out.2.1.1]; have := HS.out.2.1.2.2.1; omega) HB.out
          rw [HS.out.1.2.2.1] at hI
          with_reducible refine hI.mono ?_
          clear hI
          rcases idxL_look (d := d) (v := ⟨qk, qn, qs⟩) (l := l) (k := 0) with ⟨m1, m2⟩ | ⟨j2, n2, m1, m2, m3⟩
          · rw [m1]
            rintro e w20 ⟨hw20, ⟨-, rfl⟩ | ⟨n', wv, hF1, -, -⟩⟩
            rotate_left
            · cases hF1
            have e20 := ey.trans hw20
            have f20 := fy.trans hw20
            have HM2 := Lib.hid (And.intro m1 m2)
            clear m1 m2 ey fy
            go_wp2_with fail
            have hI := rIndex_c d ⟨qk, qn, qs⟩ (HS.out.1.2.2.2.1.ext e20)
            rw [HM2.out.2] at hI
            with_reducible refine hI.mono ?_
            clear hI
            rintro e w21 ⟨rfl, hw21⟩
            have e21 := e20.trans hw21
            have f21 := f20.trans hw21
            clear e20 f20
            go_wp2_with fail
            have hI := Before_c (Fresh.all w21) d p ⟨qk, qn, qs⟩ (HS.out.1.1.ext e21) (by rw [HS.out.1.2.2.1]; exact HS.out.1.2.2.2.2.1) (by rw [HS.out.2.1.1]; have := HS.out.2.1.2.2.1; omega) HB.out
            rw [HS.out.1.2.2.1] at hI
            rw [HM2.out.1] at hI
            with_reducible refine hI.mono ?_
            clear hI
            rintro e w22 ⟨hw22, bv, vis2, rfl, hvis2, hbv⟩
            have e22 := e21.trans hw22
            have f22 := f21.trans hw22
            obtain ⟨ba, bk, bc, rfl⟩ := slice_of_nat hbv
            have HBV := Lib.hid hbv
            clear hbv e21 f21
            go_wp2_with fail
            have hsm := HS.out.2.1.2.2.2
            have hbl := befL_le d ⟨qk, qn, qs⟩ l
            have hI := rBefore_c d ⟨qk, qn, qs⟩ (HS.out.1.2.2.2.1.ext e22) (by omega)
            generalize befL d ⟨qk, qn, qs⟩ l = bf at *
            with_reducible refine hI.mono ?_
            clear hI
            rintro e w23 ⟨rfl, hw23⟩
            have e23 := e22.trans hw23
            have f23 := f22.trans hw23
            go_wp2_with fail
            have hI := is_c' (HBV.out.ext hw23) (bf : Nat) bf rfl (by omega)
            rw [decide_eq_true (Eq.refl bf)] at hI
            with_reducible refine hI.mono ?_
            clear hI
            rintro e w24 ⟨rfl, hw24⟩
            have e24 := e23.trans hw24
            have f24 := f23.trans hw24
            clear e22 f22 e23 f23 hsm hbl
            go_wp2_with fail
            have hI := rIndex_c d ⟨qk, qn, qs⟩ (HS.out.1.2.2.2.1.ext e24)
            rw [HM2.out.2] at hI
            with_reducible refine hI.mono ?_
            clear hI
            rintro e w25 ⟨rfl, hw25⟩
            have e25 := e24.trans hw25
            have f25 := f24.trans hw25
            go_wp2_with fail
            have hI := Height_c (d := d) (HS.out.1.1.ext e25)
            with_reducible refine hI.mono ?_
            clear hI
            rintro e w26 ⟨rfl, hw26⟩
            have hv2 : decide (vis2 ≤ ht t) = true := by simp; omega
            go_wp2_with fail
            with_reducible refine (awake_c (w := w26)).mono ?_
            rintro e w27 ⟨rfl, hw27⟩
            go_wp2_with fail
            go_ret
            exact ⟨rfl, (((e0.trans f25).trans hw26).trans hw27)⟩
          · rw [m1]
            rintro e w20 ⟨hw20, ⟨hF0, -⟩ | ⟨n', wv, hF1, rfl, hwv⟩⟩
            · cases hF0
            cases hF1
            have e20 := ey.trans hw20
            have f20 := fy.trans hw20
            obtain ⟨wa, wk, wc', rfl⟩ := slice_of_nat hwv
            have HWV := Lib.hid hwv
            rw [Nat.zero_add] at m2
            obtain ⟨bb, ob, hbb, s0, s1, s2, s3⟩ := row_item HR.out m3
            have hnb := HS.out.1.2.2.2.2.2.2.2 (⟨qk, qn, qs⟩, n2) (List.mem_of_getElem? m3)
            have hjl : j2 < l.length := (List.getElem?_eq_some_iff.1 m3).1
            simp only at hnb
            have HM2 := Lib.hid (And.intro m1 m2)
            clear m1 m2 m3 ey fy hwv
            cases hbb
            go_wp2_with fail
            have hI := rIndex_c d ⟨qk, qn, qs⟩ (HS.out.1.2.2.2.1.ext e20)
            rw [HM2.out.2] at hI
            with_reducible refine hI.mono ?_
            clear hI
            rintro e w21a ⟨rfl, hw21a⟩
            have e21a := e20.trans hw21a
            have f21a := f20.trans hw21a
            go_wp2_with fail
            have hI := is_c' (HWV.out.ext hw21a) (n2 : Nat) n2 rfl (by omega)
            rw [decide_eq_true (Eq.refl n2)] at hI
            with_reducible refine hI.mono ?_
            clear hI
            rintro e w21 ⟨rfl, hw21⟩
            have e21 := e21a.trans hw21
            have f21 := f21a.trans hw21
            clear e20 f20 e21a f21a
            go_wp2_with fail
            have hI := Before_c (Fresh.all w21) d p ⟨qk, qn, qs⟩ (HS.out.1.1.ext e21) (by rw [HS.out.1.2.2.1]; exact HS.out.1.2.2.2.2.1) (by rw [HS.out.2.1.1]; have := HS.out.2.1.2.2.1; omega) HB.out
            rw [HS.out.1.2.2.1] at hI
            rw [HM2.out.1] at hI
            with_reducible refine hI.mono ?_
            clear hI
            rintro e w22 ⟨hw22, bv, vis2, rfl, hvis2, hbv⟩
            have e22 := e21.trans hw22
            have f22 := f21.trans hw22
            obtain ⟨ba, bk, bc, rfl⟩ := slice_of_nat hbv
            have HBV := Lib.hid hbv
            clear hbv e21 f21
            go_wp2_with fail
            have hsm := HS.out.2.1.2.2.2
            have hbl := befL_le d ⟨qk, qn, qs⟩ l
            have hI := rBefore_c d ⟨qk, qn, qs⟩ (HS.out.1.2.2.2.1.ext e22) (by omega)
            generalize befL d ⟨qk, qn, qs⟩ l = bf at *
            with_reducible refine hI.mono ?_
            clear hI
            rintro e w23 ⟨rfl, hw23⟩
            have e23 := e22.trans hw23
            have f23 := f22.trans hw23
            go_wp2_with fail
            have hI := is_c' (HBV.out.ext hw23) (bf : Nat) bf rfl (by omega)
            rw [decide_eq_true (Eq.refl bf)] at hI
            with_reducible refine hI.mono ?_
            clear hI
            rintro e w24 ⟨rfl, hw24⟩
            have e24 := e23.trans hw24
            have f24 := f23.trans hw24
            clear e22 f22 e23 f23 hsm hbl
            go_wp2_with fail
            have hI := rIndex_c d ⟨qk, qn, qs⟩ (HS.out.1.2.2.2.1.ext e24)
            rw [HM2.out.2] at hI
            with_reducible refine hI.mono ?_
            clear hI
            rintro e w25 ⟨rfl, hw25⟩
            have e25 := e24.trans hw25
            have f25 := f24.trans hw25
            go_wp2_with fail
            have hI := Height_c (d := d) (HS.out.1.1.ext e25)
            with_reducible refine hI.mono ?_
            clear hI
            rintro e w26 ⟨rfl, hw26⟩
            have hv2 : decide (vis2 ≤ ht t) = true := by simp; omega
            go_wp2_with fail
            with_reducible refine (awake_c (w := w26)).mono ?_
            rintro e w27 ⟨rfl, hw27⟩
            go_wp2_with fail
            go_ret
            exact ⟨rfl, (((e0.trans f25).trans hw26).trans hw27)⟩
  · clear hg
    go_wp2_with fail
    with_reducible refine (awake_c (w := w1)).mono ?_
    rintro e w2 ⟨rfl, hw2⟩
    go_wp2_with fail
    go_ret
    exact ⟨rfl, (e0.trans hw1).trans hw2⟩
set_option maxRecDepth 100000 in
/-- The query that came in. -/
theorem query_in {H : Type} {enc : TypeId × Value → H} {w : World} {v : Value} {d : DataW H} {ps : List MemPlace} {r : Reach} {b0 : Nat} (hval : Value.okWide Try.prog w r b0 52 v) (h : DataW.Trod enc Try.prog w 0 (fun _ => true) true 52 v d ps) :
    ∃ (kk : Nat) (qk qn : Int) (qs : ByteArray), v = .agg #[.int .u64 (kk : Nat), .int .i64 qk, .int .i64 qn, .string qs] ∧ kk < 18446744073709551616 ∧ qs.size ≤ 9223372036854775807 := by
  obtain ⟨cs, rfl, hsz⟩ := okWide_struct Try.underlying52 hval
  obtain ⟨fuel, hf⟩ := h
  have hsz' : cs.size = 4 := hsz.trans (by kernel_rfl)
  obtain ⟨l⟩ := cs
  match l, hsz' with
  | [u0, u1, u2, u3], _ =>
    obtain ⟨xs, k, rfl, -, hlen, hxl, hff⟩ := DataW.trod_struct Try.underlying52 hf
    have g0 := hff 0 _ rfl
    have g1 := hff 1 _ rfl
    rw [List.getElem?_eq_getElem (by rw [hxl]; simp)] at g0 g1
    have c0 : Try.prog.cellsOf 40 = 1 := by kernel_rfl
    have c1 : Try.prog.cellsOf 38 = 3 := by kernel_rfl
    simp only [Value.cells, c0, c1, List.drop_zero, List.drop_succ_cons, List.take_succ_cons, List.take_zero] at g0 g1
    obtain ⟨m0, e0, -, w0⟩ := DataW.trod_int Try.underlying40 g0
    obtain ⟨x, e1, hs⟩ := read_value (a := 0) (b := 0) (c := 0) Try.underlying38 ⟨rfl, by kernel_rfl, by kernel_rfl⟩ ⟨rfl, by kernel_rfl, Try.underlying2⟩ ⟨rfl, by kernel_rfl, Try.underlying9⟩ (by kernel_rfl) g1
    cases e0
    cases e1
    have w0' : 0 ≤ m0 ∧ m0 ≤ 18446744073709551615 := by simpa [Lit.wf, IntKind.min, IntKind.max, IntKind.signed, IntKind.bits] using w0
    obtain ⟨q, rfl⟩ := Int.eq_ofNat_of_zero_le w0'.1
    exact ⟨q, x.kind, x.num, x.str, rfl, by omega, hs⟩
set_option maxRecDepth 100000 in
theorem WtreeFinds_all {H : Type} (enc : TypeId × Value → H) (W : World) (base : Nat) (args : Array Value) (ds gs : List (DataW H)) (before : List MemPlace)
    (hval : ∀ (j : Nat) t v, Try.f4.params[j]? = some t → args[j]? = some v → Value.okWide Try.prog W .any base t v)
    (hW : DataW.Whole enc Try.prog Try.f4.params.toList Rows.wtreeFindsSpec.vars false W args.toList ds gs before) :
    Calls Try.prog 4 args W fun e W' => ∃ v, e = .returned v ∧ Rows.wtreeFindsSpec.post enc Try.prog Try.f4 false true false false W args v W' := by
  have hW' := hW
  obtain ⟨p, q, hA0, hV, rfl, hfz, hnd⟩ := hW
  have hA : DataW.TrodAll enc Try.prog W 0 (fun _ => true) true Try.f4.params.toList args.toList ds p := hA0
  rw [Try.params4] at hA hval
  obtain ⟨v0, vs0, d0, ds0, p0, q0, hargs, rfl, rfl, h0, r0⟩ := trodAll_cons hA
  obtain ⟨v1, vs1, d1, ds1, p1, q1, rfl, rfl, rfl, h1, r1⟩ := trodAll_cons r0
  obtain ⟨v2, vs2, d2, ds2, p2, q2, rfl, rfl, rfl, h2, r2⟩ := trodAll_cons r1
  obtain ⟨rfl, rfl, rfl⟩ := trodAll_nil r2
  obtain rfl : args = #[v0, v1, v2] := by cases args; simp_all
  obtain ⟨rfl, rfl⟩ := trodVars_none hV
  obtain ⟨la, hacts⟩ := acts_in (hval 0 50 v0 rfl rfl) h0
  obtain ⟨d, rfl, rfl, rfl⟩ := open_bool Try.underlying4 (hval 1 4 v1 rfl rfl) h1
  obtain ⟨kk, qk, qn, qs, rfl, hkk, hqs⟩ := query_in (hval 2 52 v2 rfl rfl) h2
  have hyp : ActsV W v0 la ∧ kk < 18446744073709551616 ∧ qs.size ≤ 9223372036854775807 := ⟨hacts, hkk, hqs⟩
  have main : Calls Try.prog 4 #[v0, .bool d, .agg #[.int .u64 (kk : Nat), .int .i64 qk, .int .i64 qn, .string qs]] W (BoolRes true W) := WtreeFinds_main hyp
  refine main.mono fun e W' ⟨he, hx⟩ => ?_
  subst he
  exact ⟨_, rfl, post_true (bt := 4) laid39 rfl (by kernel_rfl) Try.underlying4 (by kernel_rfl) rfl hW' hx⟩
set_option maxRecDepth 100000 in
theorem WtreeFinds_lifted (os : Os) (started : os.Started) (H : Type) (enc : TypeId × Value → H) :
    ReturnsInHanded {} Try.checked os 4 .any (Rows.wtreeFindsSpec.pre6 enc Try.prog Try.f4 Rows.wtreeFindsRow.domain false) (Rows.wtreeFindsSpec.post enc Try.prog Try.f4 false true false false) := by
  refine returnsInHanded_of_change (C := Try.checked) own39 started (by kernel_rfl) Try.func4
    (ChangeSpec.witness6 (enc := enc) (C := Try.checked) false ⟨#[], #[.slice none 0 0, .bool false, .agg #[.int .u64 0, .int .i64 0, .int .i64 0, .string ⟨#[]⟩]], []⟩ 8 (by kernel_rfl) (by kernel_rfl) (by kernel_rfl) (by kernel_rfl)) ?_
  intro W base args ds gs before hval0 hW hcnd _
  exact WtreeFinds_all enc W base args ds gs before hval0 hW
theorem WtreeFinds_holds : Rows.WtreeFindsSaid :=
  OpenClaim.holds_of_wide 4 Try.f4 rfl rfl rfl rfl rfl rfl rfl ⟨rfl, rfl, rfl, rfl, rfl⟩ rfl rfl rfl rfl rfl (by kernel_rfl) Try.func4 (by kernel_rfl)
    (of_decide_eq_true (by kernel_rfl)) (by unfold Func.isWrapper; first | (rw [if_pos (by decide +kernel)]; kernel_rfl) | (rw [if_neg (by decide +kernel)]; exact ⟨rfl, rfl⟩))
    (fun os started H enc _ => WtreeFinds_lifted os started H enc)
end Go.Proofs.Ytbbnpicddmplbaa

/- Package wtree: New, Put. -/
import Derived.Test.YtbbnpicddmplbaaWt4
namespace Go.Proofs.Ytbbnpicddmplbaa
open Go.RowKit Go.Deep
set_option linter.unusedVariables false
set_option linter.unusedSimpArgs false
variable {S : Nat → Prop}


/-- Three boxes. -/
theorem box3 (w : World) (c1 c2 c3 : List Value) (t1 t2 t3 : TypeId) (W : World) (hW : ((w.alloc (.cells c1.toArray t1)).alloc (.cells c2.toArray t2)).alloc (.cells c3.toArray t3) = W) :
    Ext w W ∧ Blk W w.heap.size c1 t1 ∧ Blk W (w.heap.size + 1) c2 t2 ∧ Blk W (w.heap.size + 1 + 1) c3 t3 := by
  subst hW
  refine ⟨ext3 _ _ _ _, (Blk.new w c1 t1).ext (ext2 _ _ _), ?_, ?_⟩
  · have := (Blk.new (w.alloc (.cells c1.toArray t1)) c2 t2).ext (Ext.alloc _ (.cells c3.toArray t3))
    simpa using this
  · have := Blk.new ((w.alloc (.cells c1.toArray t1)).alloc (.cells c2.toArray t2)) c3 t3
    simpa [Nat.add_assoc] using this
/-- A block's cells may be written, now and later. -/
theorem Blk.freeF {w : World} {g : Nat} {cs : List Value} {t : TypeId} (h : Blk w g cs t) (i : Nat) : ∀ W, Ext w W → W.frozen? ⟨g, i, none⟩ = false := fun W e => (h.ext e).free i
theorem Blk.set2 {w : World} {g : Nat} {x y a b : Value} {t : TypeId} (h : Blk w g [x, y] t) : Blk ((w.setCell ⟨g, 0, none⟩ a).setCell ⟨g, 1, none⟩ b) g [a, b] t := by
  have := (h.set 0 a).set 1 b
  simpa using this
theorem ExtBut.set2 (w : World) (g : Nat) (a b : Value) : ExtBut (fun x => x = g) w ((w.setCell ⟨g, 0, none⟩ a).setCell ⟨g, 1, none⟩ b) := ExtBut.trans (ExtBut.set g 0 a rfl) (ExtBut.set g 1 b rfl)
/-- S, but for a block that is there already. -/
theorem Fresh.but {w : World} (h : Fresh S w) {g : Nat} (hg : g < w.heap.size) : Fresh (fun b => S b ∧ b ≠ g) w := fun b hb => ⟨h b hb, by omega⟩
theorem Ext.set2 {w w' : World} (h : Ext w w') {g : Nat} (hg : w.heap.size ≤ g) (a b : Value) : Ext w ((w'.setCell ⟨g, 0, none⟩ a).setCell ⟨g, 1, none⟩ b) := (h.setCell hg 0 a).setCell hg 1 b

set_option maxHeartbeats 1000000 in
set_option maxRecDepth 100000 in
theorem Put_inv {w : World} (d : Bool) (rp : Option Addr) (v : GV) (wv : Value) (hv : v.valid = false) :
    Calls Try.prog 13 #[.agg #[.bool d, .pointer rp], .agg #[.int .i64 v.kind, .int .i64 v.num, .string v.str], wv] w
      fun e w' => e = .returned (.tuple #[.agg #[.bool d, .pointer rp], .int .i64 4]) ∧ Ext w w' := by
  obtain ⟨vk, vn, vs⟩ := v
  go_enter Try.func13, Try.ntmps13
  go_wp2_with fail
  generalize hW0 : ((w.alloc (.cells #[.bool d, .pointer rp] 27)).alloc (.cells #[.int .i64 vk, .int .i64 vn, .string vs] 38)).alloc (.cells #[.bool false, .pointer none] 27) = w0
  obtain ⟨he0, hb1, hb2, hb3⟩ := box3 w [.bool d, .pointer rp] [.int .i64 vk, .int .i64 vn, .string vs] [.bool false, .pointer none] _ _ _ w0 hW0
  clear hW0
  obtain ⟨q0, q1⟩ := boxT hb1
  obtain ⟨x0, x1, x2⟩ := boxV hb2
  obtain ⟨r0, r1⟩ := boxT hb3
  have s0 := hb3.freeF 0
  have s1 := hb3.freeF 1
  have H3 := Lib.hid hb3
  clear hb1 hb2 hb3
  have Ew0 := Lib.hid he0
  have Fw0 := Lib.hid (Ext.refl w0)
  have hv := value_valid ⟨vk, vn, vs⟩ w0
  with_reducible refine hv.mono ?_
  clear hv
  rintro e w1 ⟨rfl, hw1⟩
  have Ew1 := Lib.hid (Ew0.out.trans hw1)
  have Fw1 := Lib.hid (Fw0.out.trans hw1)
  have tew1 := fun W (h : Ext w1 W) => Ew1.out.trans h
  have tfw1 := fun W (h : Ext w1 W) => Fw1.out.trans h
  rw [hv]
  clear hv
  have fw1 := Fw1.out
  go_wp2_with fail
  have hbt := ExtBut.set2 w1 (w.heap.size + 1 + 1) (.bool d) (.pointer rp)
  have hk := ((H3.out.ext fw1)).set2 (a := .bool d) (b := .pointer rp)
  have hx := (Ew1.out).set2 (g := w.heap.size + 1 + 1) (by omega) (.bool d) (.pointer rp)
  generalize (World.setCell w1 ⟨w.heap.size + 1 + 1, 0, none⟩ (.bool d)).setCell ⟨w.heap.size + 1 + 1, 1, none⟩ (.pointer rp) = w9 at hk hx hbt ⊢
  have c0 := hk.cell 0
  have c1 := hk.cell 1
  clear hk
  refine bodyPost_ret (v := .tuple #[.agg #[.bool d, .pointer rp], .int .i64 4]) (by simp [results, Try.results13, go_sem, c0, c1]) rfl ?_
  exact ⟨rfl, hx⟩
theorem slice_of_nat0 {w : World} {v : Value} {n : Nat} (h : NatV S w v n) : ∃ a k c, v = .slice a k c ∧ (k = 0 ↔ n = 0) := by
  obtain ⟨l, ⟨a, c, h, _⟩, h2, h3⟩ := h
  refine ⟨a, l.length, c, h, ?_⟩
  rw [← h3, h2.zero]
  exact List.length_eq_zero_iff
set_option maxHeartbeats 1000000 in
set_option maxRecDepth 100000 in
theorem Put_zero {w : World} (hS : Fresh S w) (d : Bool) (rp : Option Addr) (v : GV) (wv : Value) {l : List Nat} (hd : DigV S w wv l) (hln : l.length ≤ 35184372088832) (hv : v.valid = true) (hz : nval l = 0) :
    Calls Try.prog 13 #[.agg #[.bool d, .pointer rp], .agg #[.int .i64 v.kind, .int .i64 v.num, .string v.str], wv] w
      fun e w' => e = .returned (.tuple #[.agg #[.bool d, .pointer rp], .int .i64 18]) ∧ Ext w w' := by
  obtain ⟨vk, vn, vs⟩ := v
  have HD := Lib.hid hd
  have HLn := Lib.hid hln
  have HSF := Lib.hid hS
  clear hd hln hS
  go_enter Try.func13, Try.ntmps13
  go_wp2_with fail
  generalize hW0 : ((w.alloc (.cells #[.bool d, .pointer rp] 27)).alloc (.cells #[.int .i64 vk, .int .i64 vn, .string vs] 38)).alloc (.cells #[.bool false, .pointer none] 27) = w0
  obtain ⟨he0, hb1, hb2, hb3⟩ := box3 w [.bool d, .pointer rp] [.int .i64 vk, .int .i64 vn, .string vs] [.bool false, .pointer none] _ _ _ w0 hW0
  clear hW0
  obtain ⟨q0, q1⟩ := boxT hb1
  obtain ⟨x0, x1, x2⟩ := boxV hb2
  obtain ⟨r0, r1⟩ := boxT hb3
  have s0 := hb3.freeF 0
  have s1 := hb3.freeF 1
  have H3 := Lib.hid hb3
  clear hb1 hb2 hb3
  have Ew0 := Lib.hid he0
  have Fw0 := Lib.hid (Ext.refl w0)
  have hv := value_valid ⟨vk, vn, vs⟩ w0
  with_reducible refine hv.mono ?_
  clear hv
  rintro e w1 ⟨rfl, hw1⟩
  have Ew1 := Lib.hid (Ew0.out.trans hw1)
  have Fw1 := Lib.hid (Fw0.out.trans hw1)
  have tew1 := fun W (h : Ext w1 W) => Ew1.out.trans h
  have tfw1 := fun W (h : Ext w1 W) => Fw1.out.trans h
  rw [hv]
  clear hv
  have fw1 := Fw1.out
  go_wp2_with fail
  clear fw1
  have hg1 : w.heap.size + 1 + 1 < w1.heap.size := (H3.out.ext Fw1.out).lt
  have hn := norm_nat (S := fun b => S b ∧ b ≠ w.heap.size + 1 + 1) ((HSF.out.ext Ew1.out).but hg1) ((HD.out.old.mono (fun b h => ⟨h.1, by have := h.2; omega⟩)).ext Ew1.out) HLn.out
  with_reducible refine hn.mono ?_
  clear hn
  rintro e w2 ⟨nv, rfl, hw2, hnv⟩
  have Ew2 := Lib.hid (Ew1.out.trans hw2)
  have Fw2 := Lib.hid (Fw1.out.trans hw2)
  have tew2 := fun W (h : Ext w2 W) => Ew2.out.trans h
  have tfw2 := fun W (h : Ext w2 W) => Fw2.out.trans h
  obtain ⟨na, nk, nc, rfl, hk0⟩ := slice_of_nat0 hnv
  obtain rfl : nk = 0 := hk0.2 hz
  have fw2 := Fw2.out
  clear hk0
  go_wp2_with fail
  have hbt := ExtBut.set2 w2 (w.heap.size + 1 + 1) (.bool d) (.pointer rp)
  have hk := ((H3.out.ext fw2)).set2 (a := .bool d) (b := .pointer rp)
  have hx := (Ew2.out).set2 (g := w.heap.size + 1 + 1) (by omega) (.bool d) (.pointer rp)
  generalize (World.setCell w2 ⟨w.heap.size + 1 + 1, 0, none⟩ (.bool d)).setCell ⟨w.heap.size + 1 + 1, 1, none⟩ (.pointer rp) = w9 at hk hx hbt ⊢
  have c0 := hk.cell 0
  have c1 := hk.cell 1
  clear hk
  refine bodyPost_ret (v := .tuple #[.agg #[.bool d, .pointer rp], .int .i64 18]) (by simp [results, Try.results13, go_sem, c0, c1]) rfl ?_
  exact ⟨rfl, hx⟩
/-- Put of a valid value with a positive weight -/
def PutOk (S : Nat → Prop) (d : Bool) (t : T) (v : GV) (n : Nat) (w : World) (e : Ending) (w' : World) : Prop :=
  ∃ p' t', e = .returned (.tuple #[.agg #[.bool d, .pointer p'], .int .i64 0]) ∧ Ext w w' ∧ TreeV S w' p' t' ∧ lst t' = insL d (v, n) (lst t) ∧ Avl t'
set_option maxHeartbeats 2000000 in
set_option maxRecDepth 100000 in
theorem Put_ok {w : World} (hS : Fresh S w) (d : Bool) (rp : Option Addr) (v : GV) (wv : Value) {t : T} {l : List Nat} (ht : TreeV S w rp t) (ha : Avl t) (hso : Sorted d (lst t)) (hs : sz t < 10000000000) (hb : tot t + nval l < bigN)
    (hd : DigV S w wv l) (hln : l.length ≤ 35184372088832) (hv : v.valid = true) (hz : 0 < nval l) :
    Calls Try.prog 13 #[.agg #[.bool d, .pointer rp], .agg #[.int .i64 v.kind, .int .i64 v.num, .string v.str], wv] w (PutOk S d t v (nval l) w) := by
  obtain ⟨vk, vn, vs⟩ := v
  have HD := Lib.hid hd
  have HLn := Lib.hid hln
  have HT := Lib.hid (And.intro ht (And.intro ha (And.intro hso hb)))
  have HSF := Lib.hid hS
  clear hd hln ht ha hso hb hS
  go_enter Try.func13, Try.ntmps13
  go_wp2_with fail
  generalize hW0 : ((w.alloc (.cells #[.bool d, .pointer rp] 27)).alloc (.cells #[.int .i64 vk, .int .i64 vn, .string vs] 38)).alloc (.cells #[.bool false, .pointer none] 27) = w0
  obtain ⟨he0, hb1, hb2, hb3⟩ := box3 w [.bool d, .pointer rp] [.int .i64 vk, .int .i64 vn, .string vs] [.bool false, .pointer none] _ _ _ w0 hW0
  clear hW0
  obtain ⟨q0, q1⟩ := boxT hb1
  obtain ⟨x0, x1, x2⟩ := boxV hb2
  obtain ⟨r0, r1⟩ := boxT hb3
  have s0 := hb3.freeF 0
  have s1 := hb3.freeF 1
  have H3 := Lib.hid hb3
  clear hb1 hb2 hb3
  have Ew0 := Lib.hid he0
  have Fw0 := Lib.hid (Ext.refl w0)
  have hv := value_valid ⟨vk, vn, vs⟩ w0
  with_reducible refine hv.mono ?_
  clear hv
  rintro e w1 ⟨rfl, hw1⟩
  have Ew1 := Lib.hid (Ew0.out.trans hw1)
  have Fw1 := Lib.hid (Fw0.out.trans hw1)
  have tew1 := fun W (h : Ext w1 W) => Ew1.out.trans h
  have tfw1 := fun W (h : Ext w1 W) => Fw1.out.trans h
  rw [hv]
  clear hv
  have fw1 := Fw1.out
  go_wp2_with fail
  clear fw1
  have hg1 : w.heap.size + 1 + 1 < w1.heap.size := (H3.out.ext Fw1.out).lt
  have hn := norm_nat (S := fun b => S b ∧ b ≠ w.heap.size + 1 + 1) ((HSF.out.ext Ew1.out).but hg1) ((HD.out.old.mono (fun b h => ⟨h.1, by have := h.2; omega⟩)).ext Ew1.out) HLn.out
  with_reducible refine hn.mono ?_
  clear hn
  rintro e w2 ⟨nv, rfl, hw2, hnv⟩
  have Ew2 := Lib.hid (Ew1.out.trans hw2)
  have Fw2 := Lib.hid (Fw1.out.trans hw2)
  have tew2 := fun W (h : Ext w2 W) => Ew2.out.trans h
  have tfw2 := fun W (h : Ext w2 W) => Fw2.out.trans h
  obtain ⟨na, nk, nc, rfl, hk0⟩ := slice_of_nat0 hnv
  have hk1 : ((nk : Int) == 0) = false := by
    have : ¬ nk = 0 := fun e => by have := hk0.1 e; omega
    simpa using this
  have HN := Lib.hid hnv
  clear hk0 hnv
  go_wp2_with fail
  refine wp_region_mixE 13 [(0, 3), (1, 0), (2, 0), (3, 3), (4, 0), (5, 0), (6, 3), (7, 3), (8, 1), (9, 3), (10, 2), (11, 3)] (by kernel_rfl) (fun _ _ d _ _ h => by cases d <;> exact h) ?_
  intro w3 hw3
  simp only [List.map_cons, List.map_nil, mixPick_lt _ _ 0 rfl, mixPick_lt _ _ 1 rfl, mixPick_lt _ _ 2 rfl, mixPick_lt _ _ 3 rfl, mixPick_fork, List.getD_cons_zero, List.getD_cons_succ]
  generalize yielded _ = y
  have Ew3 := Lib.hid (Ew2.out.trans hw3)
  have Fw3 := Lib.hid (Fw2.out.trans hw3)
  have tew3 := fun W (h : Ext w3 W) => Ew3.out.trans h
  have tfw3 := fun W (h : Ext w3 W) => Fw3.out.trans h
  clear tew1 tfw1 tew2 tfw2
  repeat (first | (refine mx_pu (v := ?_) rfl (fun W => ?_) ?_; rotate_left; (focus (go_simp <;> with_reducible rfl)); simp only [Act.put, List.setIfInBounds_toArray, List.set_cons_zero, List.set_cons_succ]) | (refine mx_st (v := ?_) rfl (fun W hW => ?_) ?_; rotate_left; (focus (go_simp <;> with_reducible rfl)); simp only [Act.put, List.setIfInBounds_toArray, List.set_cons_zero, List.set_cons_succ]))
  refine mx_call (f := ?_) (args := ?_) rfl ?_ ?_
  rotate_left 2
  focus (go_simp <;> (refine ⟨?_, ?_⟩ <;> with_reducible rfl))
  have hg3 : w.heap.size + 1 + 1 < w3.heap.size := (H3.out.ext Fw3.out).lt
  have hI := put_c (S := fun b => S b ∧ b ≠ w.heap.size + 1 + 1) d rp (⟨vk, vn, vs⟩, nval l) (.slice na nk nc) t w3 rp ((HSF.out.ext Ew3.out).but hg3) ((HT.out.1.old.mono (fun b h => ⟨h.1, by have := h.2; omega⟩)).ext Ew3.out) (HN.out.ext hw3) HT.out.2.1 HT.out.2.2.1 hs HT.out.2.2.2
  with_reducible refine hI.mono ?_
  clear hI
  rintro e w4 ⟨p4, t4, rfl, hw4, v4, l4, a4, -, -⟩
  refine ⟨_, rfl, hw4, ?_⟩
  simp only [Act.put, List.setIfInBounds_toArray, List.set_cons_zero, List.set_cons_succ]
  have Ew4 := Lib.hid (Ew3.out.trans hw4)
  have Fw4 := Lib.hid (Fw3.out.trans hw4)
  have tew4 := fun W (h : Ext w4 W) => Ew4.out.trans h
  have tfw4 := fun W (h : Ext w4 W) => Fw4.out.trans h
  have H4 := Lib.hid (And.intro v4 (And.intro l4 a4))
  clear v4 l4 a4 tew3 tfw3
  have fw4 := Fw4.out
  repeat (first | (refine mx_pu (v := ?_) rfl (fun W => ?_) ?_; rotate_left; (focus (go_simp <;> with_reducible rfl)); simp only [Act.put, List.setIfInBounds_toArray, List.set_cons_zero, List.set_cons_succ]) | (refine mx_st (v := ?_) rfl (fun W hW => ?_) ?_; rotate_left; (focus (go_simp <;> with_reducible rfl)); simp only [Act.put, List.setIfInBounds_toArray, List.set_cons_zero, List.set_cons_succ]))
  refine mx_ts (w' := ?_) rfl ?_ ?_
  rotate_left
  focus (go_simp <;> with_reducible rfl)
  simp only [Act.put, List.setIfInBounds_toArray, List.set_cons_zero, List.set_cons_succ]
  repeat (first | (refine mx_pu (v := ?_) rfl (fun W => ?_) ?_; rotate_left; (focus (go_simp <;> with_reducible rfl)); simp only [Act.put, List.setIfInBounds_toArray, List.set_cons_zero, List.set_cons_succ]) | (refine mx_st (v := ?_) rfl (fun W hW => ?_) ?_; rotate_left; (focus (go_simp <;> with_reducible rfl)); simp only [Act.put, List.setIfInBounds_toArray, List.set_cons_zero, List.set_cons_succ]))
  refine mx_nil ?_
  go_wp2_with fail
  have hbt := ExtBut.set2 w4 (w.heap.size + 1 + 1) (.bool d) (.pointer p4)
  have hk := ((H3.out.ext fw4)).set2 (a := .bool d) (b := .pointer p4)
  have hx := (Ew4.out).set2 (g := w.heap.size + 1 + 1) (by omega) (.bool d) (.pointer p4)
  generalize (World.setCell w4 ⟨w.heap.size + 1 + 1, 0, none⟩ (.bool d)).setCell ⟨w.heap.size + 1 + 1, 1, none⟩ (.pointer p4) = w9 at hk hx hbt ⊢
  have c0 := hk.cell 0
  have c1 := hk.cell 1
  clear hk
  refine bodyPost_ret (v := .tuple #[.agg #[.bool d, .pointer p4], .int .i64 0]) (by simp [results, Try.results13, go_sem, c0, c1]) rfl ?_
  exact ⟨p4, t4, rfl, hx, (H4.out.1.but (fun b h => h.2) hbt).mono (fun b h => h.1), H4.out.2.1, H4.out.2.2⟩
end Go.Proofs.Ytbbnpicddmplbaa

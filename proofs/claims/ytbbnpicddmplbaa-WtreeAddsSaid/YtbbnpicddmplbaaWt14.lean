/- Package wtree: Delete. -/
import Derived.Test.YtbbnpicddmplbaaWt13
namespace Go.Proofs.Ytbbnpicddmplbaa
open Go.RowKit Go.Deep
set_option linter.unusedVariables false
set_option linter.unusedSimpArgs false
variable {S : Nat → Prop}

/-- What Delete hands back. -/
def DelRes (S : Nat → Prop) (d : Bool) (v : GV) (t : T) (b : Bool) (w : World) (x : Ending) (w' : World) : Prop :=
  ∃ (q : Option Addr) (t' : T), x = .returned (.tuple #[.agg #[.bool d, .pointer q], .bool b]) ∧ Ext w w' ∧ TreeV S w' q t' ∧ lst t' = delL d v (lst t) ∧ Avl t'
set_option maxHeartbeats 2000000 in
set_option maxRecDepth 100000 in
theorem Delete_c {w : World} (hS : Fresh S w) (d : Bool) (rp : Option Addr) (v : GV) {t : T} (ht : TreeV S w rp t) (ha : Avl t) (hso : Sorted d (lst t)) (hs : sz t < 10000000000) (hb : tot t < bigN) :
    Calls Try.prog 34 #[.agg #[.bool d, .pointer rp], .agg #[.int .i64 v.kind, .int .i64 v.num, .string v.str]] w (DelRes S d v t (lookL d v (lst t)).isSome w) := by
  obtain ⟨vk, vn, vs⟩ := v
  have HT := Lib.hid (And.intro ht (And.intro ha (And.intro hso (And.intro hb hS))))
  clear ht ha hso hb hS
  go_enter Try.func34, Try.ntmps34
  go_wp2_with fail
  generalize hW0 : ((w.alloc (.cells #[.bool d, .pointer rp] 27)).alloc (.cells #[.int .i64 vk, .int .i64 vn, .string vs] 38)).alloc (.cells #[.bool false, .pointer none] 27) = w0
  obtain ⟨he0, hb1, hb2, hb3⟩ := box3 w [.bool d, .pointer rp] [.int .i64 vk, .int .i64 vn, .string vs] [.bool false, .pointer none] _ _ _ w0 hW0
  clear hW0
  obtain ⟨q0, q1⟩ := boxT hb1
  obtain ⟨x0, x1, x2⟩ := boxV hb2
  obtain ⟨r0, r1⟩ := boxT hb3
  have s0 := hb3.freeF 0
  have s1 := hb3.freeF 1
  have H3 := Lib.hid hb3
  clear hb1 hb2 hb3
  have Ew0 := Lib.hid he0
  have Fw0 := Lib.hid (Ext.refl w0)
  have hI := Get_c (HT.out.2.2.2.2.ext he0) d rp ⟨vk, vn, vs⟩ (HT.out.1.ext he0) HT.out.2.2.1 (by omega) HT.out.2.2.2.1
  with_reducible refine hI.mono ?_
  clear hI
  generalize hlk : lookL d ⟨vk, vn, vs⟩ (lst t) = lk
  rintro x w1 ⟨hw1, ⟨rfl, rfl⟩ | ⟨n, wv, rfl, rfl, -⟩⟩
  · have HLK := Lib.hid hlk
    clear hlk
    have Ew1 := Lib.hid (Ew0.out.trans hw1)
    have Fw1 := Lib.hid (Fw0.out.trans hw1)
    have tew1 := fun W (h : Ext w1 W) => Ew1.out.trans h
    have tfw1 := fun W (h : Ext w1 W) => Fw1.out.trans h
    have fw1 := Fw1.out
    go_wp2_with fail
    have hbt := ExtBut.set2 w1 (w.heap.size + 1 + 1) (.bool d) (.pointer rp)
    have hk := ((H3.out.ext fw1)).set2 (a := .bool d) (b := .pointer rp)
    have hx := (Ew1.out).set2 (g := w.heap.size + 1 + 1) (by omega) (.bool d) (.pointer rp)
    generalize (World.setCell w1 ⟨w.heap.size + 1 + 1, 0, none⟩ (.bool d)).setCell ⟨w.heap.size + 1 + 1, 1, none⟩ (.pointer rp) = w9 at hk hx hbt ⊢
    have c0 := hk.cell 0
    have c1 := hk.cell 1
    clear hk
    refine bodyPost_ret (v := .tuple #[.agg #[.bool d, .pointer rp], .bool false]) (by simp [results, Try.results34, go_sem, c0, c1]) rfl ?_
    refine ⟨rp, t, by rw [HLK.out]; rfl, hx, ?_, (look_none_del HLK.out).symm, HT.out.2.1⟩
    exact ((HT.out.1.old.ext Ew1.out).but (fun b h => by have := h.2; omega) hbt).mono (fun b h => h.1)
  · have HLK := Lib.hid hlk
    clear hlk
    have Ew1 := Lib.hid (Ew0.out.trans hw1)
    have Fw1 := Lib.hid (Fw0.out.trans hw1)
    have tew1 := fun W (h : Ext w1 W) => Ew1.out.trans h
    have tfw1 := fun W (h : Ext w1 W) => Fw1.out.trans h
    have fw1 := Fw1.out
    go_wp2_with fail
    refine wp_region_mixE 11 [(0, 3), (1, 0), (2, 0), (3, 3), (4, 0), (5, 0), (6, 1), (7, 3), (8, 2), (9, 3)] (by kernel_rfl) (fun _ _ d _ _ h => by cases d <;> exact h) ?_
    intro w2 hw2
    simp only [List.map_cons, List.map_nil, mixPick_lt _ _ 0 rfl, mixPick_lt _ _ 1 rfl, mixPick_lt _ _ 2 rfl, mixPick_lt _ _ 3 rfl, mixPick_fork, List.getD_cons_zero, List.getD_cons_succ]
    generalize yielded _ = y
    have Ew2 := Lib.hid (Ew1.out.trans hw2)
    have Fw2 := Lib.hid (Fw1.out.trans hw2)
    have tew2 := fun W (h : Ext w2 W) => Ew2.out.trans h
    have tfw2 := fun W (h : Ext w2 W) => Fw2.out.trans h
    clear tew1 tfw1 fw1
    repeat (first | (refine mx_pu (v := ?_) rfl (fun W => ?_) ?_; rotate_left; (focus (go_simp <;> with_reducible rfl)); simp only [Act.put, List.setIfInBounds_toArray, List.set_cons_zero, List.set_cons_succ]) | (refine mx_st (v := ?_) rfl (fun W hW => ?_) ?_; rotate_left; (focus (go_simp <;> with_reducible rfl)); simp only [Act.put, List.setIfInBounds_toArray, List.set_cons_zero, List.set_cons_succ]))
    refine mx_call (f := ?_) (args := ?_) rfl ?_ ?_
    rotate_left 2
    focus (go_simp <;> (refine ⟨?_, ?_⟩ <;> with_reducible rfl))
    have hg2 : w.heap.size + 1 + 1 < w2.heap.size := (H3.out.ext Fw2.out).lt
    have hI := without_c (S := fun b => S b ∧ b ≠ w.heap.size + 1 + 1) d rp ⟨vk, vn, vs⟩ t w2 rp ((HT.out.2.2.2.2.ext Ew2.out).but hg2) ((HT.out.1.old.mono (fun b h => ⟨h.1, by have := h.2; omega⟩)).ext Ew2.out) HT.out.2.1 HT.out.2.2.1 (has_look HLK.out) hs HT.out.2.2.2.1
    with_reducible refine hI.mono ?_
    clear hI
    rintro e w3 ⟨p3, t3, rfl, hw3, v3, l3, a3, -, -⟩
    refine ⟨_, rfl, hw3, ?_⟩
    simp only [Act.put, List.setIfInBounds_toArray, List.set_cons_zero, List.set_cons_succ]
    have Ew3 := Lib.hid (Ew2.out.trans hw3)
    have Fw3 := Lib.hid (Fw2.out.trans hw3)
    have tew3 := fun W (h : Ext w3 W) => Ew3.out.trans h
    have tfw3 := fun W (h : Ext w3 W) => Fw3.out.trans h
    have HR := Lib.hid (And.intro v3 (And.intro l3 a3))
    clear v3 l3 a3 tew2 tfw2
    have fw3 := Fw3.out
    repeat (first | (refine mx_pu (v := ?_) rfl (fun W => ?_) ?_; rotate_left; (focus (go_simp <;> with_reducible rfl)); simp only [Act.put, List.setIfInBounds_toArray, List.set_cons_zero, List.set_cons_succ]) | (refine mx_st (v := ?_) rfl (fun W hW => ?_) ?_; rotate_left; (focus (go_simp <;> with_reducible rfl)); simp only [Act.put, List.setIfInBounds_toArray, List.set_cons_zero, List.set_cons_succ]))
    refine mx_ts (w' := ?_) rfl ?_ ?_
    rotate_left
    focus (go_simp <;> with_reducible rfl)
    simp only [Act.put, List.setIfInBounds_toArray, List.set_cons_zero, List.set_cons_succ]
    repeat (first | (refine mx_pu (v := ?_) rfl (fun W => ?_) ?_; rotate_left; (focus (go_simp <;> with_reducible rfl)); simp only [Act.put, List.setIfInBounds_toArray, List.set_cons_zero, List.set_cons_succ]) | (refine mx_st (v := ?_) rfl (fun W hW => ?_) ?_; rotate_left; (focus (go_simp <;> with_reducible rfl)); simp only [Act.put, List.setIfInBounds_toArray, List.set_cons_zero, List.set_cons_succ]))
    refine mx_nil ?_
    go_wp2_with fail
    have hbt := ExtBut.set2 w3 (w.heap.size + 1 + 1) (.bool d) (.pointer p3)
    have hk := ((H3.out.ext fw3)).set2 (a := .bool d) (b := .pointer p3)
    have hx := (Ew3.out).set2 (g := w.heap.size + 1 + 1) (by omega) (.bool d) (.pointer p3)
    generalize (World.setCell w3 ⟨w.heap.size + 1 + 1, 0, none⟩ (.bool d)).setCell ⟨w.heap.size + 1 + 1, 1, none⟩ (.pointer p3) = w9 at hk hx hbt ⊢
    have c0 := hk.cell 0
    have c1 := hk.cell 1
    clear hk
    refine bodyPost_ret (v := .tuple #[.agg #[.bool d, .pointer p3], .bool true]) (by simp [results, Try.results34, go_sem, c0, c1]) rfl ?_
    exact ⟨p3, t3, by rw [HLK.out]; rfl, hx, (HR.out.1.but (fun b h => h.2) hbt).mono (fun b h => h.1), HR.out.2.1, HR.out.2.2⟩
end Go.Proofs.Ytbbnpicddmplbaa

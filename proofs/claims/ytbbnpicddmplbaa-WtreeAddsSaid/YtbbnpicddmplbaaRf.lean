/- The reference of chapter 39: compare, Put. -/
import Derived.Test.YtbbnpicddmplbaaRfP
namespace Go.Proofs.Ytbbnpicddmplbaa
open Go.RowKit Go.Deep
set_option linter.unusedVariables false
set_option linter.unusedSimpArgs false
variable {S : Nat → Prop}


set_option maxHeartbeats 1000000 in
theorem rcompare_c (d : Bool) (a b : GV) (w : World) :
    Calls Try.prog 54 #[.agg #[.int .i64 a.kind, .int .i64 a.num, .string a.str], .agg #[.int .i64 b.kind, .int .i64 b.num, .string b.str], .bool d] w fun e w' => e = .returned (.int .i64 (tcmp d a b)) ∧ Ext w w' := by
  obtain ⟨ak, an, sa⟩ := a
  obtain ⟨bk, bn, sb⟩ := b
  cases d
  · go_enter Try.func54, Try.ntmps54
    go_wp2_with (go_at_call 63; refine (ref03_compare ⟨ak, an, sa⟩ ⟨bk, bn, sb⟩ _).mono ?_; rintro e w' ⟨rfl, he⟩)
    go_ret
    exact ⟨rfl, (ext2 _ _ _).trans he⟩
  · go_enter Try.func54, Try.ntmps54
    go_wp2_with (go_at_call 63; refine (ref03_compare ⟨bk, bn, sb⟩ ⟨ak, an, sa⟩ _).mono ?_; rintro e w' ⟨rfl, he⟩)
    go_ret
    exact ⟨rfl, (ext2 _ _ _).trans he⟩
theorem info_item : (Try.prog.info? 60).map (fun i => (i.zero, i.size, i.bytes)) = some (some (.agg #[.int .i64 0, .int .i64 0, .string ⟨#[]⟩, .int .u64 0]), 4, 40) := by kernel_rfl
theorem ownsRow_ext {w w' : World} {base : Nat} {e : TypeId} {size : Nat} {v : Value} {n : Nat} {xs : List Value} (h : w.ownsRow base e size v n xs) (x : Ext w w') : w'.ownsRow base e size v n xs := by
  obtain ⟨h1, h2 | ⟨g, cap, cur, rfl, hb, hg, hn, hc, hs, ht⟩⟩ := h
  · exact ⟨h1, .inl h2⟩
  · exact ⟨h1, .inr ⟨g, cap, cur, rfl, hb, by rw [Below.block x g (lt_of_block hg)]; exact hg, hn, hc, hs, ht⟩⟩
theorem own_snoc {w : World} {base : Nat} {e : TypeId} {v : Value} {out : List (GV × Nat)} {x : GV × Nat} (h : w.ownsRow base e 4 v (out.length + 1) (out.flatMap itemCells ++ itemCells x)) : w.ownsRow base e 4 v (out ++ [x]).length ((out ++ [x]).flatMap itemCells) := by
  simpa using h
theorem own_grown {w0 w w' : World} {base : Nat} {e : TypeId} {v : Value} {n : Nat} {xs : List Value} {o : Obj} (h : w.ownsRow base e 4 v n xs) (hx : Ext w0 w) (hb : w0.heap.size ≤ base) (hg : (w.alloc o).grownBy w' v.ownBlock) : Ext w0 w' := by
  have hs := hx.size
  refine (Go.RowKit.Below.alloc hx hs _).grown hg (by simp; omega) (fun k hk => ?_)
  have := (h.lt k hk).1
  omega
/-- What ref's Put holds at the head of a round. -/
def RputRel (w0 : World) (base : Nat) (out : List (GV × Nat)) (v : Value) (wr : World) : Prop := wr.ownsRow base 60 4 v out.length (out.flatMap itemCells) ∧ Ext w0 wr
theorem RputRel.ext {w0 wr w' : World} {base : Nat} {out : List (GV × Nat)} {v : Value} (h : RputRel w0 base out v wr) (x : Ext wr w') : RputRel w0 base out v w' := ⟨ownsRow_ext h.1 x, h.2.trans x⟩
theorem RputRel.snoc {w0 wr w' : World} {out : List (GV × Nat)} {v v' : Value} {x : GV × Nat} {o : Obj} (h : RputRel w0 w0.heap.size out v wr) (h1 : w'.ownsRow w0.heap.size 60 4 v' (out.length + 1) (out.flatMap itemCells ++ itemCells x)) (h2 : (wr.alloc o).grownBy w' v.ownBlock) : RputRel w0 w0.heap.size (out ++ [x]) v' w' :=
  ⟨own_snoc h1, own_grown h.1 h.2 (Nat.le_refl _) h2⟩
/-- What ref's Put hands back. -/
def rputFin (d : Bool) (e : GV × Nat) (l : List (GV × Nat)) : List (GV × Nat) := if (rputTo d e l l.length).2 then (rputTo d e l l.length).1 else (rputTo d e l l.length).1 ++ [e]
theorem rputFin_eq {d : Bool} {e : GV × Nat} {l : List (GV × Nat)} (hs : Sorted d l) : rputFin d e l = insL d e l := rput_end hs
def ItemsRes (S : Nat → Prop) (r : List (GV × Nat)) (w : World) (e : Ending) (w' : World) : Prop := ∃ v', e = .returned v' ∧ Ext w w' ∧ ItemsV S w' v' r
set_option maxHeartbeats 4000000 in
set_option maxRecDepth 100000 in
theorem rPut_c {w : World} (hS : Fresh S w) (d : Bool) (v : GV) (n : Nat) {lv : Value} {l : List (GV × Nat)} (hl : ItemsV S w lv l) (hlen : l.length ≤ 1000000) :
    Calls Try.prog 49 #[lv, .agg #[.int .i64 v.kind, .int .i64 v.num, .string v.str], .int .u64 (n : Nat), .bool d] w (ItemsRes S (rputFin d (v, n) l) w) := by
  obtain ⟨a, cap, rfl, hc1, hc2, hc3, hrow⟩ := hl
  obtain ⟨vk, vn, vs⟩ := v
  obtain ⟨i0, hi, hz0, hz1, hz2⟩ := info_parts info_item
  have HI := Lib.hid (And.intro hi (And.intro hz0 (And.intro hz1 hz2)))
  have HR := Lib.hid (And.intro hrow hS)
  clear hi hz0 hz1 hz2 hrow hS hc3
  go_enter Try.func49, Try.ntmps49
  go_wp2_with fail
  have hb0 := Blk.new w [.int .i64 vk, .int .i64 vn, .string vs] 38
  have he0 := Ext.alloc w (.cells #[.int .i64 vk, .int .i64 vn, .string vs] 38)
  have hsz0 : (w.alloc (.cells #[.int .i64 vk, .int .i64 vn, .string vs] 38)).heap.size = w.heap.size + 1 := by simp
  generalize w.alloc (.cells #[.int .i64 vk, .int .i64 vn, .string vs] 38) = w0 at hb0 he0 hsz0 ⊢
  obtain ⟨x0, x1, x2⟩ := boxV hb0
  have HE0 := Lib.hid (And.intro he0 hsz0)
  clear hb0 he0 hsz0
  go_loopw [9, 10, 11] (fun ov dn i wr => ∃ k : Nat, k ≤ l.length ∧ i = .int .i64 k ∧ dn = .bool (rputTo d (⟨vk, vn, vs⟩, n) l k).2 ∧ Hid (RputRel w0 w0.heap.size (rputTo d (⟨vk, vn, vs⟩, n) l k).1 ov wr)) (fun _ _ i _ => l.length - (intOf i).toNat)
  case atStart => exact ⟨0, Nat.zero_le _, rfl, rfl, ⟨by simp [rputTo_zero], .inl ⟨rfl, by simp [rputTo_zero]⟩⟩, Ext.refl _⟩
  case round =>
    obtain ⟨k, hk, rfl, rfl, HL⟩ := hrel
    by_cases hkl : k < l.length
    · have hx : l[k]? = some l[k] := List.getElem?_eq_getElem hkl
      have hst := rputTo_succ d (⟨vk, vn, vs⟩, n) l hx
      have hle := rput_len d (⟨vk, vn, vs⟩, n) l k hk
      obtain ⟨b1, o1, rfl, y0, y1, y2, y3⟩ := row_item (HR.out.1.ext HE0.out.1) hx
      generalize l[k] = x at *
      obtain ⟨⟨xk, xn, xs⟩, xw⟩ := x
      generalize hG : rputTo d (⟨vk, vn, vs⟩, n) l k = st at *
      obtain ⟨out, dn⟩ := st
      have HST := Lib.hid hst
      have Ewr := Lib.hid HL.out.2
      have ewr := HL.out.2
      clear hst hx hG
      simp only at hle
      go_wp2_with fail
      refine wp_region_mixE 10 [(0, 0), (1, 3), (2, 3), (3, 3), (4, 3), (5, 0), (6, 3), (7, 1), (8, 3)] (by kernel_rfl) (fun _ _ d _ _ h => by cases d <;> exact h) ?_
      intro w1 hw1
      simp only [List.map_cons, List.map_nil, mixPick_lt _ _ 0 rfl, mixPick_lt _ _ 1 rfl, mixPick_lt _ _ 2 rfl, mixPick_lt _ _ 3 rfl, mixPick_fork, List.getD_cons_zero, List.getD_cons_succ]
      generalize yielded _ = y
      have Ew1 := Lib.hid (Ewr.out.trans hw1)
      have tew1 := fun W (h : Ext w1 W) => Ew1.out.trans h
      repeat (first | (refine mx_pu (v := ?_) rfl (fun W => ?_) ?_; rotate_left; (focus (go_simp <;> with_reducible rfl)); simp only [Act.put, List.setIfInBounds_toArray, List.set_cons_zero, List.set_cons_succ]) | (refine mx_st (v := ?_) rfl (fun W hW => ?_) ?_; rotate_left; (focus (go_simp <;> with_reducible rfl)); simp only [Act.put, List.setIfInBounds_toArray, List.set_cons_zero, List.set_cons_succ]))
      refine mx_call (f := ?_) (args := ?_) rfl ?_ ?_
      rotate_left 2
      focus (go_simp <;> (refine ⟨?_, ?_⟩ <;> with_reducible rfl))
      have hI := rcompare_c d ⟨vk, vn, vs⟩ ⟨xk, xn, xs⟩ w1
      with_reducible refine hI.mono ?_
      clear hI
      rintro e w2 ⟨rfl, hw2⟩
      refine ⟨_, rfl, hw2, ?_⟩
      simp only [Act.put, List.setIfInBounds_toArray, List.set_cons_zero, List.set_cons_succ]
      repeat (first | (refine mx_pu (v := ?_) rfl (fun W => ?_) ?_; rotate_left; (focus (go_simp <;> with_reducible rfl)); simp only [Act.put, List.setIfInBounds_toArray, List.set_cons_zero, List.set_cons_succ]) | (refine mx_st (v := ?_) rfl (fun W hW => ?_) ?_; rotate_left; (focus (go_simp <;> with_reducible rfl)); simp only [Act.put, List.setIfInBounds_toArray, List.set_cons_zero, List.set_cons_succ]))
      refine mx_nil ?_
      have HL2 := Lib.hid (HL.out.ext (hw1.trans hw2))
      have ew2 := HL2.out.2
      have hcr := tcmp_range d ⟨vk, vn, vs⟩ ⟨xk, xn, xs⟩
      generalize hcc : tcmp d ⟨vk, vn, vs⟩ ⟨xk, xn, xs⟩ = c at *
      have HC := Lib.hid hcc
      clear hcc tew1 Ew1 hw1 hw2 ewr Ewr HL
      cases dn
      · rcases hcr with rfl | rfl | rfl
        · skip
          go_wp2_with (first | (at_builtin; refine wpList_append_row (S := fun _ => True) rfl (.tmp 33) (.tmp 37) 54 rfl w0.heap.size 60 i0 (.agg #[.int .i64 0, .int .i64 0, .string ⟨#[]⟩, .int .u64 0]) 4 40 Try.underlying54 HI.out.1 HI.out.2.1 HI.out.2.2.1 HI.out.2.2.2 rfl (by decide) u9 (out).length ((out).flatMap itemCells) rfl (HL2.out.1.alloc _) (some ⟨w2.heap.size, 0, none⟩) 1 1 (itemCells (⟨vk, vn, vs⟩, n)) rfl rfl (rowAt_alloc w2 trivial (itemCells (⟨vk, vn, vs⟩, n)) _) (by simp [itemCells, Value.oneCell']) (by simp) (by decide) (by omega) (Nat.le_trans HL2.out.2.size (Ext.alloc _ _).size) ?_; intro va wa hown hgrow; have Ha := Lib.hid (RputRel.snoc HL2.out hown hgrow); have ewa := Ha.out.2; clear hown hgrow) | (at_builtin; go_must (refine wpList_append_row (S := fun _ => True) rfl (.tmp 41) (.tmp 46) 54 rfl w0.heap.size 60 i0 (.agg #[.int .i64 0, .int .i64 0, .string ⟨#[]⟩, .int .u64 0]) 4 40 Try.underlying54 HI.out.1 HI.out.2.1 HI.out.2.2.1 HI.out.2.2.2 rfl (by decide) va (out ++ [((⟨vk, vn, vs⟩, n) : GV × Nat)]).length ((out ++ [((⟨vk, vn, vs⟩, n) : GV × Nat)]).flatMap itemCells) rfl (Ha.out.1.alloc _) (some ⟨wa.heap.size, 0, none⟩) 1 1 (itemCells (⟨xk, xn, xs⟩, xw)) rfl rfl (rowAt_alloc wa trivial (itemCells (⟨xk, xn, xs⟩, xw)) _) (by simp [itemCells, Value.oneCell']) (by simp) (by decide) (by have h9 : (out ++ [((⟨vk, vn, vs⟩, n) : GV × Nat)]).length = out.length + 1 := List.length_append; omega) (Nat.le_trans Ha.out.2.size (Ext.alloc _ _).size) ?_; intro vb wb hown hgrow; have Hb := Lib.hid (RputRel.snoc Ha.out hown hgrow); have ewb := Hb.out.2; clear hown hgrow)))
          go_roundw
          case rel =>
            have e1 : rputTo d (⟨vk, vn, vs⟩, n) l (k + 1) = (out ++ [(⟨vk, vn, vs⟩, n)] ++ [(⟨xk, xn, xs⟩, xw)], true) := by rw [HST.out, rstep, HC.out]; simp
            exact ⟨k + 1, by omega, by go_num, by rw [e1], by rw [e1]; exact Hb.out⟩
          case measure => simp [intOf]; omega
        · skip
          go_wp2_with (first | (at_builtin; refine wpList_append_row (S := fun _ => True) rfl (.tmp 33) (.tmp 37) 54 rfl w0.heap.size 60 i0 (.agg #[.int .i64 0, .int .i64 0, .string ⟨#[]⟩, .int .u64 0]) 4 40 Try.underlying54 HI.out.1 HI.out.2.1 HI.out.2.2.1 HI.out.2.2.2 rfl (by decide) u9 (out).length ((out).flatMap itemCells) rfl (HL2.out.1.alloc _) (some ⟨w2.heap.size, 0, none⟩) 1 1 (itemCells (⟨vk, vn, vs⟩, n)) rfl rfl (rowAt_alloc w2 trivial (itemCells (⟨vk, vn, vs⟩, n)) _) (by simp [itemCells, Value.oneCell']) (by simp) (by decide) (by omega) (Nat.le_trans HL2.out.2.size (Ext.alloc _ _).size) ?_; intro va wa hown hgrow; have Ha := Lib.hid (RputRel.snoc HL2.out hown hgrow); have ewa := Ha.out.2; clear hown hgrow))
          go_roundw
          case rel =>
            have e1 : rputTo d (⟨vk, vn, vs⟩, n) l (k + 1) = (out ++ [(⟨vk, vn, vs⟩, n)], true) := by rw [HST.out, rstep, HC.out]; simp
            exact ⟨k + 1, by omega, by go_num, by rw [e1], by rw [e1]; exact Ha.out⟩
          case measure => simp [intOf]; omega
        · skip
          go_wp2_with (first | (at_builtin; refine wpList_append_row (S := fun _ => True) rfl (.tmp 41) (.tmp 46) 54 rfl w0.heap.size 60 i0 (.agg #[.int .i64 0, .int .i64 0, .string ⟨#[]⟩, .int .u64 0]) 4 40 Try.underlying54 HI.out.1 HI.out.2.1 HI.out.2.2.1 HI.out.2.2.2 rfl (by decide) u9 (out).length ((out).flatMap itemCells) rfl (HL2.out.1.alloc _) (some ⟨w2.heap.size, 0, none⟩) 1 1 (itemCells (⟨xk, xn, xs⟩, xw)) rfl rfl (rowAt_alloc w2 trivial (itemCells (⟨xk, xn, xs⟩, xw)) _) (by simp [itemCells, Value.oneCell']) (by simp) (by decide) (by omega) (Nat.le_trans HL2.out.2.size (Ext.alloc _ _).size) ?_; intro vb wb hown hgrow; have Hb := Lib.hid (RputRel.snoc HL2.out hown hgrow); have ewb := Hb.out.2; clear hown hgrow))
          go_roundw
          case rel =>
            have e1 : rputTo d (⟨vk, vn, vs⟩, n) l (k + 1) = (out ++ [(⟨xk, xn, xs⟩, xw)], false) := by rw [HST.out, rstep, HC.out]; simp
            exact ⟨k + 1, by omega, by go_num, by rw [e1], by rw [e1]; exact Hb.out⟩
          case measure => simp [intOf]; omega
      · rcases hcr with rfl | rfl | rfl
        · skip
          go_wp2_with (first | (at_builtin; refine wpList_append_row (S := fun _ => True) rfl (.tmp 41) (.tmp 46) 54 rfl w0.heap.size 60 i0 (.agg #[.int .i64 0, .int .i64 0, .string ⟨#[]⟩, .int .u64 0]) 4 40 Try.underlying54 HI.out.1 HI.out.2.1 HI.out.2.2.1 HI.out.2.2.2 rfl (by decide) u9 (out).length ((out).flatMap itemCells) rfl (HL2.out.1.alloc _) (some ⟨w2.heap.size, 0, none⟩) 1 1 (itemCells (⟨xk, xn, xs⟩, xw)) rfl rfl (rowAt_alloc w2 trivial (itemCells (⟨xk, xn, xs⟩, xw)) _) (by simp [itemCells, Value.oneCell']) (by simp) (by decide) (by omega) (Nat.le_trans HL2.out.2.size (Ext.alloc _ _).size) ?_; intro vb wb hown hgrow; have Hb := Lib.hid (RputRel.snoc HL2.out hown hgrow); have ewb := Hb.out.2; clear hown hgrow))
          go_roundw
          case rel =>
            have e1 : rputTo d (⟨vk, vn, vs⟩, n) l (k + 1) = (out ++ [(⟨xk, xn, xs⟩, xw)], true) := by rw [HST.out, rstep, HC.out]; simp
            exact ⟨k + 1, by omega, by go_num, by rw [e1], by rw [e1]; exact Hb.out⟩
          case measure => simp [intOf]; omega
        · skip
          go_wp2_with fail
          go_roundw
          case rel =>
            have e1 : rputTo d (⟨vk, vn, vs⟩, n) l (k + 1) = (out, true) := by rw [HST.out, rstep, HC.out]; simp
            exact ⟨k + 1, by omega, by go_num, by rw [e1], by rw [e1]; exact HL2.out⟩
          case measure => simp [intOf]; omega
        · skip
          go_wp2_with (first | (at_builtin; refine wpList_append_row (S := fun _ => True) rfl (.tmp 41) (.tmp 46) 54 rfl w0.heap.size 60 i0 (.agg #[.int .i64 0, .int .i64 0, .string ⟨#[]⟩, .int .u64 0]) 4 40 Try.underlying54 HI.out.1 HI.out.2.1 HI.out.2.2.1 HI.out.2.2.2 rfl (by decide) u9 (out).length ((out).flatMap itemCells) rfl (HL2.out.1.alloc _) (some ⟨w2.heap.size, 0, none⟩) 1 1 (itemCells (⟨xk, xn, xs⟩, xw)) rfl rfl (rowAt_alloc w2 trivial (itemCells (⟨xk, xn, xs⟩, xw)) _) (by simp [itemCells, Value.oneCell']) (by simp) (by decide) (by omega) (Nat.le_trans HL2.out.2.size (Ext.alloc _ _).size) ?_; intro vb wb hown hgrow; have Hb := Lib.hid (RputRel.snoc HL2.out hown hgrow); have ewb := Hb.out.2; clear hown hgrow))
          go_roundw
          case rel =>
            have e1 : rputTo d (⟨vk, vn, vs⟩, n) l (k + 1) = (out ++ [(⟨xk, xn, xs⟩, xw)], true) := by rw [HST.out, rstep, HC.out]; simp
            exact ⟨k + 1, by omega, by go_num, by rw [e1], by rw [e1]; exact Hb.out⟩
          case measure => simp [intOf]; omega
    · obtain rfl : k = l.length := by omega
      have hle := rput_len d (⟨vk, vn, vs⟩, n) l l.length (Nat.le_refl _)
      have ewr := HL.out.2
      generalize hG : rputTo d (⟨vk, vn, vs⟩, n) l l.length = st at *
      obtain ⟨out, dn⟩ := st
      have HG := Lib.hid hG
      clear hG
      simp only at hle
      cases dn
      · go_wp2_with (at_builtin; refine wpList_append_row (S := fun _ => True) rfl (.tmp 50) (.tmp 54) 54 rfl w0.heap.size 60 i0 (.agg #[.int .i64 0, .int .i64 0, .string ⟨#[]⟩, .int .u64 0]) 4 40 Try.underlying54 HI.out.1 HI.out.2.1 HI.out.2.2.1 HI.out.2.2.2 rfl (by decide) u9 (out).length ((out).flatMap itemCells) rfl (HL.out.1.alloc _) (some ⟨wr.heap.size, 0, none⟩) 1 1 (itemCells (⟨vk, vn, vs⟩, n)) rfl rfl (rowAt_alloc wr trivial (itemCells (⟨vk, vn, vs⟩, n)) _) (by simp [itemCells, Value.oneCell']) (by simp) (by decide) (by omega) (Nat.le_trans HL.out.2.size (Ext.alloc _ _).size) ?_; intro va wa hown hgrow; have Ha := Lib.hid (RputRel.snoc HL.out hown hgrow); have ewa := Ha.out.2; clear hown hgrow)
        go_ret
        refine ⟨_, rfl, HE0.out.1.trans ewa, ?_⟩
        rw [rputFin, HG.out]
        exact own_items (fun b hb => HR.out.2 b (Nat.le_trans HE0.out.1.size hb)) Ha.out.1
      · go_wp2_with fail
        go_ret
        refine ⟨_, rfl, HE0.out.1.trans ewr, ?_⟩
        rw [rputFin, HG.out]
        exact own_items (fun b hb => HR.out.2 b (Nat.le_trans HE0.out.1.size hb)) HL.out.1
end Go.Proofs.Ytbbnpicddmplbaa

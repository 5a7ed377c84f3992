/- The reference of chapter 39: Index, Delete, Total, Before, Find, Height. -/
import Derived.Test.YtbbnpicddmplbaaRf
import Derived.Test.YtbbnpicddmplbaaWt11
namespace Go.Proofs.Ytbbnpicddmplbaa
open Go.RowKit Go.Deep
set_option linter.unusedVariables false
set_option linter.unusedSimpArgs false
variable {S : Nat → Prop}


/-- The index of a value, or -1. -/
def idxL (d : Bool) (v : GV) : List (GV × Nat) → Nat → Int
  | [], _ => -1
  | x :: r, k => if tcmp d v x.1 = 0 then k else idxL d v r (k + 1)
theorem idxL_look {d : Bool} {v : GV} : ∀ {l : List (GV × Nat)} {k : Nat}, (lookL d v l = none ∧ idxL d v l k = -1) ∨ ∃ i n, lookL d v l = some n ∧ idxL d v l k = ((k + i : Nat) : Int) ∧ l[i]? = some (v, n)
  | [], k => .inl ⟨rfl, rfl⟩
  | x :: r, k => by
    by_cases h : tcmp d v x.1 = 0
    · right
      refine ⟨0, x.2, by rw [lookL, if_pos h], by rw [idxL, if_pos h]; rfl, ?_⟩
      have := tcmp_eq h
      subst this
      rfl
    · rcases idxL_look (d := d) (v := v) (l := r) (k := k + 1) with ⟨h1, h2⟩ | ⟨i, n, h1, h2, h3⟩
      · exact .inl ⟨by rw [lookL, if_neg h, h1], by rw [idxL, if_neg h, h2]⟩
      · exact .inr ⟨i + 1, n, by rw [lookL, if_neg h, h1], by rw [idxL, if_neg h, h2]; omega, by simpa using h3⟩
theorem drop_item (l : List (GV × Nat)) {k : Nat} {x : GV × Nat} (h : l[k]? = some x) : l.drop k = x :: l.drop (k + 1) := by
  obtain ⟨hk, rfl⟩ := List.getElem?_eq_some_iff.1 h
  exact List.drop_eq_getElem_cons hk
theorem take_item (l : List (GV × Nat)) {k : Nat} {x : GV × Nat} (h : l[k]? = some x) : l.take (k + 1) = l.take k ++ [x] := by
  obtain ⟨hk, rfl⟩ := List.getElem?_eq_some_iff.1 h
  exact List.take_succ_eq_append_getElem hk
theorem sumW_take_le (l : List (GV × Nat)) (k : Nat) : sumW (l.take k) ≤ sumW l := by
  conv => rhs; rw [← List.take_append_drop k l]
  rw [sumW_append]; omega
theorem befL_le (d : Bool) (v : GV) : ∀ l : List (GV × Nat), befL d v l ≤ sumW l
  | [] => Nat.le_refl _
  | x :: r => by
    have h : befL d v (x :: r) = befL d v [x] + befL d v r := befL_append d v [x] r
    have h1 : befL d v [x] ≤ x.2 := by unfold befL; rw [List.filter_cons]; split <;> simp [sumW]
    have := befL_le d v r
    rw [h, sumW_cons]; omega
/-- What Index hands back. -/
def IntRes (r : Int) (w : World) (e : Ending) (w' : World) : Prop := e = .returned (.int .i64 r) ∧ Ext w w'
set_option maxHeartbeats 2000000 in
set_option maxRecDepth 100000 in
theorem rIndex_c {w : World} (d : Bool) (v : GV) {lv : Value} {l : List (GV × Nat)} (hl : ItemsV S w lv l) :
    Calls Try.prog 27 #[lv, .agg #[.int .i64 v.kind, .int .i64 v.num, .string v.str]] w (IntRes (idxL d v l 0) w) := by
  obtain ⟨a, cap, rfl, hc1, hc2, hc3, hrow⟩ := hl
  obtain ⟨vk, vn, vs⟩ := v
  have HR := Lib.hid hrow
  clear hrow hc3
  go_enter Try.func27, Try.ntmps27
  go_wp2_with fail
  have hb0 := Blk.new w [.int .i64 vk, .int .i64 vn, .string vs] 38
  have he0 := Ext.alloc w (.cells #[.int .i64 vk, .int .i64 vn, .string vs] 38)
  generalize w.alloc (.cells #[.int .i64 vk, .int .i64 vn, .string vs] 38) = w0 at hb0 he0 ⊢
  obtain ⟨x0, x1, x2⟩ := boxV hb0
  have HE0 := Lib.hid he0
  clear hb0 he0
  go_loopw [5] (fun i wr => ∃ k : Nat, k ≤ l.length ∧ i = .int .i64 k ∧ Hid (Ext w0 wr ∧ idxL d ⟨vk, vn, vs⟩ l 0 = idxL d ⟨vk, vn, vs⟩ (l.drop k) k)) (fun i _ => l.length - (intOf i).toNat)
  case atStart => exact ⟨0, Nat.zero_le _, rfl, Ext.refl _, rfl⟩
  case round =>
    obtain ⟨k, hk, rfl, HL⟩ := hrel
    have ewr := HL.out.1
    by_cases hkl : k < l.length
    · have hx : l[k]? = some l[k] := List.getElem?_eq_getElem hkl
      obtain ⟨b1, o1, rfl, y0, y1, y2, y3⟩ := row_item (HR.out.ext HE0.out) hx
      have hdr := drop_item l hx
      generalize l[k] = x at *
      obtain ⟨⟨xk, xn, xs⟩, xw⟩ := x
      have HD := Lib.hid hdr
      have Ewr := Lib.hid ewr
      clear hdr hx
      rcases Classical.em ((⟨xk, xn, xs⟩ : GV) = ⟨vk, vn, vs⟩) with he | he
      · cases he
        go_wp2_with fail
        refine wp_region_mixE 8 [(0, 3), (1, 3), (2, 3), (3, 3), (4, 0), (5, 0), (6, 3)] (by kernel_rfl) (fun _ _ d _ _ h => by cases d <;> exact h) ?_
        intro w1 hw1
        simp only [List.map_cons, List.map_nil, mixPick_lt _ _ 0 rfl, mixPick_lt _ _ 1 rfl, mixPick_lt _ _ 2 rfl, mixPick_lt _ _ 3 rfl, mixPick_fork, List.getD_cons_zero, List.getD_cons_succ]
        generalize yielded _ = y
        have Ew1 := Lib.hid (Ewr.out.trans hw1)
        have tew1 := fun W (h : Ext w1 W) => Ew1.out.trans h
        repeat (first | (refine mx_pu (v := ?_) rfl (fun W => ?_) ?_; rotate_left; (focus (go_simp <;> with_reducible rfl)); simp only [Act.put, List.setIfInBounds_toArray, List.set_cons_zero, List.set_cons_succ]) | (refine mx_st (v := ?_) rfl (fun W hW => ?_) ?_; rotate_left; (focus (go_simp <;> with_reducible rfl)); simp only [Act.put, List.setIfInBounds_toArray, List.set_cons_zero, List.set_cons_succ]))
        refine mx_nil ?_
        go_wp2_with fail
        go_ret
        refine ⟨?_, HE0.out.trans Ew1.out⟩
        rw [HL.out.2, HD.out, idxL, if_pos (tcmp_refl _ _)]
        rfl
      · have hne : tcmp d ⟨vk, vn, vs⟩ ⟨xk, xn, xs⟩ ≠ 0 := fun h => he (tcmp_eq h).symm
        have HN := Lib.hid hne
        rcases GV.ne_cases he with h1 | ⟨h1, h2⟩ | ⟨h1, h2, h3⟩
        all_goals
          simp only at *
          (try subst h1)
          (try subst h2)
          clear he hne
          go_wp2_with fail
          refine wp_region_mixE 8 [(0, 3), (1, 3), (2, 3), (3, 3), (4, 0), (5, 0), (6, 3)] (by kernel_rfl) (fun _ _ d _ _ h => by cases d <;> exact h) ?_
          intro w1 hw1
          simp only [List.map_cons, List.map_nil, mixPick_lt _ _ 0 rfl, mixPick_lt _ _ 1 rfl, mixPick_lt _ _ 2 rfl, mixPick_lt _ _ 3 rfl, mixPick_fork, List.getD_cons_zero, List.getD_cons_succ]
          generalize yielded _ = y
          have Ew1 := Lib.hid (Ewr.out.trans hw1)
          have tew1 := fun W (h : Ext w1 W) => Ew1.out.trans h
          repeat (first | (refine mx_pu (v := ?_) rfl (fun W => ?_) ?_; rotate_left; (focus (go_simp <;> with_reducible rfl)); simp only [Act.put, List.setIfInBounds_toArray, List.set_cons_zero, List.set_cons_succ]) | (refine mx_st (v := ?_) rfl (fun W hW => ?_) ?_; rotate_left; (focus (go_simp <;> with_reducible rfl)); simp only [Act.put, List.setIfInBounds_toArray, List.set_cons_zero, List.set_cons_succ]))
          refine mx_nil ?_
          go_wp2_with fail
          go_roundw
          case rel => exact ⟨k + 1, by omega, by go_num, Ew1.out, by rw [HL.out.2, HD.out, idxL, if_neg HN.out]⟩
          case measure => simp [intOf]; omega
    · obtain rfl : k = l.length := by omega
      go_wp2_with fail
      go_ret
      refine ⟨?_, HE0.out.trans ewr⟩
      rw [HL.out.2, List.drop_length]
      rfl
set_option maxHeartbeats 4000000 in
set_option maxRecDepth 100000 in
theorem rDelete_c {w : World} (hS : Fresh S w) (d : Bool) (v : GV) {lv : Value} {l : List (GV × Nat)} (hl : ItemsV S w lv l) (hlen : l.length ≤ 1000000) :
    Calls Try.prog 47 #[lv, .agg #[.int .i64 v.kind, .int .i64 v.num, .string v.str]] w (ItemsRes S (delL d v l) w) := by
  obtain ⟨a, cap, rfl, hc1, hc2, hc3, hrow⟩ := hl
  obtain ⟨vk, vn, vs⟩ := v
  obtain ⟨i0, hi, hz0, hz1, hz2⟩ := info_parts info_item
  have HI := Lib.hid (And.intro hi (And.intro hz0 (And.intro hz1 hz2)))
  have HR := Lib.hid (And.intro hrow hS)
  clear hi hz0 hz1 hz2 hrow hS hc3
  go_enter Try.func47, Try.ntmps47
  go_wp2_with fail
  have hb0 := Blk.new w [.int .i64 vk, .int .i64 vn, .string vs] 38
  have he0 := Ext.alloc w (.cells #[.int .i64 vk, .int .i64 vn, .string vs] 38)
  generalize w.alloc (.cells #[.int .i64 vk, .int .i64 vn, .string vs] 38) = w0 at hb0 he0 ⊢
  obtain ⟨x0, x1, x2⟩ := boxV hb0
  have HE0 := Lib.hid he0
  clear hb0 he0
  go_loopw [5, 6] (fun ov i wr => ∃ k : Nat, k ≤ l.length ∧ i = .int .i64 k ∧ Hid (RputRel w0 w0.heap.size (delL d ⟨vk, vn, vs⟩ (l.take k)) ov wr)) (fun _ i _ => l.length - (intOf i).toNat)
  case atStart => exact ⟨0, Nat.zero_le _, rfl, ⟨by simp [delL], .inl ⟨rfl, by simp [delL]⟩⟩, Ext.refl _⟩
  case round =>
    obtain ⟨k, hk, rfl, HL⟩ := hrel
    have ewr := HL.out.2
    by_cases hkl : k < l.length
    · have hx : l[k]? = some l[k] := List.getElem?_eq_getElem hkl
      obtain ⟨b1, o1, rfl, y0, y1, y2, y3⟩ := row_item (HR.out.1.ext HE0.out) hx
      have htk := take_item l hx
      have hle : (delL d ⟨vk, vn, vs⟩ (l.take k)).length ≤ k := Nat.le_trans (del_length_le _ _ _) (by rw [List.length_take]; omega)
      generalize l[k] = x at *
      obtain ⟨⟨xk, xn, xs⟩, xw⟩ := x
      have HD := Lib.hid htk
      have Ewr := Lib.hid ewr
      clear htk hx
      generalize hout : delL d ⟨vk, vn, vs⟩ (l.take k) = out at *
      have HOUT := Lib.hid hout
      clear hout
      rcases Classical.em ((⟨xk, xn, xs⟩ : GV) = ⟨vk, vn, vs⟩) with he | he
      · cases he
        go_wp2_with fail
        refine wp_region_mixE 8 [(0, 3), (1, 3), (2, 3), (3, 3), (4, 0), (5, 0), (6, 3)] (by kernel_rfl) (fun _ _ d _ _ h => by cases d <;> exact h) ?_
        intro w1 hw1
        simp only [List.map_cons, List.map_nil, mixPick_lt _ _ 0 rfl, mixPick_lt _ _ 1 rfl, mixPick_lt _ _ 2 rfl, mixPick_lt _ _ 3 rfl, mixPick_fork, List.getD_cons_zero, List.getD_cons_succ]
        generalize yielded _ = y
        have Ew1 := Lib.hid (Ewr.out.trans hw1)
        have tew1 := fun W (h : Ext w1 W) => Ew1.out.trans h
        repeat (first | (refine mx_pu (v := ?_) rfl (fun W => ?_) ?_; rotate_left; (focus (go_simp <;> with_reducible rfl)); simp only [Act.put, List.setIfInBounds_toArray, List.set_cons_zero, List.set_cons_succ]) | (refine mx_st (v := ?_) rfl (fun W hW => ?_) ?_; rotate_left; (focus (go_simp <;> with_reducible rfl)); simp only [Act.put, List.setIfInBounds_toArray, List.set_cons_zero, List.set_cons_succ]))
        refine mx_nil ?_
        go_wp2_with fail
        go_roundw
        case rel => exact ⟨k + 1, by omega, by go_num, Lib.hid (by rw [HD.out, delL_append, delL_cons_eq (x := (⟨vk, vn, vs⟩, xw)) (tcmp_refl _ _), HOUT.out]; simpa [delL] using HL.out.ext hw1)⟩
        case measure => simp [intOf]; omega
      · have hne : tcmp d ⟨vk, vn, vs⟩ ⟨xk, xn, xs⟩ ≠ 0 := fun h => he (tcmp_eq h).symm
        have HN := Lib.hid hne
        rcases GV.ne_cases he with h1 | ⟨h1, h2⟩ | ⟨h1, h2, h3⟩
        all_goals
          simp only at *
          (try subst h1)
          (try subst h2)
          clear he hne
          go_wp2_with fail
          refine wp_region_mixE 8 [(0, 3), (1, 3), (2, 3), (3, 3), (4, 0), (5, 0), (6, 3)] (by kernel_rfl) (fun _ _ d _ _ h => by cases d <;> exact h) ?_
          intro w1 hw1
          simp only [List.map_cons, List.map_nil, mixPick_lt _ _ 0 rfl, mixPick_lt _ _ 1 rfl, mixPick_lt _ _ 2 rfl, mixPick_lt _ _ 3 rfl, mixPick_fork, List.getD_cons_zero, List.getD_cons_succ]
          generalize yielded _ = y
          have Ew1 := Lib.hid (Ewr.out.trans hw1)
          have tew1 := fun W (h : Ext w1 W) => Ew1.out.trans h
          repeat (first | (refine mx_pu (v := ?_) rfl (fun W => ?_) ?_; rotate_left; (focus (go_simp <;> with_reducible rfl)); simp only [Act.put, List.setIfInBounds_toArray, List.set_cons_zero, List.set_cons_succ]) | (refine mx_st (v := ?_) rfl (fun W hW => ?_) ?_; rotate_left; (focus (go_simp <;> with_reducible rfl)); simp only [Act.put, List.setIfInBounds_toArray, List.set_cons_zero, List.set_cons_succ]))
          refine mx_nil ?_
          have HL1 := Lib.hid (HL.out.ext hw1)
          have ew1 := Ew1.out
          go_wp2_with (at_builtin; refine wpList_append_row (S := fun _ => True) rfl (.tmp 20) (.tmp 25) 54 rfl w0.heap.size 60 i0 (.agg #[.int .i64 0, .int .i64 0, .string ⟨#[]⟩, .int .u64 0]) 4 40 Try.underlying54 HI.out.1 HI.out.2.1 HI.out.2.2.1 HI.out.2.2.2 rfl (by decide) u5 (out).length ((out).flatMap itemCells) rfl (HL1.out.1.alloc _) (some ⟨w1.heap.size, 0, none⟩) 1 1 (itemCells (⟨xk, xn, xs⟩, xw)) rfl rfl (rowAt_alloc w1 trivial (itemCells (⟨xk, xn, xs⟩, xw)) _) (by simp [itemCells, Value.oneCell']) (by simp) (by decide) (by omega) (Nat.le_trans HL1.out.2.size (Ext.alloc _ _).size) ?_; intro va wa hown hgrow; have Ha := Lib.hid (RputRel.snoc HL1.out hown hgrow); have ewa := Ha.out.2; clear hown hgrow)
          go_roundw
          case rel => exact ⟨k + 1, by omega, by go_num, Lib.hid (by rw [HD.out, delL_append, delL_cons_ne HN.out, HOUT.out]; simpa [delL] using Ha.out)⟩
          case measure => simp [intOf]; omega
    · obtain rfl : k = l.length := by omega
      go_wp2_with fail
      go_ret
      refine ⟨_, rfl, HE0.out.trans ewr, ?_⟩
      have := HL.out.1
      rw [List.take_length] at this
      exact own_items (fun b hb => HR.out.2 b (Nat.le_trans HE0.out.size hb)) this
/-- What Total and Before hand back. -/
def U64Res (r : Nat) (w : World) (e : Ending) (w' : World) : Prop := e = .returned (.int .u64 (r : Nat)) ∧ Ext w w'
set_option maxHeartbeats 1000000 in
theorem rTotal_c {w : World} {lv : Value} {l : List (GV × Nat)} (hl : ItemsV S w lv l) (hb : sumW l < 18446744073709551616) :
    Calls Try.prog 58 #[lv] w (U64Res (sumW l) w) := by
  obtain ⟨a, cap, rfl, hc1, hc2, hc3, hrow⟩ := hl
  have HR := Lib.hid hrow
  have HB := Lib.hid hb
  clear hrow hc3 hb
  go_enter Try.func58, Try.ntmps58
  go_wp2_with fail
  go_loopw [3, 4] (fun s i wr => ∃ k n : Nat, k ≤ l.length ∧ i = .int .i64 k ∧ s = .int .u64 n ∧ Hid (Ext w wr ∧ n = sumW (l.take k))) (fun _ i _ => l.length - (intOf i).toNat)
  case atStart => exact ⟨0, 0, Nat.zero_le _, rfl, rfl, Ext.refl _, rfl⟩
  case round =>
    obtain ⟨k, n, hk, rfl, rfl, HL⟩ := hrel
    have ewr := HL.out.1
    by_cases hkl : k < l.length
    · have hx : l[k]? = some l[k] := List.getElem?_eq_getElem hkl
      obtain ⟨b1, o1, rfl, y0, y1, y2, y3⟩ := row_item HR.out hx
      have htk : n + l[k].2 = sumW (l.take (k + 1)) := by rw [take_item l hx, sumW_append, HL.out.2]; simp [sumW]
      have hlt : n + l[k].2 < 18446744073709551616 := by have := sumW_take_le l (k + 1); have := HB.out; omega
      generalize l[k] = x at *
      obtain ⟨⟨xk, xn, xs⟩, xw⟩ := x
      simp only at htk hlt
      have HD := Lib.hid htk
      clear htk hx
      go_wp2_with fail
      go_roundw
      case rel => exact ⟨k + 1, n + xw, by omega, by go_num, by go_num, HL.out.1, HD.out⟩
      case measure => simp [intOf]; omega
    · obtain rfl : k = l.length := by omega
      go_wp2_with fail
      go_ret
      refine ⟨?_, ewr⟩
      rw [HL.out.2, List.take_length]
      rfl
set_option maxHeartbeats 2000000 in
set_option maxRecDepth 100000 in
theorem rBefore_c {w : World} (d : Bool) (v : GV) {lv : Value} {l : List (GV × Nat)} (hl : ItemsV S w lv l) (hb : sumW l < 18446744073709551616) :
    Calls Try.prog 29 #[lv, .agg #[.int .i64 v.kind, .int .i64 v.num, .string v.str], .bool d] w (U64Res (befL d v l) w) := by
  obtain ⟨a, cap, rfl, hc1, hc2, hc3, hrow⟩ := hl
  obtain ⟨vk, vn, vs⟩ := v
  have HR := Lib.hid hrow
  have HB := Lib.hid hb
  clear hrow hc3 hb
  go_enter Try.func29, Try.ntmps29
  go_wp2_with fail
  have hb0 := Blk.new w [.int .i64 vk, .int .i64 vn, .string vs] 38
  have he0 := Ext.alloc w (.cells #[.int .i64 vk, .int .i64 vn, .string vs] 38)
  generalize w.alloc (.cells #[.int .i64 vk, .int .i64 vn, .string vs] 38) = w0 at hb0 he0 ⊢
  obtain ⟨x0, x1, x2⟩ := boxV hb0
  have HE0 := Lib.hid he0
  clear hb0 he0
  go_loopw [7, 8] (fun s i wr => ∃ k n : Nat, k ≤ l.length ∧ i = .int .i64 k ∧ s = .int .u64 n ∧ Hid (Ext w0 wr ∧ n = befL d ⟨vk, vn, vs⟩ (l.take k))) (fun _ i _ => l.length - (intOf i).toNat)
  case atStart => exact ⟨0, 0, Nat.zero_le _, rfl, rfl, Ext.refl _, rfl⟩
  case round =>
    obtain ⟨k, n, hk, rfl, rfl, HL⟩ := hrel
    have ewr := HL.out.1
    by_cases hkl : k < l.length
    · have hx : l[k]? = some l[k] := List.getElem?_eq_getElem hkl
      obtain ⟨b1, o1, rfl, y0, y1, y2, y3⟩ := row_item (HR.out.ext HE0.out) hx
      have htk : befL d ⟨vk, vn, vs⟩ (l.take (k + 1)) = n + (if tcmp d l[k].1 ⟨vk, vn, vs⟩ < 0 then l[k].2 else 0) := by
        rw [take_item l hx, befL_append, HL.out.2, befL, befL]
        split <;> simp_all [sumW]
      have hle : n ≤ sumW (l.take k) := by rw [HL.out.2]; exact befL_le _ _ _
      have hlt : n + l[k].2 < 18446744073709551616 := by
        have h1 := sumW_take_le l (k + 1)
        rw [take_item l hx, sumW_append] at h1
        have h2 : sumW [l[k]] = l[k].2 := by simp [sumW]
        have := HB.out
        omega
      generalize l[k] = x at *
      obtain ⟨⟨xk, xn, xs⟩, xw⟩ := x
      simp only at htk hlt
      have HD := Lib.hid htk
      have Ewr := Lib.hid ewr
      clear htk hx hle
      go_wp2_with fail
      refine wp_region_mixE 10 [(0, 3), (1, 3), (2, 3), (3, 3), (4, 0), (5, 0), (6, 3), (7, 1), (8, 3)] (by kernel_rfl) (fun _ _ d _ _ h => by cases d <;> exact h) ?_
      intro w1 hw1
      simp only [List.map_cons, List.map_nil, mixPick_lt _ _ 0 rfl, mixPick_lt _ _ 1 rfl, mixPick_lt _ _ 2 rfl, mixPick_lt _ _ 3 rfl, mixPick_fork, List.getD_cons_zero, List.getD_cons_succ]
      generalize yielded _ = y
      have Ew1 := Lib.hid (Ewr.out.trans hw1)
      have tew1 := fun W (h : Ext w1 W) => Ew1.out.trans h
      repeat (first | (refine mx_pu (v := ?_) rfl (fun W => ?_) ?_; rotate_left; (focus (go_simp <;> with_reducible rfl)); simp only [Act.put, List.setIfInBounds_toArray, List.set_cons_zero, List.set_cons_succ]) | (refine mx_st (v := ?_) rfl (fun W hW => ?_) ?_; rotate_left; (focus (go_simp <;> with_reducible rfl)); simp only [Act.put, List.setIfInBounds_toArray, List.set_cons_zero, List.set_cons_succ]))
      refine mx_call (f := ?_) (args := ?_) rfl ?_ ?_
      rotate_left 2
      focus (go_simp <;> (refine ⟨?_, ?_⟩ <;> with_reducible rfl))
      have hI := rcompare_c d ⟨xk, xn, xs⟩ ⟨vk, vn, vs⟩ w1
      with_reducible refine hI.mono ?_
      clear hI
      rintro e w2 ⟨rfl, hw2⟩
      refine ⟨_, rfl, hw2, ?_⟩
      simp only [Act.put, List.setIfInBounds_toArray, List.set_cons_zero, List.set_cons_succ]
      repeat (first | (refine mx_pu (v := ?_) rfl (fun W => ?_) ?_; rotate_left; (focus (go_simp <;> with_reducible rfl)); simp only [Act.put, List.setIfInBounds_toArray, List.set_cons_zero, List.set_cons_succ]) | (refine mx_st (v := ?_) rfl (fun W hW => ?_) ?_; rotate_left; (focus (go_simp <;> with_reducible rfl)); simp only [Act.put, List.setIfInBounds_toArray, List.set_cons_zero, List.set_cons_succ]))
      refine mx_nil ?_
      have ew2 := Ew1.out.trans hw2
      have HE2 := Lib.hid ew2
      clear tew1
      by_cases hc : tcmp d ⟨xk, xn, xs⟩ ⟨vk, vn, vs⟩ < 0
      · have hd := HD.out
        rw [if_pos hc] at hd
        have HD2 := Lib.hid hd
        clear hd HD
        have hcb : decide (tcmp d ⟨xk, xn, xs⟩ ⟨vk, vn, vs⟩ < 0) = true := by simpa using hc
        generalize tcmp d ⟨xk, xn, xs⟩ ⟨vk, vn, vs⟩ = c at *
        go_wp2_with fail
        go_roundw
        case rel => exact ⟨k + 1, n + xw, by omega, by go_num, by go_num, HE2.out, HD2.out.symm⟩
        case measure => simp [intOf]; omega
      · have hd := HD.out
        rw [if_neg hc] at hd
        have HD2 := Lib.hid hd
        clear hd HD
        have hcb : decide (tcmp d ⟨xk, xn, xs⟩ ⟨vk, vn, vs⟩ < 0) = false := by simpa using hc
        generalize tcmp d ⟨xk, xn, xs⟩ ⟨vk, vn, vs⟩ = c at *
        go_wp2_with fail
        go_roundw
        case rel => exact ⟨k + 1, n, by omega, by go_num, rfl, HE2.out, HD2.out.symm⟩
        case measure => simp [intOf]; omega
    · obtain rfl : k = l.length := by omega
      go_wp2_with fail
      go_ret
      refine ⟨?_, HE0.out.trans ewr⟩
      rw [HL.out.2, List.take_length]
      rfl
/-- The index and the beginning of the interval that holds K, or -1 and 0. -/
def findIx (K : Nat) : List (GV × Nat) → Nat → Nat → Int × Nat
  | [], _, _ => (-1, 0)
  | x :: r, k, σ => if K < σ + x.2 then ((k : Int), σ) else findIx K r (k + 1) (σ + x.2)
theorem findIx_find {K : Nat} : ∀ {l : List (GV × Nat)} {k σ : Nat}, (findL σ K l = none ∧ findIx K l k σ = (-1, 0)) ∨ ∃ i x n p, l[i]? = some (x, n) ∧ findL σ K l = some (x, p) ∧ findIx K l k σ = (((k + i : Nat) : Int), p) ∧ p + n ≤ σ + sumW l
  | [], k, σ => .inl ⟨rfl, rfl⟩
  | (x, n) :: r, k, σ => by
    by_cases h : K < σ + n
    · exact .inr ⟨0, x, n, σ, rfl, by rw [findL, if_pos h], by rw [findIx, if_pos h]; rfl, by rw [sumW_cons]; omega⟩
    · rcases findIx_find (K := K) (l := r) (k := k + 1) (σ := σ + n) with ⟨h1, h2⟩ | ⟨i, y, m, p, h1, h2, h3, h4⟩
      · exact .inl ⟨by rw [findL, if_neg h, h1], by rw [findIx, if_neg h, h2]⟩
      · refine .inr ⟨i + 1, y, m, p, by simpa using h1, by rw [findL, if_neg h, h2], ?_, by rw [sumW_cons]; omega⟩
        rw [findIx, if_neg h, h3]
        congr 1
        omega
def FixRes (r : Int × Nat) (w : World) (e : Ending) (w' : World) : Prop := e = .returned (.tuple #[.int .i64 r.1, .int .u64 (r.2 : Nat)]) ∧ Ext w w'
set_option maxHeartbeats 1000000 in
theorem rFind_c {w : World} (K : Nat) (hK : K < 18446744073709551616) {lv : Value} {l : List (GV × Nat)} (hl : ItemsV S w lv l) (hb : sumW l < 18446744073709551616) :
    Calls Try.prog 23 #[lv, .int .u64 (K : Nat)] w (FixRes (findIx K l 0 0) w) := by
  obtain ⟨a, cap, rfl, hc1, hc2, hc3, hrow⟩ := hl
  have HR := Lib.hid hrow
  have HB := Lib.hid hb
  clear hrow hc3 hb
  go_enter Try.func23, Try.ntmps23
  go_wp2_with fail
  go_loopw [6, 7] (fun s i wr => ∃ k n : Nat, k ≤ l.length ∧ i = .int .i64 k ∧ s = .int .u64 n ∧ Hid (Ext w wr ∧ n = sumW (l.take k) ∧ findIx K l 0 0 = findIx K (l.drop k) k n)) (fun _ i _ => l.length - (intOf i).toNat)
  case atStart => exact ⟨0, 0, Nat.zero_le _, rfl, rfl, Ext.refl _, rfl, rfl⟩
  case round =>
    obtain ⟨k, n, hk, rfl, rfl, HL⟩ := hrel
    have ewr := HL.out.1
    by_cases hkl : k < l.length
    · have hx : l[k]? = some l[k] := List.getElem?_eq_getElem hkl
      obtain ⟨b1, o1, rfl, y0, y1, y2, y3⟩ := row_item HR.out hx
      have htk : n + l[k].2 = sumW (l.take (k + 1)) := by rw [take_item l hx, sumW_append, HL.out.2.1]; simp [sumW]
      have hlt : n + l[k].2 < 18446744073709551616 := by have := sumW_take_le l (k + 1); have := HB.out; omega
      have hdr := drop_item l hx
      generalize l[k] = x at *
      obtain ⟨⟨xk, xn, xs⟩, xw⟩ := x
      simp only at htk hlt
      have HD := Lib.hid (And.intro htk hdr)
      clear htk hx hdr
      by_cases hc : K < n + xw
      · have hcb : decide ((K : Int) < (n : Int) + (xw : Int)) = true := by simp; omega
        go_wp2_with fail
        go_ret2
        refine ⟨?_, ewr⟩
        rw [HL.out.2.2, HD.out.2, findIx, if_pos hc]
        rfl
      · have hcb : decide ((K : Int) < (n : Int) + (xw : Int)) = false := by simp; omega
        go_wp2_with fail
        go_roundw
        case rel => exact ⟨k + 1, n + xw, by omega, by go_num, by go_num, HL.out.1, HD.out.1, by rw [HL.out.2.2, HD.out.2, findIx, if_neg hc]⟩
        case measure => simp [intOf]; omega
    · obtain rfl : k = l.length := by omega
      go_wp2_with fail
      go_ret2
      refine ⟨?_, ewr⟩
      rw [HL.out.2.2, List.drop_length]
      rfl
theorem minSz_ge : ∀ h, h ≤ minSz h
  | 0 => Nat.le_refl _
  | 1 => Nat.le_refl _
  | h + 2 => by have := minSz_ge (h + 1); simp only [minSz]; omega
theorem minSz_mono' {a b : Nat} (h : a ≤ b) : minSz a ≤ minSz b := by
  induction b with
  | zero => obtain rfl : a = 0 := by omega
            exact Nat.le_refl _
  | succ b ih =>
    rcases Nat.lt_or_ge a (b + 1) with k | k
    · exact Nat.le_trans (ih (by omega)) (minSz_mono b)
    · obtain rfl : a = b + 1 := by omega
      exact Nat.le_refl _
/-- A balanced tree is no higher than ref's Height says. -/
theorem height_le {t : T} (ha : Avl t) {H : Nat} (h : sz t < minSz (H + 1)) : ht t ≤ H := by
  rcases Nat.lt_or_ge H (ht t) with k | k
  · have := minSz_mono' (show H + 1 ≤ ht t by omega)
    have := minSz_le t ha
    omega
  · exact k
def HtRes (n : Nat) (w : World) (e : Ending) (w' : World) : Prop := ∃ H : Nat, e = .returned (.int .i64 (H : Nat)) ∧ n < minSz (H + 1) ∧ H ≤ n ∧ w = w'
set_option maxHeartbeats 1000000 in
theorem rHeight_c {w : World} (n : Nat) (hn : n ≤ 1000000000) : Calls Try.prog 33 #[.int .i64 (n : Nat)] w (HtRes n w) := by
  go_enter Try.func33, Try.ntmps33
  go_wp2_with fail
  go_loop [3, 4, 5] (fun hv av bv => ∃ h a b : Nat, h ≤ n ∧ hv = .int .i64 h ∧ av = .int .i64 a ∧ bv = .int .i64 b ∧ 1 ≤ b ∧ a ≤ b ∧ b ≤ 2 * n + 2 ∧ Hid (a = minSz h + 1 ∧ b = minSz (h + 1) + 1)) (fun hv _ _ => n + 1 - (intOf hv).toNat)
  case atStart => exact ⟨0, 1, 2, Nat.zero_le _, rfl, rfl, rfl, by omega, by omega, by omega, rfl, rfl⟩
  case round =>
    obtain ⟨h, a, b, hh, rfl, rfl, rfl, hb1, hab, hb2, HL⟩ := hrel
    have hge := minSz_ge (h + 1)
    have hbe := HL.out.2
    by_cases hc : b ≤ n + 1
    · have hcb : decide ((b : Int) - 1 ≤ (n : Int)) = true := by simp; omega
      have hh1 : h + 1 ≤ n := by omega
      clear hbe hge
      go_wp2_with fail
      go_round
      case rel => exact ⟨h + 1, b, a + b, hh1, by go_num, rfl, by go_num, by omega, by omega, by omega, HL.out.2, by rw [HL.out.1, HL.out.2]; simp only [minSz]; omega⟩
      case measure => simp [intOf]; omega
    · have hcb : decide ((b : Int) - 1 ≤ (n : Int)) = false := by simp; omega
      clear hbe hge
      go_wp2_with fail
      go_ret
      exact ⟨h, rfl, by have := HL.out.2; omega, hh, rfl⟩
end Go.Proofs.Ytbbnpicddmplbaa

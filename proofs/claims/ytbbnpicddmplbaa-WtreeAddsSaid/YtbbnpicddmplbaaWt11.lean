/- Package wtree: At, New. -/
import Derived.Test.YtbbnpicddmplbaaWt10
namespace Go.Proofs.Ytbbnpicddmplbaa
open Go.RowKit Go.Deep
set_option linter.unusedVariables false
set_option linter.unusedSimpArgs false
variable {S : Nat → Prop}


/-- What At's closure does. -/
def At1 (S : Nat → Prop) (i sl : Nat) (e : GV × Nat) (gi gv gw : Nat) (w : World) (x : Ending) (w' : World) : Prop :=
  ∃ c : Int, x = .returned (.int .i64 c) ∧ ExtBut (fun b => b = gi ∨ b = gv ∨ b = gw) w w' ∧ (i < sl → c = -1 ∧ Ext w w') ∧
    (sl < i → c = 1 ∧ Blk w' gi [.int .i64 ((i - (sl + 1) : Nat) : Int)] 3 ∧ ExtBut (fun b => b = gi) w w') ∧
    (i = sl → c = 0 ∧ ∃ wv, Blk w' gv [.int .i64 e.1.kind, .int .i64 e.1.num, .string e.1.str] 38 ∧ Blk w' gw [wv] 30 ∧ NatV S w' wv e.2)
set_option maxHeartbeats 4000000 in
set_option maxRecDepth 100000 in
theorem at1_c {w : World} (hS : Fresh S w) {gi gv gw b i : Nat} {wv : Value} {e : GV × Nat} {l r : T} {vk vn : Int} {vs : ByteArray} (ht : TreeV S w (some ⟨b, 0, none⟩) (.node b 0 e l r)) (hb : e.2 < bigN) (hs : sz l < 100000000000) (hi : i < 100000000000)
    (h1 : Blk w gi [.int .i64 (i : Int)] 3) (hv : Blk w gv [.int .i64 vk, .int .i64 vn, .string vs] 38) (hw : Blk w gw [wv] 30) (hn1 : gi ≠ gv) (hn2 : gi ≠ gw) (hn3 : gv ≠ gw) (hG : ∀ b, S b → ¬ (b = gi ∨ b = gv ∨ b = gw)) :
    Calls Try.prog 46 #[.pointer (some ⟨b, 0, none⟩), .pointer (some ⟨gi, 0, none⟩), .pointer (some ⟨gv, 0, none⟩), .pointer (some ⟨gw, 0, none⟩)] w (At1 S i (sz l) e gi gv gw w) := by
  have HT := Lib.hid ht
  obtain ⟨-, -, nw, tv, lp, rp', hnb, hnw, -, hl, -⟩ := ht.open
  obtain ⟨sa, sk, sc, rfl⟩ := slice_of_nat hnw
  obtain ⟨y0, y1, y2, y3, y4, -⟩ := nodeF hnb
  obtain ⟨z0, z1⟩ := one_cell h1
  obtain ⟨k0, k1⟩ := one_cell hw
  obtain ⟨x0, x1, x2⟩ := boxV hv
  have HL := Lib.hid hl
  have HB := Lib.hid (And.intro h1 (And.intro hv (And.intro hw (And.intro hG (And.intro hnw (And.intro hS hb))))))
  have fv0 := hv.freeF 0
  have fv1 := hv.freeF 1
  have fv2 := hv.freeF 2
  have Ew := Lib.hid (Ext.refl w)
  have ew := Ew.out
  clear ht hnb hnw h1 hv hw hG hS hb hl
  go_enter Try.func46, Try.ntmps46
  go_wp2_with fail
  with_reducible refine (sizeOf_c HL.out).mono ?_
  rintro e' w' ⟨rfl, rfl⟩
  rcases Nat.lt_trichotomy i (sz l) with h0 | h0 | h0
  · have hc : decide ((i : Int) < ((sz l : Nat) : Int)) = true := by simpa using h0
    go_wp2_with fail
    go_ret
    exact ⟨-1, rfl, ew.but _, fun _ => ⟨rfl, ew⟩, fun h => by omega, fun h => by omega⟩
  · have hc : decide ((i : Int) < ((sz l : Nat) : Int)) = false := by simp; omega
    have hc' : decide (((sz l : Nat) : Int) < (i : Int)) = false := by simp; omega
    go_wp2_with fail
    refine wp_region_mixE 14 [(0, 3), (1, 3), (2, 3), (3, 3), (4, 0), (5, 3), (6, 3), (7, 3), (8, 3), (9, 0), (10, 1), (11, 2), (12, 2)] (by kernel_rfl) (fun _ _ d _ _ h => by cases d <;> exact h) ?_
    intro w1 hw1
    simp only [List.map_cons, List.map_nil, mixPick_lt _ _ 0 rfl, mixPick_lt _ _ 1 rfl, mixPick_lt _ _ 2 rfl, mixPick_lt _ _ 3 rfl, mixPick_fork, List.getD_cons_zero, List.getD_cons_succ]
    generalize yielded _ = y
    have Ew1 := Lib.hid (Ew.out.trans hw1)
    have tew1 := fun W (h : Ext w1 W) => Ew1.out.trans h
    clear ew
    repeat (first | (refine mx_pu (v := ?_) rfl (fun W => ?_) ?_; rotate_left; (focus (go_simp <;> with_reducible rfl)); simp only [Act.put, List.setIfInBounds_toArray, List.set_cons_zero, List.set_cons_succ]) | (refine mx_st (v := ?_) rfl (fun W hW => ?_) ?_; rotate_left; (focus (go_simp <;> with_reducible rfl)); simp only [Act.put, List.setIfInBounds_toArray, List.set_cons_zero, List.set_cons_succ]))
    refine mx_call (f := ?_) (args := ?_) rfl ?_ ?_
    rotate_left 2
    focus (go_simp <;> (refine ⟨?_, ?_⟩ <;> with_reducible rfl))
    obtain ⟨ld, hd, nl, el⟩ := HB.out.2.2.2.2.1
    have hI := norm_nat (HB.out.2.2.2.2.2.1.ext Ew1.out) (hd.ext Ew1.out) (by have := bigK_le (nl.length_of_lt (by rw [el]; exact HB.out.2.2.2.2.2.2)); omega)
    with_reducible refine hI.mono ?_
    clear hI
    rintro e' w2 ⟨nv, rfl, hw2, hnv⟩
    rw [el] at hnv
    clear hd nl el
    refine ⟨_, rfl, hw2, ?_⟩
    obtain ⟨na, nk, nc, rfl⟩ := slice_of_nat hnv
    have HN := Lib.hid hnv
    simp only [Act.put, List.setIfInBounds_toArray, List.set_cons_zero, List.set_cons_succ]
    have Ew2 := Lib.hid (Ew1.out.trans hw2)
    have tew2 := fun W (h : Ext w2 W) => Ew2.out.trans h
    clear tew1 hnv
    have ew2 := Ew2.out
    repeat (first | (refine mx_pu (v := ?_) rfl (fun W => ?_) ?_; rotate_left; (focus (go_simp <;> with_reducible rfl)); simp only [Act.put, List.setIfInBounds_toArray, List.set_cons_zero, List.set_cons_succ]) | (refine mx_st (v := ?_) rfl (fun W hW => ?_) ?_; rotate_left; (focus (go_simp <;> with_reducible rfl)); simp only [Act.put, List.setIfInBounds_toArray, List.set_cons_zero, List.set_cons_succ]))
    refine mx_ts (w' := ?_) rfl ?_ ?_
    rotate_left
    focus (go_simp <;> with_reducible rfl)
    have b3 := (HB.out.2.1.ext ew2).set3 (a := .int .i64 e.1.kind) (b := .int .i64 e.1.num) (c := .string e.1.str)
    have h3x := ExtBut.set3 (G := fun b => b = gv) w2 gv (.int .i64 e.1.kind) (.int .i64 e.1.num) (.string e.1.str) rfl
    have s3 := (HB.out.2.2.1.ext ew2).but (fun x => hn3 x.symm) h3x
    generalize ((World.setCell w2 ⟨gv, 0, none⟩ (.int .i64 e.1.kind)).setCell ⟨gv, 1, none⟩ (.int .i64 e.1.num)).setCell ⟨gv, 2, none⟩ (.string e.1.str) = w3 at b3 h3x s3 ⊢
    have H3 := Lib.hid (And.intro b3 (And.intro h3x s3))
    obtain ⟨k2, k3⟩ := one_cell s3
    have er3 := Ext.refl w3
    clear b3 h3x s3
    simp only [Act.put, List.setIfInBounds_toArray, List.set_cons_zero, List.set_cons_succ]
    refine mx_box (v := ?_) (H3.out.2.2) rfl ?_ ?_
    rotate_left
    focus (go_simp <;> with_reducible rfl)
    intro w4 hb4 hx4
    simp only [Act.put, List.setIfInBounds_toArray, List.set_cons_zero, List.set_cons_succ]
    refine mx_nil ?_
    have H4 := Lib.hid (And.intro hb4 hx4)
    clear hb4 hx4 k2 k3 er3
    go_wp2_with fail
    go_ret
    have hx : ExtBut (fun b => b = gi ∨ b = gv ∨ b = gw) w2 w4 := (H3.out.2.1.mono (fun b h => .inr (.inl h))).trans (H4.out.2.mono (fun b h => .inr (.inr h)))
    exact ⟨0, rfl, (ew2.but _).trans hx, fun h => by omega, fun h => by omega, fun _ => ⟨rfl, _, H3.out.1.but hn3 H4.out.2, H4.out.1, HN.out.but HB.out.2.2.2.1 hx⟩⟩
  · have hc : decide ((i : Int) < ((sz l : Nat) : Int)) = false := by simp; omega
    have hc' : decide (((sz l : Nat) : Int) < (i : Int)) = true := by simpa using h0
    go_wp2_with fail
    go_ret
    have hx : ExtBut (fun b => b = gi) w (w.setCell ⟨gi, 0, none⟩ (.int .i64 ((i : Int) - ((sz l : Int) + 1)))) := ExtBut.set gi 0 _ rfl
    refine ⟨1, rfl, hx.mono (fun b h => .inl h), fun h => by omega, fun _ => ⟨rfl, ?_, hx⟩, fun h => by omega⟩
    have he : (((i - (sz l + 1) : Nat)) : Int) = (i : Int) - ((sz l : Int) + 1) := by omega
    rw [he]
    exact HB.out.1.set1

def AtI (S : Nat → Prop) (F0 : Option (GV × Nat)) (gi gv gw : Nat) (u : T) (_ : Nat) (w : World) : Prop :=
  ∃ (i : Nat) (wv : Value) (vk vn : Int) (vs : ByteArray), Fresh S w ∧ tot u < bigN ∧ sz u < 100000000000 ∧ i < sz u ∧ (lst u)[i]? = F0 ∧ Blk w gi [.int .i64 (i : Int)] 3 ∧ Blk w gv [.int .i64 vk, .int .i64 vn, .string vs] 38 ∧ Blk w gw [wv] 30
def AtD (S : Nat → Prop) (F0 : Option (GV × Nat)) (gv gw : Nat) (_ : Nat) (w : World) : Prop :=
  ∃ wv x p, F0 = some (x, p) ∧ Blk w gv [.int .i64 x.kind, .int .i64 x.num, .string x.str] 38 ∧ Blk w gw [wv] 30 ∧ NatV S w wv p
theorem at_chooses {F0 : Option (GV × Nat)} {gi gv gw : Nat} (hn1 : gi ≠ gv) (hn2 : gi ≠ gw) (hn3 : gv ≠ gw) (hG : ∀ b, S b → ¬ (b = gi ∨ b = gv ∨ b = gw)) :
    Chooses S (fun b => b = gi ∨ b = gv ∨ b = gw) (AtI S F0 gi gv gw) (AtD S F0 gv gw) 46 #[.pointer (some ⟨gi, 0, none⟩), .pointer (some ⟨gv, 0, none⟩), .pointer (some ⟨gw, 0, none⟩)] where
  apart := hG
  keeps := by
    rintro t n w w' ⟨i, wv, vk, vn, vs, k1, k2, k3, k4, k5, k6, k7, k8⟩ e
    exact ⟨i, wv, vk, vn, vs, k1.ext e, k2, k3, k4, k5, k6.ext e, k7.ext e, k8.ext e⟩
  ends := by
    rintro n w ⟨i, wv, vk, vn, vs, k1, k2, k3, k4, k5, k6, k7, k8⟩
    simp only [sz] at k4
    omega
  runs := fun args w => by kernel_rfl
  step := by
    intro b e l r n w ht hi
    obtain ⟨i, wv, vk, vn, vs, k1, k2, k3, k4, k5, k6, k7, k8⟩ := hi
    simp only [tot] at k2
    simp only [sz] at k3 k4
    have hI := at1_c k1 ht (by omega) (by omega) (i := i) (by omega) k6 k7 k8 hn1 hn2 hn3 hG
    rw [List.append_toArray]
    refine Calls.mono hI ?_
    simp only [lst] at k5
    rintro x w' ⟨c, rfl, hx, m1, m2, m3⟩
    have hll : (lst l).length = sz l := by rw [sz_lst]
    rcases Nat.lt_trichotomy i (sz l) with h | h | h
    · obtain ⟨rfl, ex⟩ := m1 h
      refine ⟨_, rfl, hx, fun hc => ?_, fun hc => absurd hc (by omega), fun hc => absurd hc (by omega)⟩
      rw [List.getElem?_append_left (by omega)] at k5
      exact ⟨i, wv, vk, vn, vs, k1.ext ex, by omega, by omega, h, k5, k6.ext ex, k7.ext ex, k8.ext ex⟩
    · obtain ⟨rfl, wv', p1, p2, p3⟩ := m3 h
      refine ⟨_, rfl, hx, fun hc => absurd hc (by omega), fun hc => absurd hc (by omega), fun hc => ?_⟩
      rw [List.getElem?_append_right (by omega), hll, h, Nat.sub_self, List.getElem?_cons_zero] at k5
      exact ⟨wv', e.1, e.2, k5.symm, p1, p2, p3⟩
    · obtain ⟨rfl, p1, p2⟩ := m2 h
      refine ⟨_, rfl, hx, fun hc => absurd hc (by omega), fun hc => ?_, fun hc => absurd hc (by omega)⟩
      rw [List.getElem?_append_right (by omega), hll, show i - sz l = (i - (sz l + 1)) + 1 by omega, List.getElem?_cons_succ] at k5
      exact ⟨_, wv, vk, vn, vs, k1.le hx.1, by omega, by omega, by omega, k5, p1, k7.but (fun h => hn1 h.symm) p2, k8.but (fun h => hn2 h.symm) p2⟩
/-- At's three results. -/
def AtRes (S : Nat → Prop) (F0 : Option (GV × Nat)) (w : World) (e : Ending) (w' : World) : Prop :=
  Ext w w' ∧ ((F0 = none ∧ e = .returned (.tuple #[.agg #[.int .i64 0, .int .i64 0, .string ⟨#[]⟩], .slice none 0 0, .bool false])) ∨
    ∃ x p sv, F0 = some (x, p) ∧ e = .returned (.tuple #[.agg #[.int .i64 x.kind, .int .i64 x.num, .string x.str], sv, .bool true]) ∧ NatV S w' sv p)
def atL (i : Int) (l : List (GV × Nat)) : Option (GV × Nat) := if i < 0 then none else l[i.toNat]?
set_option maxHeartbeats 4000000 in
set_option maxRecDepth 100000 in
/-- At -/
theorem At_c {w : World} (hS : Fresh S w) (d : Bool) (rp : Option Addr) (i : Int) {t : T} (ht0 : TreeV S w rp t) (hs : sz t < 100000000000) (hb : tot t < bigN) :
    Calls Try.prog 20 #[.agg #[.bool d, .pointer rp], .int .i64 i] w (AtRes S (atL i (lst t)) w) := by
  have HT := Lib.hid (And.intro ht0 (And.intro hb hS))
  clear ht0 hb hS
  go_enter Try.func20, Try.ntmps20
  go_wp2_with fail
  generalize hW0 : ((w.alloc (.cells #[.bool d, .pointer rp] 27)).alloc (.cells #[.int .i64 i] 3)).alloc (.cells #[.int .i64 0, .int .i64 0, .string ⟨#[]⟩] 38) = w0
  obtain ⟨he0, hb1, hb2, hb3⟩ := box3 w [.bool d, .pointer rp] [.int .i64 i] [.int .i64 0, .int .i64 0, .string ⟨#[]⟩] _ _ _ w0 hW0
  clear hW0
  have hlt := hb3.lt
  obtain ⟨q0, q1⟩ := boxT hb1
  obtain ⟨k0, k1⟩ := one_cell hb2
  obtain ⟨x0, x1, x2⟩ := boxV hb3
  have fv0 := hb3.freeF 0
  have fv1 := hb3.freeF 1
  have fv2 := hb3.freeF 2
  have HB := Lib.hid (And.intro hb1 (And.intro hb2 hb3))
  clear hb1 hb2 hb3
  have Ew0 := Lib.hid (Ext.refl w0)
  have He0 := Lib.hid he0
  clear he0
  by_cases hi : i < 0
  · have hbi : decide (i < 0) = true := by simpa using hi
    refine wp_region_mixE 9 [(0, 0), (1, 3), (2, 3), (3, 0), (4, 0), (5, 1), (6, 3), (7, 3)] (by kernel_rfl) (fun _ _ d _ _ h => by cases d <;> exact h) ?_
    intro w1 hw1
    simp only [List.map_cons, List.map_nil, mixPick_lt _ _ 0 rfl, mixPick_lt _ _ 1 rfl, mixPick_lt _ _ 2 rfl, mixPick_lt _ _ 3 rfl, mixPick_fork, List.getD_cons_zero, List.getD_cons_succ]
    have Ew1 := Lib.hid (Ew0.out.trans hw1)
    have tew1 := fun W (h : Ext w1 W) => Ew1.out.trans h
    repeat (first | (refine mx_pu (v := ?_) rfl (fun W => ?_) ?_; rotate_left; (focus (go_simp <;> with_reducible rfl)); simp only [Act.put, List.setIfInBounds_toArray, List.set_cons_zero, List.set_cons_succ]) | (refine mx_no3 rfl ?_; simp only [Act.put, List.setIfInBounds_toArray, List.set_cons_zero, List.set_cons_succ]) | (refine mx_st (v := ?_) rfl (fun W hW => ?_) ?_; rotate_left; (focus (go_simp <;> with_reducible rfl)); simp only [Act.put, List.setIfInBounds_toArray, List.set_cons_zero, List.set_cons_succ]) | (refine mx_no0 rfl ?_; simp only [Act.put, List.setIfInBounds_toArray, List.set_cons_zero, List.set_cons_succ]) | (refine mx_no1 Ext.grows rfl ?_; simp only [Act.put, List.setIfInBounds_toArray, List.set_cons_zero, List.set_cons_succ]))
    refine mx_nil ?_
    have ew2 := Ew1.out
    go_wp2_with fail
    have hbt := ExtBut.set3 (G := fun b => b = w.heap.size + 1 + 1) w1 (w.heap.size + 1 + 1) (.int .i64 0) (.int .i64 0) (.string ⟨#[]⟩) rfl
    have hk := ((HB.out.2.2.ext ew2)).set3 (a := .int .i64 0) (b := .int .i64 0) (c := .string ⟨#[]⟩)
    have hx := (He0.out.trans ew2).set3 (g := w.heap.size + 1 + 1) (by omega) (.int .i64 0) (.int .i64 0) (.string ⟨#[]⟩)
    generalize ((World.setCell w1 ⟨w.heap.size + 1 + 1, 0, none⟩ (.int .i64 0)).setCell ⟨w.heap.size + 1 + 1, 1, none⟩ (.int .i64 0)).setCell ⟨w.heap.size + 1 + 1, 2, none⟩ (.string ⟨#[]⟩) = w9 at hk hx hbt ⊢
    have c0 := hk.cell 0
    have c1 := hk.cell 1
    have c2 := hk.cell 2
    clear hk
    refine bodyPost_ret (v := .tuple #[.agg #[.int .i64 0, .int .i64 0, .string ⟨#[]⟩], .slice none 0 0, .bool false]) (by simp [results, Try.results20, go_sem, c0, c1, c2]) rfl ?_
    exact ⟨hx, .inl ⟨by simp [atL, hi], rfl⟩⟩
  · have hbi : decide (i < 0) = false := by simpa using hi
    refine wp_region_mixE 9 [(0, 0), (1, 3), (2, 3), (3, 0), (4, 0), (5, 1), (6, 3), (7, 3)] (by kernel_rfl) (fun _ _ d _ _ h => by cases d <;> exact h) ?_
    intro w1 hw1
    simp only [List.map_cons, List.map_nil, mixPick_lt _ _ 0 rfl, mixPick_lt _ _ 1 rfl, mixPick_lt _ _ 2 rfl, mixPick_lt _ _ 3 rfl, mixPick_fork, List.getD_cons_zero, List.getD_cons_succ]
    have Ew1 := Lib.hid (Ew0.out.trans hw1)
    have tew1 := fun W (h : Ext w1 W) => Ew1.out.trans h
    repeat (first | (refine mx_pu (v := ?_) rfl (fun W => ?_) ?_; rotate_left; (focus (go_simp <;> with_reducible rfl)); simp only [Act.put, List.setIfInBounds_toArray, List.set_cons_zero, List.set_cons_succ]) | (refine mx_no3 rfl ?_; simp only [Act.put, List.setIfInBounds_toArray, List.set_cons_zero, List.set_cons_succ]) | (refine mx_st (v := ?_) rfl (fun W hW => ?_) ?_; rotate_left; (focus (go_simp <;> with_reducible rfl)); simp only [Act.put, List.setIfInBounds_toArray, List.set_cons_zero, List.set_cons_succ]) | (refine mx_no0 rfl ?_; simp only [Act.put, List.setIfInBounds_toArray, List.set_cons_zero, List.set_cons_succ]) | (refine mx_no1 Ext.grows rfl ?_; simp only [Act.put, List.setIfInBounds_toArray, List.set_cons_zero, List.set_cons_succ]))
    refine mx_call (f := ?_) (args := ?_) rfl ?_ ?_
    rotate_left 2
    focus (go_simp <;> (refine ⟨?_, ?_⟩ <;> with_reducible rfl))
    with_reducible refine (Len_c (HT.out.1.ext (He0.out.trans Ew1.out))).mono ?_
    rintro e' w2 ⟨rfl, hw2⟩
    refine ⟨_, rfl, hw2, ?_⟩
    simp only [Act.put, List.setIfInBounds_toArray, List.set_cons_zero, List.set_cons_succ]
    have Ew2 := Lib.hid (Ew1.out.trans hw2)
    have tew2 := fun W (h : Ext w2 W) => Ew2.out.trans h
    clear tew1
    repeat (first | (refine mx_pu (v := ?_) rfl (fun W => ?_) ?_; rotate_left; (focus (go_simp <;> with_reducible rfl)); simp only [Act.put, List.setIfInBounds_toArray, List.set_cons_zero, List.set_cons_succ]) | (refine mx_no3 rfl ?_; simp only [Act.put, List.setIfInBounds_toArray, List.set_cons_zero, List.set_cons_succ]) | (refine mx_st (v := ?_) rfl (fun W hW => ?_) ?_; rotate_left; (focus (go_simp <;> with_reducible rfl)); simp only [Act.put, List.setIfInBounds_toArray, List.set_cons_zero, List.set_cons_succ]) | (refine mx_no0 rfl ?_; simp only [Act.put, List.setIfInBounds_toArray, List.set_cons_zero, List.set_cons_succ]) | (refine mx_no1 Ext.grows rfl ?_; simp only [Act.put, List.setIfInBounds_toArray, List.set_cons_zero, List.set_cons_succ]))
    refine mx_nil ?_
    have ew2 := Ew2.out
    by_cases hj : (sz t : Int) ≤ i
    · have hbj : decide (((sz t : Nat) : Int) ≤ i) = true := by simpa using hj
      go_wp2_with fail
      have hbt := ExtBut.set3 (G := fun b => b = w.heap.size + 1 + 1) w2 (w.heap.size + 1 + 1) (.int .i64 0) (.int .i64 0) (.string ⟨#[]⟩) rfl
      have hk := ((HB.out.2.2.ext ew2)).set3 (a := .int .i64 0) (b := .int .i64 0) (c := .string ⟨#[]⟩)
      have hx := (He0.out.trans ew2).set3 (g := w.heap.size + 1 + 1) (by omega) (.int .i64 0) (.int .i64 0) (.string ⟨#[]⟩)
      generalize ((World.setCell w2 ⟨w.heap.size + 1 + 1, 0, none⟩ (.int .i64 0)).setCell ⟨w.heap.size + 1 + 1, 1, none⟩ (.int .i64 0)).setCell ⟨w.heap.size + 1 + 1, 2, none⟩ (.string ⟨#[]⟩) = w9 at hk hx hbt ⊢
      have c0 := hk.cell 0
      have c1 := hk.cell 1
      have c2 := hk.cell 2
      clear hk
      refine bodyPost_ret (v := .tuple #[.agg #[.int .i64 0, .int .i64 0, .string ⟨#[]⟩], .slice none 0 0, .bool false]) (by simp [results, Try.results20, go_sem, c0, c1, c2]) rfl ?_
      refine ⟨hx, .inl ⟨?_, rfl⟩⟩
      rw [atL, if_neg (by omega), List.getElem?_eq_none]
      rw [sz_lst]
      omega
    · have hbj : decide (((sz t : Nat) : Int) ≤ i) = false := by simpa using hj
      have ea : Ext w0 ((w2.alloc (.cells #[.int .i64 0, .int .i64 0, .string ⟨#[]⟩] 38)).alloc (.cells #[.slice none 0 0] 30)) := ew2.trans ((Ext.alloc w2 _).trans (Ext.alloc _ _))
      go_wp2_with fail
      clear ea
      obtain ⟨m, hm⟩ : ∃ m : Nat, i = (m : Int) := ⟨i.toNat, by omega⟩
      subst hm
      have hat : atL (m : Int) (lst t) = (lst t)[m]? := by rw [atL, if_neg (by omega)]; rfl
      rw [hat]
      clear hat
      generalize hW3 : (w2.alloc (.cells #[.int .i64 0, .int .i64 0, .string ⟨#[]⟩] 38)).alloc (.cells #[.slice none 0 0] 30) = w3
      obtain ⟨he3, hb4, hb5⟩ := box2 w2 [.int .i64 0, .int .i64 0, .string ⟨#[]⟩] [.slice none 0 0] _ _ w3 hW3
      clear hW3
      have hl3 : w.heap.size + 1 + 1 < w2.heap.size := (HB.out.2.2.ext ew2).lt
      have hl4 : w2.heap.size + 1 < w3.heap.size := hb5.lt
      have e03 := (He0.out.trans ew2).trans he3
      have hI := walk_c (at_chooses (S := fun b => S b ∧ ¬ (b = w.heap.size + 1 ∨ b = w2.heap.size ∨ b = w2.heap.size + 1 ∨ b = w.heap.size + 1 + 1)) (F0 := (lst t)[m]?) (gi := w.heap.size + 1) (gv := w2.heap.size) (gw := w2.heap.size + 1) (by omega) (by omega) (by omega) (fun b h => by have := h.2; omega)) (d := d) (w := w3) ((HT.out.1.old.mono (fun b h => ⟨h.1, by have := h.2; omega⟩)).ext e03) hs ⟨m, .slice none 0 0, 0, 0, ⟨#[]⟩, fun b hb => ⟨HT.out.2.2.ext e03 b hb, by omega⟩, HT.out.2.1, hs, by omega, rfl, (HB.out.2.1.ext ew2).ext he3, hb4, hb5⟩
      with_reducible refine hI.mono ?_
      clear hI
      rintro e w4 ⟨n, rfl, ⟨sv, x, p, p0, p3, p1, p2⟩, hx, hn⟩
      have hX : Ext w w4 := hx.ext e03 (by omega)
      have b4 := ((HB.out.2.2.ext ew2).ext he3).but (by omega) hx
      obtain ⟨na, nk, nc, rfl⟩ := slice_of_nat p2
      have HN := Lib.hid (And.intro p0 (And.intro p1 (And.intro p2 (And.intro p3 (And.intro b4 hX)))))
      clear hb4 hb5 hx e03 p0 p1 p2 p3 b4 hX ew2 tew2 Ew1 hw1 Ew2 hw2 he3 q0 q1 k0 k1 x0 x1 x2 fv0 fv1 fv2
      go_wp2_with fail
      refine wp_region_mixB (fun b => b = w.heap.size + 1 + 1) 6 [(0, 0), (1, 0), (2, 1), (3, 3), (4, 3)] (by kernel_rfl) (fun _ _ d _ _ h => by cases d <;> exact h) ?_
      intro w5 hw5
      simp only [List.map_cons, List.map_nil, mixPick_lt _ _ 0 rfl, mixPick_lt _ _ 1 rfl, mixPick_lt _ _ 2 rfl, mixPick_lt _ _ 3 rfl, mixPick_fork, List.getD_cons_zero, List.getD_cons_succ]
      generalize yielded _ = y
      have c0 : ∀ W, ExtBut (fun b => b = w.heap.size + 1 + 1) w5 W → W.cell? ⟨w2.heap.size, 0, none⟩ = some (.int .i64 x.kind) := fun W h => ((HN.out.2.2.2.1.ext hw5).but (by omega) h).cell 0
      have c1 : ∀ W, ExtBut (fun b => b = w.heap.size + 1 + 1) w5 W → W.cell? ⟨w2.heap.size, 1, none⟩ = some (.int .i64 x.num) := fun W h => ((HN.out.2.2.2.1.ext hw5).but (by omega) h).cell 1
      have c2 : ∀ W, ExtBut (fun b => b = w.heap.size + 1 + 1) w5 W → W.cell? ⟨w2.heap.size, 2, none⟩ = some (.string x.str) := fun W h => ((HN.out.2.2.2.1.ext hw5).but (by omega) h).cell 2
      have c3 : ∀ W, ExtBut (fun b => b = w.heap.size + 1 + 1) w5 W → W.cell? ⟨w2.heap.size + 1, 0, none⟩ = some (.slice na nk nc) := fun W h => ((HN.out.2.1.ext hw5).but (by omega) h).cell 0
      repeat (first | (refine mx_pu (v := ?_) rfl (fun W => ?_) ?_; rotate_left; (focus (go_simp <;> with_reducible rfl)); simp only [Act.put, List.setIfInBounds_toArray, List.set_cons_zero, List.set_cons_succ]) | (refine mx_st (v := ?_) rfl (fun W hW => ?_) ?_; rotate_left; (focus (go_simp <;> with_reducible rfl)); simp only [Act.put, List.setIfInBounds_toArray, List.set_cons_zero, List.set_cons_succ]))
      clear c0 c1 c2 c3
      obtain ⟨x0, x1, x2⟩ := boxV (HN.out.2.2.2.2.1.ext hw5)
      have fv0 := (HN.out.2.2.2.2.1.ext hw5).freeF 0
      have fv1 := (HN.out.2.2.2.2.1.ext hw5).freeF 1
      have fv2 := (HN.out.2.2.2.2.1.ext hw5).freeF 2
      have er5 := Ext.refl w5
      refine mx_es (w' := ?_) rfl ?_ ?_ ?_
      rotate_left
      focus (go_simp <;> with_reducible rfl)
      · exact ExtBut.set3 w5 _ _ _ _ rfl
      simp only [Act.put, List.setIfInBounds_toArray, List.set_cons_zero, List.set_cons_succ]
      repeat (first | (refine mx_pu (v := ?_) rfl (fun W => ?_) ?_; rotate_left; (focus (go_simp <;> with_reducible rfl)); simp only [Act.put, List.setIfInBounds_toArray, List.set_cons_zero, List.set_cons_succ]) | (refine mx_st (v := ?_) rfl (fun W hW => ?_) ?_; rotate_left; (focus (go_simp <;> with_reducible rfl)); simp only [Act.put, List.setIfInBounds_toArray, List.set_cons_zero, List.set_cons_succ]))
      refine mx_nil ?_
      have e5 := HN.out.2.2.2.2.2.trans hw5
      go_wp2_with fail
      have hbt := ExtBut.set3 (G := fun b => b = w.heap.size + 1 + 1) w5 (w.heap.size + 1 + 1) (.int .i64 x.kind) (.int .i64 x.num) (.string x.str) rfl
      have hk := ((HN.out.2.2.2.2.1.ext hw5)).set3 (a := .int .i64 x.kind) (b := .int .i64 x.num) (c := .string x.str)
      have hx := (e5).set3 (g := w.heap.size + 1 + 1) (by omega) (.int .i64 x.kind) (.int .i64 x.num) (.string x.str)
      generalize ((World.setCell w5 ⟨w.heap.size + 1 + 1, 0, none⟩ (.int .i64 x.kind)).setCell ⟨w.heap.size + 1 + 1, 1, none⟩ (.int .i64 x.num)).setCell ⟨w.heap.size + 1 + 1, 2, none⟩ (.string x.str) = w9 at hk hx hbt ⊢
      have c0 := hk.cell 0
      have c1 := hk.cell 1
      have c2 := hk.cell 2
      clear hk
      refine bodyPost_ret (v := .tuple #[.agg #[.int .i64 x.kind, .int .i64 x.num, .string x.str], .slice na nk nc, .bool true]) (by simp [results, Try.results20, go_sem, c0, c1, c2]) rfl ?_
      exact ⟨hx, .inr ⟨x, p, _, HN.out.1, rfl, (((HN.out.2.2.1.ext hw5).but (fun b h => by have := h.2; omega) hbt).mono (fun b h => h.1))⟩⟩
end Go.Proofs.Ytbbnpicddmplbaa

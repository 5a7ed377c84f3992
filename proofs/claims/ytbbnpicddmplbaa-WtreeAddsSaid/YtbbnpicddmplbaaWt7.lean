/- Package wtree: Get. -/
import Derived.Test.YtbbnpicddmplbaaWt6
namespace Go.Proofs.Ytbbnpicddmplbaa
open Go.RowKit Go.Deep
set_option linter.unusedVariables false
set_option linter.unusedSimpArgs false
variable {S : Nat → Prop}


/-- The weight of a value in a list. -/
def lookL (d : Bool) (v : GV) : List (GV × Nat) → Option Nat
  | [] => none
  | x :: r => if tcmp d v x.1 = 0 then some x.2 else lookL d v r
theorem lookL_none {d : Bool} {v : GV} : ∀ {l : List (GV × Nat)}, (∀ x ∈ l, tcmp d v x.1 ≠ 0) → lookL d v l = none
  | [], _ => rfl
  | x :: r, h => by rw [lookL, if_neg (h x (List.mem_cons_self ..)), lookL_none (fun y hy => h y (List.mem_cons_of_mem _ hy))]
theorem lookL_append {d : Bool} {v : GV} : ∀ {L R : List (GV × Nat)}, (∀ x ∈ L, tcmp d v x.1 ≠ 0) → lookL d v (L ++ R) = lookL d v R
  | [], _, _ => rfl
  | x :: L, R, h => by rw [List.cons_append, lookL, if_neg (h x (List.mem_cons_self ..)), lookL_append (fun y hy => h y (List.mem_cons_of_mem _ hy))]
theorem lookL_left {d : Bool} {v : GV} : ∀ {L R : List (GV × Nat)}, (∀ x ∈ R, tcmp d v x.1 ≠ 0) → lookL d v (L ++ R) = lookL d v L
  | [], R, h => by rw [List.nil_append, lookL_none h]; rfl
  | x :: L, R, h => by rw [List.cons_append, lookL, lookL, lookL_left h]
theorem tcmp_one {d : Bool} {a b : GV} : tcmp d a b = 1 ↔ tcmp d b a = -1 := by rw [tcmp_swap d b a]; omega
theorem look_lt {d : Bool} {v : GV} {L R : List (GV × Nat)} {x : GV × Nat} (hs : Sorted d (L ++ x :: R)) (h : tcmp d v x.1 < 0) : lookL d v (L ++ x :: R) = lookL d v L := by
  have h1 : tcmp d v x.1 = -1 := by rcases tcmp_range d v x.1 with k | k | k <;> omega
  refine lookL_left fun y hy => ?_
  rcases List.mem_cons.1 hy with rfl | hy
  · omega
  · have := tcmp_trans h1 (sorted_right hs y hy); omega
theorem look_gt {d : Bool} {v : GV} {L R : List (GV × Nat)} {x : GV × Nat} (hs : Sorted d (L ++ x :: R)) (h : 0 < tcmp d v x.1) : lookL d v (L ++ x :: R) = lookL d v R := by
  have h1 : tcmp d x.1 v = -1 := tcmp_one.1 (by rcases tcmp_range d v x.1 with k | k | k <;> omega)
  rw [lookL_append fun y hy => ?_, lookL, if_neg (by omega)]
  have := tcmp_trans (sorted_left hs y hy) h1
  rw [tcmp_swap, this]; decide
theorem look_eq {d : Bool} {v : GV} {L R : List (GV × Nat)} {x : GV × Nat} (hs : Sorted d (L ++ x :: R)) (h : tcmp d v x.1 = 0) : lookL d v (L ++ x :: R) = some x.2 := by
  have hx := tcmp_eq h
  rw [lookL_append fun y hy => ?_, lookL, if_pos h]
  have := sorted_left hs y hy
  rw [tcmp_swap, hx, this]; decide

theorem one_cell {w : World} {g : Nat} {v : Value} {t : TypeId} (h : Blk w g [v] t) : (∀ W, Ext w W → W.cell? ⟨g, 0, none⟩ = some v) ∧ (∀ W, Ext w W → W.frozen? ⟨g, 0, none⟩ = false) :=
  ⟨fun W e => (h.ext e).cell 0, fun W e => (h.ext e).free 0⟩
theorem Blk.set1 {w : World} {g : Nat} {x a : Value} {t : TypeId} (h : Blk w g [x] t) : Blk (w.setCell ⟨g, 0, none⟩ a) g [a] t := by simpa using h.set 0 a
theorem Blk.other {w : World} {g b : Nat} {cs : List Value} {t : TypeId} (h : Blk w b cs t) (hg : b ≠ g) (i : Nat) (a : Value) : Blk (w.setCell ⟨g, i, none⟩ a) b cs t := h.but (G := fun x => x = g) hg (ExtBut.set g i a rfl)
/-- What Get's closure does. -/
def Get1 (S : Nat → Prop) (c : Int) (n gw gf : Nat) (w : World) (x : Ending) (w' : World) : Prop :=
  x = .returned (.int .i64 c) ∧ ExtBut (fun b => b = gw ∨ b = gf) w w' ∧ (c ≠ 0 → Ext w w') ∧ (c = 0 → ∃ wv, Blk w' gw [wv] 30 ∧ Blk w' gf [.bool true] 4 ∧ NatV S w' wv n)
set_option maxHeartbeats 2000000 in
set_option maxRecDepth 100000 in
theorem get1_c {w : World} (hS : Fresh S w) (d : Bool) (rp : Option Addr) (v : GV) {g2 g3 gw gf b : Nat} {e : GV × Nat} {l r : T} (ht : TreeV S w (some ⟨b, 0, none⟩) (.node b 0 e l r)) (hb : e.2 < bigN)
    (h2 : Blk w g2 [.bool d, .pointer rp] 27) (h3 : Blk w g3 [.int .i64 v.kind, .int .i64 v.num, .string v.str] 38) (hw : Blk w gw [.slice none 0 0] 30) (hf : Blk w gf [.bool false] 4) (hne : gw ≠ gf) (hG : ∀ b, S b → ¬ (b = gw ∨ b = gf)) :
    Calls Try.prog 51 #[.pointer (some ⟨b, 0, none⟩), .pointer (some ⟨g2, 0, none⟩), .pointer (some ⟨g3, 0, none⟩), .pointer (some ⟨gw, 0, none⟩), .pointer (some ⟨gf, 0, none⟩)] w (Get1 S (tcmp d v e.1) e.2 gw gf w) := by
  obtain ⟨vk, vn, vs⟩ := v
  obtain ⟨-, -, wv, tv, lp, rp', hnb, hnw, -, -, -⟩ := ht.open
  obtain ⟨sa, sk, sc, rfl⟩ := slice_of_nat hnw
  obtain ⟨y0, y1, y2, y3, -⟩ := nodeF hnb
  obtain ⟨q0, q1⟩ := boxT h2
  obtain ⟨x0, x1, x2⟩ := boxV h3
  obtain ⟨z0, z1⟩ := one_cell hw
  obtain ⟨u0, u1⟩ := one_cell hf
  have HB := Lib.hid (And.intro hw (And.intro hf (And.intro hne (And.intro hG (And.intro hnw (And.intro hS hb))))))
  have hne' : ¬ gf = gw := fun x => hne x.symm
  have Ew := Lib.hid (Ext.refl w)
  clear ht hnb hnw h2 h3 hw hf hG hS hb
  go_enter Try.func51, Try.ntmps51
  go_wp2_with fail
  refine wp_region_mixE 10 [(0, 0), (1, 0), (2, 3), (3, 3), (4, 3), (5, 3), (6, 0), (7, 1), (8, 3)] (by kernel_rfl) (fun _ _ d _ _ h => by cases d <;> exact h) ?_
  intro w1 hw1
  simp only [List.map_cons, List.map_nil, mixPick_lt _ _ 0 rfl, mixPick_lt _ _ 1 rfl, mixPick_lt _ _ 2 rfl, mixPick_lt _ _ 3 rfl, mixPick_fork, List.getD_cons_zero, List.getD_cons_succ]
  generalize yielded _ = y
  have Ew1 := Lib.hid (Ew.out.trans hw1)
  have tew1 := fun W (h : Ext w1 W) => Ew1.out.trans h
  repeat (first | (refine mx_pu (v := ?_) rfl (fun W => ?_) ?_; rotate_left; (focus (go_simp <;> with_reducible rfl)); simp only [Act.put, List.setIfInBounds_toArray, List.set_cons_zero, List.set_cons_succ]) | (refine mx_st (v := ?_) rfl (fun W hW => ?_) ?_; rotate_left; (focus (go_simp <;> with_reducible rfl)); simp only [Act.put, List.setIfInBounds_toArray, List.set_cons_zero, List.set_cons_succ]))
  refine mx_call (f := ?_) (args := ?_) rfl ?_ ?_
  rotate_left 2
  focus (go_simp <;> (refine ⟨?_, ?_⟩ <;> with_reducible rfl))
  have hI := compare_c d rp ⟨vk, vn, vs⟩ e.1 w1
  with_reducible refine hI.mono ?_
  clear hI
  rintro e' w2 ⟨rfl, hw2⟩
  refine ⟨_, rfl, hw2, ?_⟩
  simp only [Act.put, List.setIfInBounds_toArray, List.set_cons_zero, List.set_cons_succ]
  have Ew2 := Lib.hid (Ew1.out.trans hw2)
  have tew2 := fun W (h : Ext w2 W) => Ew2.out.trans h
  clear tew1
  repeat (first | (refine mx_pu (v := ?_) rfl (fun W => ?_) ?_; rotate_left; (focus (go_simp <;> with_reducible rfl)); simp only [Act.put, List.setIfInBounds_toArray, List.set_cons_zero, List.set_cons_succ]) | (refine mx_st (v := ?_) rfl (fun W hW => ?_) ?_; rotate_left; (focus (go_simp <;> with_reducible rfl)); simp only [Act.put, List.setIfInBounds_toArray, List.set_cons_zero, List.set_cons_succ]))
  refine mx_nil ?_
  generalize hc : tcmp d ⟨vk, vn, vs⟩ e.1 = c at *
  clear hc
  have ew2 := Ew2.out
  by_cases h0 : c = 0
  · subst h0
    go_wp2_with fail
    obtain ⟨ld, hd, nl, el⟩ := HB.out.2.2.2.2.1
    have hI := norm_nat (HB.out.2.2.2.2.2.1.ext ew2) (hd.ext ew2) (by have := bigK_le (nl.length_of_lt (by rw [el]; exact HB.out.2.2.2.2.2.2)); omega)
    with_reducible refine hI.mono ?_
    clear hI
    rintro e' w3 ⟨nv, rfl, hw3, hnv⟩
    rw [el] at hnv
    clear hd nl el
    obtain ⟨na, nk, nc, rfl⟩ := slice_of_nat hnv
    have Ew3 := Lib.hid (Ew2.out.trans hw3)
    have tew3 := fun W (h : Ext w3 W) => Ew3.out.trans h
    have ew3 := Ew3.out
    have HN := Lib.hid hnv
    clear hnv ew2
    have u0' : (w3.setCell ⟨gw, 0, none⟩ (.slice na nk nc)).cell? ⟨gf, 0, none⟩ = some (.bool false) := ((HB.out.2.1.ext ew3).other hne' 0 _).cell 0
    have u1' : (w3.setCell ⟨gw, 0, none⟩ (.slice na nk nc)).frozen? ⟨gf, 0, none⟩ = false := ((HB.out.2.1.ext ew3).other hne' 0 _).free 0
    go_wp2_with fail
    go_ret
    have hx : ExtBut (fun b => b = gw ∨ b = gf) w3 ((w3.setCell ⟨gw, 0, none⟩ (.slice na nk nc)).setCell ⟨gf, 0, none⟩ (.bool true)) := (ExtBut.set gw 0 _ (.inl rfl)).trans (ExtBut.set gf 0 _ (.inr rfl))
    refine ⟨rfl, (ew3.but _).trans hx, fun h => absurd rfl h, fun _ => ⟨.slice na nk nc, ?_, ?_, HN.out.but HB.out.2.2.2.1 hx⟩⟩
    · exact ((HB.out.1.ext ew3).set1).other hne 0 _
    · exact (((HB.out.2.1.ext ew3).other hne' 0 _)).set1
  · have hb0 : (c != 0) = true := by simpa using h0
    have H0 := Lib.hid h0
    clear h0
    go_wp2_with fail
    go_ret
    exact ⟨rfl, ew2.but _, fun _ => ew2, fun h => absurd h H0.out⟩

/-- What holds on Get's way down. -/
def GetI (S : Nat → Prop) (d : Bool) (rp : Option Addr) (v : GV) (r0 : Option Nat) (g2 g3 gw gf : Nat) (u : T) (_ : Nat) (w : World) : Prop :=
  Fresh S w ∧ Sorted d (lst u) ∧ tot u < bigN ∧ lookL d v (lst u) = r0 ∧ Blk w g2 [.bool d, .pointer rp] 27 ∧ Blk w g3 [.int .i64 v.kind, .int .i64 v.num, .string v.str] 38 ∧ Blk w gw [.slice none 0 0] 30 ∧ Blk w gf [.bool false] 4
def GetD (S : Nat → Prop) (r0 : Option Nat) (gw gf : Nat) (_ : Nat) (w : World) : Prop :=
  (r0 = none ∧ Blk w gw [.slice none 0 0] 30 ∧ Blk w gf [.bool false] 4) ∨ ∃ n wv, r0 = some n ∧ Blk w gw [wv] 30 ∧ Blk w gf [.bool true] 4 ∧ NatV S w wv n
theorem sorted_parts {d : Bool} {b o : Nat} {e : GV × Nat} {l r : T} (h : Sorted d (lst (.node b o e l r))) : Sorted d (lst l) ∧ Sorted d (lst r) := ⟨Sorted.left h, Sorted.right h⟩
theorem get_chooses {d : Bool} {rp : Option Addr} {v : GV} {r0 : Option Nat} {g2 g3 gw gf : Nat} (hne : gw ≠ gf) (hG : ∀ b, S b → ¬ (b = gw ∨ b = gf)) (h2 : g2 ≠ gw ∧ g2 ≠ gf) (h3 : g3 ≠ gw ∧ g3 ≠ gf) :
    Chooses S (fun b => b = gw ∨ b = gf) (GetI S d rp v r0 g2 g3 gw gf) (GetD S r0 gw gf) 51 #[.pointer (some ⟨g2, 0, none⟩), .pointer (some ⟨g3, 0, none⟩), .pointer (some ⟨gw, 0, none⟩), .pointer (some ⟨gf, 0, none⟩)] where
  apart := hG
  keeps := fun t n w w' ⟨k1, k2, k3, k4, k5, k6, k7, k8⟩ e => ⟨k1.ext e, k2, k3, k4, k5.ext e, k6.ext e, k7.ext e, k8.ext e⟩
  ends := fun n w ⟨k1, k2, k3, k4, k5, k6, k7, k8⟩ => .inl ⟨k4.symm, k7, k8⟩
  runs := fun args w => by kernel_rfl
  step := by
    intro b e l r n w ht hi
    obtain ⟨k1, k2, k3, k4, k5, k6, k7, k8⟩ := hi
    have hI := get1_c k1 d rp v ht (by simp only [tot] at k3; omega) k5 k6 k7 k8 hne hG
    rw [List.append_toArray]
    refine Calls.mono hI ?_
    rintro x w' ⟨rfl, hx, m1, m2⟩
    simp only [tot] at k3
    refine ⟨_, rfl, hx, fun hc => ?_, fun hc => ?_, fun hc => ?_⟩
    · have ex := m1 (by omega)
      exact ⟨k1.ext ex, (sorted_parts k2).1, by omega, by rw [← look_lt k2 hc]; exact k4, k5.ext ex, k6.ext ex, k7.ext ex, k8.ext ex⟩
    · have ex := m1 (by omega)
      exact ⟨k1.ext ex, (sorted_parts k2).2, by omega, by rw [← look_gt k2 hc]; exact k4, k5.ext ex, k6.ext ex, k7.ext ex, k8.ext ex⟩
    · obtain ⟨wv, p1, p2, p3⟩ := m2 hc
      exact .inr ⟨e.2, wv, by rw [← k4]; exact look_eq k2 hc, p1, p2, p3⟩
/-- Get's two results. -/
def GetRes (S : Nat → Prop) (r0 : Option Nat) (w : World) (e : Ending) (w' : World) : Prop :=
  Ext w w' ∧ ((r0 = none ∧ e = .returned (.tuple #[.slice none 0 0, .bool false])) ∨ ∃ n wv, r0 = some n ∧ e = .returned (.tuple #[wv, .bool true]) ∧ NatV S w' wv n)
theorem box4 (w : World) (c1 c2 c3 c4 : List Value) (t1 t2 t3 t4 : TypeId) (W : World) (hW : (((w.alloc (.cells c1.toArray t1)).alloc (.cells c2.toArray t2)).alloc (.cells c3.toArray t3)).alloc (.cells c4.toArray t4) = W) :
    Ext w W ∧ Blk W w.heap.size c1 t1 ∧ Blk W (w.heap.size + 1) c2 t2 ∧ Blk W (w.heap.size + 1 + 1) c3 t3 ∧ Blk W (w.heap.size + 1 + 1 + 1) c4 t4 := by
  subst hW
  obtain ⟨h1, h2, h3, h4⟩ := box3 w c1 c2 c3 t1 t2 t3 _ rfl
  have e := Ext.alloc (((w.alloc (.cells c1.toArray t1)).alloc (.cells c2.toArray t2)).alloc (.cells c3.toArray t3)) (.cells c4.toArray t4)
  refine ⟨h1.trans e, h2.ext e, h3.ext e, h4.ext e, ?_⟩
  have := Blk.new (((w.alloc (.cells c1.toArray t1)).alloc (.cells c2.toArray t2)).alloc (.cells c3.toArray t3)) c4 t4
  simpa [Nat.add_assoc] using this
set_option maxHeartbeats 2000000 in
set_option maxRecDepth 100000 in
/-- Get -/
theorem Get_c {w : World} (hS : Fresh S w) (d : Bool) (rp : Option Addr) (v : GV) {t : T} (ht : TreeV S w rp t) (hso : Sorted d (lst t)) (hs : sz t < 100000000000) (hb : tot t < bigN) :
    Calls Try.prog 26 #[.agg #[.bool d, .pointer rp], .agg #[.int .i64 v.kind, .int .i64 v.num, .string v.str]] w (GetRes S (lookL d v (lst t)) w) := by
  obtain ⟨vk, vn, vs⟩ := v
  have HT := Lib.hid (And.intro ht (And.intro hso (And.intro hb hS)))
  clear ht hso hb hS
  go_enter Try.func26, Try.ntmps26
  go_wp2_with fail
  generalize hW0 : (((w.alloc (.cells #[.bool d, .pointer rp] 27)).alloc (.cells #[.int .i64 vk, .int .i64 vn, .string vs] 38)).alloc (.cells #[.slice none 0 0] 30)).alloc (.cells #[.bool false] 4) = w0
  obtain ⟨he0, hb1, hb2, hb3, hb4⟩ := box4 w [.bool d, .pointer rp] [.int .i64 vk, .int .i64 vn, .string vs] [.slice none 0 0] [.bool false] _ _ _ _ w0 hW0
  clear hW0
  have hlt := hb4.lt
  have hI := walk_c (get_chooses (S := fun b => S b ∧ ¬ (b = w.heap.size + 1 + 1 ∨ b = w.heap.size + 1 + 1 + 1)) (d := d) (rp := rp) (v := ⟨vk, vn, vs⟩) (r0 := lookL d ⟨vk, vn, vs⟩ (lst t)) (g2 := w.heap.size) (g3 := w.heap.size + 1) (gw := w.heap.size + 1 + 1) (gf := w.heap.size + 1 + 1 + 1) (by omega) (fun b h => h.2) (by omega) (by omega)) (d := d) (w := w0) ((HT.out.1.old.mono (fun b h => ⟨h.1, by have := h.2; omega⟩)).ext he0) hs ⟨fun b hb => ⟨HT.out.2.2.2.ext he0 b hb, by omega⟩, HT.out.2.1, HT.out.2.2.1, rfl, hb1, hb2, hb3, hb4⟩
  with_reducible refine hI.mono ?_
  clear hI
  rintro e w1 ⟨n, rfl, hD, hx, -⟩
  have hX : Ext w w1 := hx.ext he0 (by omega)
  have hfin : ∀ (wv : Value) (f : Bool), Blk w1 (w.heap.size + 1 + 1) [wv] 30 → Blk w1 (w.heap.size + 1 + 1 + 1) [.bool f] 4 → True := fun _ _ _ _ => trivial
  clear hfin hb1 hb2 hb3 hb4 hx he0
  rcases hD with ⟨hn, p1, p2⟩ | ⟨k, wv, hn, p1, p2, p3⟩
  · have HN := Lib.hid hn
    obtain ⟨z0, -⟩ := one_cell p1
    obtain ⟨u0, -⟩ := one_cell p2
    clear p1 p2 hn
    go_wp2_with fail
    refine wp_region_mixE 5 [(0, 0), (1, 0), (2, 3), (3, 3)] (by kernel_rfl) (fun _ _ d _ _ h => by cases d <;> exact h) ?_
    intro w2 hw2
    simp only [List.map_cons, List.map_nil, mixPick_lt _ _ 0 rfl, mixPick_lt _ _ 1 rfl, mixPick_lt _ _ 2 rfl, mixPick_lt _ _ 3 rfl, mixPick_fork, List.getD_cons_zero, List.getD_cons_succ]
    generalize yielded _ = y
    have te2 := fun W (h : Ext w2 W) => hw2.trans h
    repeat (first | (refine mx_pu (v := ?_) rfl (fun W => ?_) ?_; rotate_left; (focus (go_simp <;> with_reducible rfl)); simp only [Act.put, List.setIfInBounds_toArray, List.set_cons_zero, List.set_cons_succ]) | (refine mx_st (v := ?_) rfl (fun W hW => ?_) ?_; rotate_left; (focus (go_simp <;> with_reducible rfl)); simp only [Act.put, List.setIfInBounds_toArray, List.set_cons_zero, List.set_cons_succ]))
    refine mx_nil ?_
    go_wp2_with fail
    go_ret2
    exact ⟨hX.trans hw2, .inl ⟨HN.out, rfl⟩⟩
  · obtain ⟨na, nk, nc, rfl⟩ := slice_of_nat p3
    have HN := Lib.hid (And.intro hn p3)
    obtain ⟨z0, -⟩ := one_cell p1
    obtain ⟨u0, -⟩ := one_cell p2
    clear p1 p2 p3 hn
    go_wp2_with fail
    refine wp_region_mixE 5 [(0, 0), (1, 0), (2, 3), (3, 3)] (by kernel_rfl) (fun _ _ d _ _ h => by cases d <;> exact h) ?_
    intro w2 hw2
    simp only [List.map_cons, List.map_nil, mixPick_lt _ _ 0 rfl, mixPick_lt _ _ 1 rfl, mixPick_lt _ _ 2 rfl, mixPick_lt _ _ 3 rfl, mixPick_fork, List.getD_cons_zero, List.getD_cons_succ]
    generalize yielded _ = y
    have te2 := fun W (h : Ext w2 W) => hw2.trans h
    repeat (first | (refine mx_pu (v := ?_) rfl (fun W => ?_) ?_; rotate_left; (focus (go_simp <;> with_reducible rfl)); simp only [Act.put, List.setIfInBounds_toArray, List.set_cons_zero, List.set_cons_succ]) | (refine mx_st (v := ?_) rfl (fun W hW => ?_) ?_; rotate_left; (focus (go_simp <;> with_reducible rfl)); simp only [Act.put, List.setIfInBounds_toArray, List.set_cons_zero, List.set_cons_succ]))
    refine mx_nil ?_
    go_wp2_with fail
    go_ret2
    exact ⟨hX.trans hw2, .inr ⟨k, _, HN.out.1, rfl, (HN.out.2.mono (fun b h => h.1)).ext hw2⟩⟩
end Go.Proofs.Ytbbnpicddmplbaa

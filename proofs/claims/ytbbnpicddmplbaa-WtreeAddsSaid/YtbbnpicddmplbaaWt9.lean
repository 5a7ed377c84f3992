/- Package wtree: Find. -/
import Derived.Test.YtbbnpicddmplbaaWt8
namespace Go.Proofs.Ytbbnpicddmplbaa
open Go.RowKit Go.Deep
set_option linter.unusedVariables false
set_option linter.unusedSimpArgs false
variable {S : Nat → Prop}


/-- The value whose interval contains K, and its beginning; the first interval begins at σ. -/
def findL (σ K : Nat) : List (GV × Nat) → Option (GV × Nat)
  | [] => none
  | x :: r => if K < σ + x.2 then some (x.1, σ) else findL (σ + x.2) K r
theorem find_ge {K : Nat} : ∀ {σ : Nat} {L R : List (GV × Nat)}, σ + sumW L ≤ K → findL σ K (L ++ R) = findL (σ + sumW L) K R
  | σ, [], R, _ => rfl
  | σ, x :: L, R, h => by
    rw [sumW_cons] at h
    rw [List.cons_append, findL, if_neg (by omega), find_ge (by omega), sumW_cons, Nat.add_assoc]
theorem find_lt {K : Nat} : ∀ {σ : Nat} {L R : List (GV × Nat)}, σ ≤ K → K < σ + sumW L → findL σ K (L ++ R) = findL σ K L
  | σ, [], R, h0, h => by simp [sumW] at h; omega
  | σ, x :: L, R, h0, h => by
    rw [sumW_cons] at h
    rw [List.cons_append, findL, findL]
    split
    · rfl
    · exact find_lt (by omega) (by omega)
/-- What Find's closure does. -/
def Find1 (S : Nat → Prop) (K σ tl : Nat) (e : GV × Nat) (gs gv : Nat) (w : World) (x : Ending) (w' : World) : Prop :=
  ∃ c : Int, x = .returned (.int .i64 c) ∧ ExtBut (fun b => b = gs ∨ b = gv) w w' ∧ (K < σ + tl → c = -1 ∧ Ext w w') ∧
    (σ + tl + e.2 ≤ K → c = 1 ∧ ∃ sv, Blk w' gs [sv] 30 ∧ ExtBut (fun b => b = gs) w w' ∧ NatV S w' sv (σ + tl + e.2)) ∧
    (σ + tl ≤ K → K < σ + tl + e.2 → c = 0 ∧ ∃ sv, Blk w' gs [sv] 30 ∧ Blk w' gv [.int .i64 e.1.kind, .int .i64 e.1.num, .string e.1.str] 38 ∧ NatV S w' sv (σ + tl))
theorem Blk.set3 {w : World} {g : Nat} {x y z a b c : Value} {t : TypeId} (h : Blk w g [x, y, z] t) : Blk (((w.setCell ⟨g, 0, none⟩ a).setCell ⟨g, 1, none⟩ b).setCell ⟨g, 2, none⟩ c) g [a, b, c] t := by
  have := ((h.set 0 a).set 1 b).set 2 c
  simpa using this
theorem ExtBut.set3 {G : Nat → Prop} (w : World) (g : Nat) (a b c : Value) (hg : G g) : ExtBut G w (((w.setCell ⟨g, 0, none⟩ a).setCell ⟨g, 1, none⟩ b).setCell ⟨g, 2, none⟩ c) := ((ExtBut.set g 0 a hg).trans (ExtBut.set g 1 b hg)).trans (ExtBut.set g 2 c hg)
set_option maxHeartbeats 4000000 in
set_option maxRecDepth 100000 in
theorem find1_c {w : World} (hS : Fresh S w) {gs gk gv b σ : Nat} {sv kv : Value} {kl : List Nat} {e : GV × Nat} {l r : T} {vk vn : Int} {vs : ByteArray} (ht : TreeV S w (some ⟨b, 0, none⟩) (.node b 0 e l r)) (hb : σ + tot l + e.2 < bigN)
    (hs : Blk w gs [sv] 30) (hsv : NatV S w sv σ) (hk : Blk w gk [kv] 30) (hkv : DigV S w kv kl) (hv : Blk w gv [.int .i64 vk, .int .i64 vn, .string vs] 38) (hne : gs ≠ gv) (hG : ∀ b, S b → ¬ (b = gs ∨ b = gv)) :
    Calls Try.prog 45 #[.pointer (some ⟨b, 0, none⟩), .pointer (some ⟨gs, 0, none⟩), .pointer (some ⟨gk, 0, none⟩), .pointer (some ⟨gv, 0, none⟩)] w (Find1 S (nval kl) σ (tot l) e gs gv w) := by
  have HT := Lib.hid ht
  obtain ⟨-, -, wv, tv, lp, rp', hnb, hnw, -, hl, -⟩ := ht.open
  obtain ⟨sa, sk, sc, rfl⟩ := slice_of_nat hnw
  obtain ⟨ta, tk, tc, rfl⟩ := slice_of_nat hsv
  obtain ⟨ka, kc, hkv0, -⟩ := id hkv
  rw [hkv0] at hk
  obtain ⟨y0, y1, y2, y3, y4, -⟩ := nodeF hnb
  obtain ⟨z0, z1⟩ := one_cell hs
  obtain ⟨k0, k1⟩ := one_cell hk
  obtain ⟨x0, x1, x2⟩ := boxV hv
  obtain ⟨la, lk, lc, hnl, hcl⟩ := totalOf_c hl
  have HL := Lib.hid (And.intro hnl hcl)
  rw [hkv0] at hkv
  have HB := Lib.hid (And.intro hs (And.intro hv (And.intro hne (And.intro hG (And.intro hnw (And.intro hS (And.intro hb (And.intro hsv hkv))))))))
  have fv0 := hv.freeF 0
  have fv1 := hv.freeF 1
  have fv2 := hv.freeF 2
  have Ew := Lib.hid (Ext.refl w)
  clear ht hnb hnw hs hsv hk hkv hv hG hS hb hl hnl hcl hkv0
  go_enter Try.func45, Try.ntmps45
  go_wp2_with fail
  refine wp_region_mixE 9 [(0, 0), (1, 3), (2, 3), (3, 3), (4, 0), (5, 1), (6, 1), (7, 3)] (by kernel_rfl) (fun _ _ d _ _ h => by cases d <;> exact h) ?_
  intro w1 hw1
  simp only [List.map_cons, List.map_nil, mixPick_lt _ _ 0 rfl, mixPick_lt _ _ 1 rfl, mixPick_lt _ _ 2 rfl, mixPick_lt _ _ 3 rfl, mixPick_fork, List.getD_cons_zero, List.getD_cons_succ]
  generalize yielded _ = y
  have Ew1 := Lib.hid (Ew.out.trans hw1)
  have tew1 := fun W (h : Ext w1 W) => Ew1.out.trans h
  repeat (first | (refine mx_pu (v := ?_) rfl (fun W => ?_) ?_; rotate_left; (focus (go_simp <;> with_reducible rfl)); simp only [Act.put, List.setIfInBounds_toArray, List.set_cons_zero, List.set_cons_succ]) | (refine mx_st (v := ?_) rfl (fun W hW => ?_) ?_; rotate_left; (focus (go_simp <;> with_reducible rfl)); simp only [Act.put, List.setIfInBounds_toArray, List.set_cons_zero, List.set_cons_succ]))
  refine mx_call (f := ?_) (args := ?_) rfl ?_ ?_
  rotate_left 2
  focus (go_simp <;> (refine ⟨?_, ?_⟩ <;> with_reducible rfl))
  with_reducible refine (HL.out.2 w1 Ew1.out).mono ?_
  rintro e' w' ⟨rfl, rfl⟩
  refine ⟨_, rfl, Ext.refl _, ?_⟩
  simp only [Act.put, List.setIfInBounds_toArray, List.set_cons_zero, List.set_cons_succ]
  repeat (first | (refine mx_pu (v := ?_) rfl (fun W => ?_) ?_; rotate_left; (focus (go_simp <;> with_reducible rfl)); simp only [Act.put, List.setIfInBounds_toArray, List.set_cons_zero, List.set_cons_succ]) | (refine mx_st (v := ?_) rfl (fun W hW => ?_) ?_; rotate_left; (focus (go_simp <;> with_reducible rfl)); simp only [Act.put, List.setIfInBounds_toArray, List.set_cons_zero, List.set_cons_succ]))
  refine mx_call (f := ?_) (args := ?_) rfl ?_ ?_
  rotate_left 2
  focus (go_simp <;> (refine ⟨?_, ?_⟩ <;> with_reducible rfl))
  obtain ⟨ld, hd, nl, el⟩ := HL.out.1
  obtain ⟨ls, hsd, ns, es⟩ := HB.out.2.2.2.2.2.2.2.1
  have hI := add_nat (HB.out.2.2.2.2.2.1.ext Ew1.out) (hsd.ext Ew1.out) (hd.ext Ew1.out) (by rw [es]; have := HB.out.2.2.2.2.2.2.1; omega) (by rw [el]; have := HB.out.2.2.2.2.2.2.1; omega)
  with_reducible refine hI.mono ?_
  clear hI
  rintro e' w2 ⟨nv, rfl, hw2, hnv⟩
  rw [el, es] at hnv
  clear hd hsd nl ns el es
  refine ⟨_, rfl, hw2, ?_⟩
  obtain ⟨na, nk, nc, rfl⟩ := slice_of_nat hnv
  have HN := Lib.hid hnv
  simp only [Act.put, List.setIfInBounds_toArray, List.set_cons_zero, List.set_cons_succ]
  have Ew2 := Lib.hid (Ew1.out.trans hw2)
  have tew2 := fun W (h : Ext w2 W) => Ew2.out.trans h
  clear tew1 hnv
  repeat (first | (refine mx_pu (v := ?_) rfl (fun W => ?_) ?_; rotate_left; (focus (go_simp <;> with_reducible rfl)); simp only [Act.put, List.setIfInBounds_toArray, List.set_cons_zero, List.set_cons_succ]) | (refine mx_st (v := ?_) rfl (fun W hW => ?_) ?_; rotate_left; (focus (go_simp <;> with_reducible rfl)); simp only [Act.put, List.setIfInBounds_toArray, List.set_cons_zero, List.set_cons_succ]))
  refine mx_nil ?_
  have ew2 := Ew2.out
  go_wp2_with fail
  clear ew2
  obtain ⟨lf, hfd, nf, ef⟩ := HN.out
  have hI := cmp_nat (HB.out.2.2.2.2.2.2.2.2.ext Ew2.out) hfd
  with_reducible refine hI.mono ?_
  clear hI
  rintro e' w3 ⟨rfl, q, rfl⟩
  rw [ef]
  clear hfd nf ef
  by_cases h0 : nval kl < σ + tot l
  · have hc : cmpI (nval kl : Int) ((σ + tot l : Nat) : Int) = -1 := cmpI_lt (by omega)
    rw [hc]
    clear hc
    go_wp2_with fail
    go_ret
    have ex : Ext w (w2.drewN q) := Ew2.out.trans (Ext.drewN _ _)
    exact ⟨-1, rfl, ex.but _, fun _ => ⟨rfl, ex⟩, fun h => by omega, fun h => by omega⟩
  · have hc : ¬ cmpI (nval kl : Int) ((σ + tot l : Nat) : Int) < 0 := by unfold cmpI; split <;> (try split) <;> omega
    generalize cmpI (nval kl : Int) ((σ + tot l : Nat) : Int) = c0 at *
    have hw3 : Ext w2 (w2.drewN q) := Ext.drewN _ _
    generalize w2.drewN q = w3 at *
    have Ew3 := Lib.hid (Ew2.out.trans hw3)
    have tew3 := fun W (h : Ext w3 W) => Ew3.out.trans h
    clear tew2
    have ew3 := Ew3.out
    go_wp2_with fail
    clear ew3
    obtain ⟨lf, hfd, nf, ef⟩ := HN.out
    obtain ⟨ld, hd, nl, el⟩ := HB.out.2.2.2.2.1
    have hI := add_nat (HB.out.2.2.2.2.2.1.ext Ew3.out) (hfd.ext hw3) (hd.ext Ew3.out) (by rw [ef]; have := HB.out.2.2.2.2.2.2.1; omega) (by rw [el]; have := HB.out.2.2.2.2.2.2.1; omega)
    with_reducible refine hI.mono ?_
    clear hI
    rintro e' w4 ⟨mv, rfl, hw4, hmv⟩
    rw [el, ef] at hmv
    clear hd hfd nl nf el ef
    obtain ⟨ma, mk, mc, rfl⟩ := slice_of_nat hmv
    have Ew4 := Lib.hid (Ew3.out.trans hw4)
    have tew4 := fun W (h : Ext w4 W) => Ew4.out.trans h
    clear tew3
    have HM := Lib.hid hmv
    clear hmv
    have ew4 := Ew4.out
    go_wp2_with fail
    clear ew4
    obtain ⟨lf, hfd, nf, ef⟩ := HM.out
    have hI := cmp_nat (HB.out.2.2.2.2.2.2.2.2.ext Ew4.out) hfd
    with_reducible refine hI.mono ?_
    clear hI
    rintro e' w5 ⟨rfl, q5, rfl⟩
    rw [ef]
    clear hfd nf ef
    have hw5 : Ext w4 (w4.drewN q5) := Ext.drewN _ _
    generalize w4.drewN q5 = w5 at *
    have Ew5 := Lib.hid (Ew4.out.trans hw5)
    have tew5 := fun W (h : Ext w5 W) => Ew5.out.trans h
    clear tew4
    have ew5 := Ew5.out
    by_cases h1 : nval kl < σ + tot l + e.2
    · have hc5 : ¬ 0 ≤ cmpI (nval kl : Int) ((σ + tot l + e.2 : Nat) : Int) := by rw [cmpI_lt (by omega)]; omega
      generalize cmpI (nval kl : Int) ((σ + tot l + e.2 : Nat) : Int) = c1 at *
      have b3 := (HB.out.2.1.ext ew5).set3 (a := .int .i64 e.1.kind) (b := .int .i64 e.1.num) (c := .string e.1.str)
      have h3x := ExtBut.set3 (G := fun b => b = gv) w5 gv (.int .i64 e.1.kind) (.int .i64 e.1.num) (.string e.1.str) rfl
      have s3 := (HB.out.1.ext ew5).but hne h3x
      have zz0 := s3.cell 0
      have zz1 := s3.free 0
      have H3 := Lib.hid (And.intro b3 (And.intro h3x s3))
      simp only [List.getElem?_cons_zero] at zz0
      clear b3 h3x s3
      go_wp2_with fail
      go_ret
      have hx' : ExtBut (fun b => b = gs ∨ b = gv) w5 ((((w5.setCell ⟨gv, 0, none⟩ (.int .i64 e.1.kind)).setCell ⟨gv, 1, none⟩ (.int .i64 e.1.num)).setCell ⟨gv, 2, none⟩ (.string e.1.str)).setCell ⟨gs, 0, none⟩ (.slice na nk nc)) := (H3.out.2.1.mono (fun b h => .inr h)).trans (ExtBut.set gs 0 _ (.inl rfl))
      exact ⟨0, rfl, (ew5.but _).trans hx', fun h => by omega, fun h => by omega, fun _ _ => ⟨rfl, _, H3.out.2.2.set1, H3.out.1.other (fun x => hne x.symm) 0 _, (HN.out.ext ((hw3.trans hw4).trans hw5)).but HB.out.2.2.2.1 hx'⟩⟩
    · have hc5 : 0 ≤ cmpI (nval kl : Int) ((σ + tot l + e.2 : Nat) : Int) := by unfold cmpI; split <;> (try split) <;> omega
      generalize cmpI (nval kl : Int) ((σ + tot l + e.2 : Nat) : Int) = c1 at *
      go_wp2_with fail
      go_ret
      have hx : ExtBut (fun b => b = gs) w5 (w5.setCell ⟨gs, 0, none⟩ (.slice ma mk mc)) := ExtBut.set gs 0 _ rfl
      have hx' : ExtBut (fun b => b = gs ∨ b = gv) w5 (w5.setCell ⟨gs, 0, none⟩ (.slice ma mk mc)) := hx.mono (fun b h => .inl h)
      exact ⟨1, rfl, (ew5.but _).trans hx', fun h => by omega, fun _ => ⟨rfl, _, (HB.out.1.ext ew5).set1, (ew5.but _).trans hx, (HM.out.ext hw5).but HB.out.2.2.2.1 hx'⟩, fun h h' => by omega⟩
end Go.Proofs.Ytbbnpicddmplbaa

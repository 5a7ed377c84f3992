/- Package wtree: Find. -/
import Derived.Test.YtbbnpicddmplbaaWt9
namespace Go.Proofs.Ytbbnpicddmplbaa
open Go.RowKit Go.Deep
set_option linter.unusedVariables false
set_option linter.unusedSimpArgs false
variable {S : Nat → Prop}


def FindI (S : Nat → Prop) (kv : Value) (kl : List Nat) (F0 : Option (GV × Nat)) (gs gk gv : Nat) (u : T) (_ : Nat) (w : World) : Prop :=
  ∃ σ sv vk vn vs, Fresh S w ∧ σ + tot u < bigN ∧ σ ≤ nval kl ∧ nval kl < σ + tot u ∧ findL σ (nval kl) (lst u) = F0 ∧ Blk w gs [sv] 30 ∧ NatV S w sv σ ∧ Blk w gk [kv] 30 ∧ DigV S w kv kl ∧ Blk w gv [.int .i64 vk, .int .i64 vn, .string vs] 38
def FindD (S : Nat → Prop) (F0 : Option (GV × Nat)) (gs gv : Nat) (_ : Nat) (w : World) : Prop :=
  ∃ sv x p, F0 = some (x, p) ∧ Blk w gs [sv] 30 ∧ NatV S w sv p ∧ Blk w gv [.int .i64 x.kind, .int .i64 x.num, .string x.str] 38
theorem find_chooses {kv : Value} {kl : List Nat} {F0 : Option (GV × Nat)} {gs gk gv : Nat} (hne : gs ≠ gv) (hG : ∀ b, S b → ¬ (b = gs ∨ b = gv)) (hk : ¬ (gk = gs ∨ gk = gv)) :
    Chooses S (fun b => b = gs ∨ b = gv) (FindI S kv kl F0 gs gk gv) (FindD S F0 gs gv) 45 #[.pointer (some ⟨gs, 0, none⟩), .pointer (some ⟨gk, 0, none⟩), .pointer (some ⟨gv, 0, none⟩)] where
  apart := hG
  keeps := by
    rintro t n w w' ⟨σ, sv, vk, vn, vs, k1, k2, k3, k4, k5, k6, k7, k8, k9, k10⟩ e
    exact ⟨σ, sv, vk, vn, vs, k1.ext e, k2, k3, k4, k5, k6.ext e, k7.ext e, k8.ext e, k9.ext e, k10.ext e⟩
  ends := by
    rintro n w ⟨σ, sv, vk, vn, vs, k1, k2, k3, k4, k5, k6, k7, k8, k9, k10⟩
    simp only [tot] at k4
    omega
  runs := fun args w => by kernel_rfl
  step := by
    intro b e l r n w ht hi
    obtain ⟨σ, sv, vk, vn, vs, k1, k2, k3, k4, k5, k6, k7, k8, k9, k10⟩ := hi
    simp only [tot] at k2 k4
    have hI := find1_c k1 ht (by omega) k6 k7 k8 k9 k10 hne hG
    rw [List.append_toArray]
    refine Calls.mono hI ?_
    simp only [lst] at k5
    rintro x w' ⟨c, rfl, hx, m1, m2, m3⟩
    refine ⟨c, rfl, hx, fun hc => ?_, fun hc => ?_, fun hc => ?_⟩
    · have h1 : nval kl < σ + tot l := by
        rcases Nat.lt_or_ge (nval kl) (σ + tot l) with h | h
        · exact h
        · rcases Nat.lt_or_ge (nval kl) (σ + tot l + e.2) with h' | h'
          · have := (m3 h h').1; omega
          · have := (m2 h').1; omega
      have ex := (m1 h1).2
      rw [find_lt k3 (by rw [tot_lst]; exact h1)] at k5
      exact ⟨σ, sv, vk, vn, vs, k1.ext ex, by omega, k3, h1, k5, k6.ext ex, k7.ext ex, k8.ext ex, k9.ext ex, k10.ext ex⟩
    · have h1 : σ + tot l + e.2 ≤ nval kl := by
        rcases Nat.lt_or_ge (nval kl) (σ + tot l) with h | h
        · have := (m1 h).1; omega
        · rcases Nat.lt_or_ge (nval kl) (σ + tot l + e.2) with h' | h'
          · have := (m3 h h').1; omega
          · exact h'
      obtain ⟨-, sv', p1, p2, p3⟩ := m2 h1
      rw [find_ge (by rw [tot_lst]; omega), tot_lst, findL, if_neg (by omega)] at k5
      exact ⟨_, sv', vk, vn, vs, k1.le hx.1, by omega, h1, by omega, k5, p1, p3, k8.but hk hx, k9.but hG hx, k10.but (fun h => hne h.symm) p2⟩
    · have h1 : σ + tot l ≤ nval kl ∧ nval kl < σ + tot l + e.2 := by
        rcases Nat.lt_or_ge (nval kl) (σ + tot l) with h | h
        · have := (m1 h).1; omega
        · rcases Nat.lt_or_ge (nval kl) (σ + tot l + e.2) with h' | h'
          · exact ⟨h, h'⟩
          · have := (m2 h').1; omega
      obtain ⟨-, sv', p1, p2, p3⟩ := m3 h1.1 h1.2
      rw [find_ge (by rw [tot_lst]; omega), tot_lst, findL, if_pos h1.2] at k5
      exact ⟨sv', e.1, _, k5.symm, p1, p3, p2⟩
/-- Find's four results. -/
def FindRes (S : Nat → Prop) (F0 : Option (GV × Nat)) (H : Nat) (w : World) (e : Ending) (w' : World) : Prop :=
  Ext w w' ∧ ((F0 = none ∧ e = .returned (.tuple #[.agg #[.int .i64 0, .int .i64 0, .string ⟨#[]⟩], .slice none 0 0, .int .i64 0, .int .i64 3])) ∨
    ∃ x p sv n, F0 = some (x, p) ∧ e = .returned (.tuple #[.agg #[.int .i64 x.kind, .int .i64 x.num, .string x.str], sv, .int .i64 (n : Nat), .int .i64 0]) ∧ n ≤ H ∧ NatV S w' sv p)
theorem findL_none {K : Nat} : ∀ {σ : Nat} {L : List (GV × Nat)}, σ + sumW L ≤ K → findL σ K L = none
  | σ, [], _ => rfl
  | σ, x :: L, h => by
    rw [sumW_cons] at h
    rw [findL, if_neg (by omega), findL_none (by omega)]
theorem Ext.set3 {w w' : World} (h : Ext w w') {g : Nat} (hg : w.heap.size ≤ g) (a b c : Value) : Ext w (((w'.setCell ⟨g, 0, none⟩ a).setCell ⟨g, 1, none⟩ b).setCell ⟨g, 2, none⟩ c) := ((h.setCell hg 0 a).setCell hg 1 b).setCell hg 2 c
set_option maxHeartbeats 4000000 in
set_option maxRecDepth 100000 in
/-- Find -/
theorem Find_c {w : World} (hS : Fresh S w) (d : Bool) (rp : Option Addr) {kv : Value} {kl : List Nat} (hkv : DigV S w kv kl) {t : T} (ht0 : TreeV S w rp t) (hs : sz t < 100000000000) (hb : tot t < bigN) :
    Calls Try.prog 19 #[.agg #[.bool d, .pointer rp], kv] w (FindRes S (findL 0 (nval kl) (lst t)) (ht t) w) := by
  obtain ⟨ka, kc, rfl, -⟩ := id hkv
  obtain ⟨la, lk, lc, hnl, hcl⟩ := totalOf_c ht0
  have HT := Lib.hid (And.intro ht0 (And.intro hkv (And.intro hb hS)))
  have HL := Lib.hid (And.intro hnl hcl)
  clear ht0 hb hS hnl hcl hkv
  go_enter Try.func19, Try.ntmps19
  go_wp2_with fail
  generalize hW0 : ((w.alloc (.cells #[.bool d, .pointer rp] 27)).alloc (.cells #[.slice ka kl.length kc] 30)).alloc (.cells #[.int .i64 0, .int .i64 0, .string ⟨#[]⟩] 38) = w0
  obtain ⟨he0, hb1, hb2, hb3⟩ := box3 w [.bool d, .pointer rp] [.slice ka kl.length kc] [.int .i64 0, .int .i64 0, .string ⟨#[]⟩] _ _ _ w0 hW0
  clear hW0
  have hlt := hb3.lt
  obtain ⟨q0, q1⟩ := boxT hb1
  obtain ⟨k0, k1⟩ := one_cell hb2
  obtain ⟨x0, x1, x2⟩ := boxV hb3
  have fv0 := hb3.freeF 0
  have fv1 := hb3.freeF 1
  have fv2 := hb3.freeF 2
  have HB := Lib.hid (And.intro hb1 (And.intro hb2 hb3))
  clear hb1 hb2 hb3
  have Ew0 := Lib.hid (Ext.refl w0)
  have He0 := Lib.hid he0
  clear he0
  refine wp_region_mixE 7 [(0, 0), (1, 3), (2, 0), (3, 1), (4, 1), (5, 3)] (by kernel_rfl) (fun _ _ d _ _ h => by cases d <;> exact h) ?_
  intro w1 hw1
  simp only [List.map_cons, List.map_nil, mixPick_lt _ _ 0 rfl, mixPick_lt _ _ 1 rfl, mixPick_lt _ _ 2 rfl, mixPick_lt _ _ 3 rfl, mixPick_fork, List.getD_cons_zero, List.getD_cons_succ]
  generalize yielded _ = y
  have Ew1 := Lib.hid (Ew0.out.trans hw1)
  have tew1 := fun W (h : Ext w1 W) => Ew1.out.trans h
  repeat (first | (refine mx_pu (v := ?_) rfl (fun W => ?_) ?_; rotate_left; (focus (go_simp <;> with_reducible rfl)); simp only [Act.put, List.setIfInBounds_toArray, List.set_cons_zero, List.set_cons_succ]) | (refine mx_st (v := ?_) rfl (fun W hW => ?_) ?_; rotate_left; (focus (go_simp <;> with_reducible rfl)); simp only [Act.put, List.setIfInBounds_toArray, List.set_cons_zero, List.set_cons_succ]))
  refine mx_call (f := ?_) (args := ?_) rfl ?_ ?_
  rotate_left 2
  focus (go_simp <;> (refine ⟨?_, ?_⟩ <;> with_reducible rfl))
  with_reducible refine (HL.out.2 w1 (He0.out.trans Ew1.out)).mono ?_
  rintro e' w' ⟨rfl, rfl⟩
  refine ⟨_, rfl, Ext.refl _, ?_⟩
  simp only [Act.put, List.setIfInBounds_toArray, List.set_cons_zero, List.set_cons_succ]
  repeat (first | (refine mx_pu (v := ?_) rfl (fun W => ?_) ?_; rotate_left; (focus (go_simp <;> with_reducible rfl)); simp only [Act.put, List.setIfInBounds_toArray, List.set_cons_zero, List.set_cons_succ]) | (refine mx_st (v := ?_) rfl (fun W hW => ?_) ?_; rotate_left; (focus (go_simp <;> with_reducible rfl)); simp only [Act.put, List.setIfInBounds_toArray, List.set_cons_zero, List.set_cons_succ]))
  refine mx_call (f := ?_) (args := ?_) rfl ?_ ?_
  rotate_left 2
  focus (go_simp <;> (refine ⟨?_, ?_⟩ <;> with_reducible rfl))
  obtain ⟨ld, hd, nl, el⟩ := HL.out.1
  have hI := cmp_nat (HT.out.2.1.ext (He0.out.trans Ew1.out)) (hd.ext (He0.out.trans Ew1.out))
  with_reducible refine hI.mono ?_
  clear hI
  rintro e' w2 ⟨rfl, q, rfl⟩
  rw [el]
  clear hd nl el
  have hw2 : Ext w1 (w1.drewN q) := Ext.drewN _ _
  refine ⟨_, rfl, hw2, ?_⟩
  generalize w1.drewN q = w2 at *
  simp only [Act.put, List.setIfInBounds_toArray, List.set_cons_zero, List.set_cons_succ]
  have Ew2 := Lib.hid (Ew1.out.trans hw2)
  have tew2 := fun W (h : Ext w2 W) => Ew2.out.trans h
  clear tew1
  repeat (first | (refine mx_pu (v := ?_) rfl (fun W => ?_) ?_; rotate_left; (focus (go_simp <;> with_reducible rfl)); simp only [Act.put, List.setIfInBounds_toArray, List.set_cons_zero, List.set_cons_succ]) | (refine mx_st (v := ?_) rfl (fun W hW => ?_) ?_; rotate_left; (focus (go_simp <;> with_reducible rfl)); simp only [Act.put, List.setIfInBounds_toArray, List.set_cons_zero, List.set_cons_succ]))
  refine mx_nil ?_
  have ew2 := Ew2.out
  by_cases h0 : tot t ≤ nval kl
  · have hc5 : 0 ≤ cmpI (nval kl : Int) ((tot t : Nat) : Int) := by unfold cmpI; split <;> (try split) <;> omega
    generalize cmpI (nval kl : Int) ((tot t : Nat) : Int) = c1 at *
    go_wp2_with fail
    have hbt := ExtBut.set3 (G := fun b => b = w.heap.size + 1 + 1) w2 (w.heap.size + 1 + 1) (.int .i64 0) (.int .i64 0) (.string ⟨#[]⟩) rfl
    have hk := ((HB.out.2.2.ext ew2)).set3 (a := .int .i64 0) (b := .int .i64 0) (c := .string ⟨#[]⟩)
    have hx := (He0.out.trans ew2).set3 (g := w.heap.size + 1 + 1) (by omega) (.int .i64 0) (.int .i64 0) (.string ⟨#[]⟩)
    generalize ((World.setCell w2 ⟨w.heap.size + 1 + 1, 0, none⟩ (.int .i64 0)).setCell ⟨w.heap.size + 1 + 1, 1, none⟩ (.int .i64 0)).setCell ⟨w.heap.size + 1 + 1, 2, none⟩ (.string ⟨#[]⟩) = w9 at hk hx hbt ⊢
    have c0 := hk.cell 0
    have c1 := hk.cell 1
    have c2 := hk.cell 2
    clear hk
    refine bodyPost_ret (v := .tuple #[.agg #[.int .i64 0, .int .i64 0, .string ⟨#[]⟩], .slice none 0 0, .int .i64 0, .int .i64 3]) (by simp [results, Try.results19, go_sem, c0, c1, c2]) rfl ?_
    exact ⟨hx, .inl ⟨findL_none (by rw [tot_lst]; omega), rfl⟩⟩
  · have hc5 : ¬ 0 ≤ cmpI (nval kl : Int) ((tot t : Nat) : Int) := by rw [cmpI_lt (by omega)]; omega
    generalize cmpI (nval kl : Int) ((tot t : Nat) : Int) = c1 at *
    have ea : Ext w0 ((w2.alloc (.cells #[.int .i64 0, .int .i64 0, .string ⟨#[]⟩] 38)).alloc (.cells #[.slice none 0 0] 30)) := ew2.trans ((Ext.alloc w2 _).trans (Ext.alloc _ _))
    go_wp2_with fail
    clear ea
    generalize hW3 : (w2.alloc (.cells #[.int .i64 0, .int .i64 0, .string ⟨#[]⟩] 38)).alloc (.cells #[.slice none 0 0] 30) = w3
    obtain ⟨he3, hb4, hb5⟩ := box2 w2 [.int .i64 0, .int .i64 0, .string ⟨#[]⟩] [.slice none 0 0] _ _ w3 hW3
    clear hW3
    have hl3 : w.heap.size + 1 + 1 < w2.heap.size := (HB.out.2.2.ext ew2).lt
    have hl4 : w2.heap.size + 1 < w3.heap.size := hb5.lt
    have e03 := (He0.out.trans ew2).trans he3
    have hI := walk_c (find_chooses (S := fun b => S b ∧ ¬ (b = w2.heap.size + 1 ∨ b = w2.heap.size ∨ b = w.heap.size + 1 + 1)) (kv := .slice ka kl.length kc) (kl := kl) (F0 := findL 0 (nval kl) (lst t)) (gs := w2.heap.size + 1) (gk := w.heap.size + 1) (gv := w2.heap.size) (by omega) (fun b h => by have := h.2; omega) (by omega)) (d := d) (w := w3) ((HT.out.1.old.mono (fun b h => ⟨h.1, by have := h.2; omega⟩)).ext e03) hs ⟨0, .slice none 0 0, 0, 0, ⟨#[]⟩, fun b hb => ⟨HT.out.2.2.2.ext e03 b hb, by omega⟩, by have := HT.out.2.2.1; omega, by omega, by omega, rfl, hb5, NatV.zero _, (HB.out.2.1.ext ew2).ext he3, (HT.out.2.1.old.mono (fun b h => ⟨h.1, by have := h.2; omega⟩)).ext e03, hb4⟩
    with_reducible refine hI.mono ?_
    clear hI
    rintro e w4 ⟨n, rfl, ⟨sv, x, p, p0, p1, p2, p3⟩, hx, hn⟩
    have hX : Ext w w4 := hx.ext e03 (by omega)
    have b4 := ((HB.out.2.2.ext ew2).ext he3).but (by omega) hx
    obtain ⟨na, nk, nc, rfl⟩ := slice_of_nat p2
    have HN := Lib.hid (And.intro p0 (And.intro p1 (And.intro p2 (And.intro p3 (And.intro b4 hX)))))
    clear hb4 hb5 hx e03 p0 p1 p2 p3 b4 hX ew2 tew2 Ew1 hw1 Ew2 hw2 he3 q0 q1 k0 k1 x0 x1 x2 fv0 fv1 fv2
    go_wp2_with fail
    refine wp_region_mixB (fun b => b = w.heap.size + 1 + 1) 8 [(0, 0), (1, 0), (2, 3), (3, 1), (4, 3), (5, 3), (6, 3)] (by kernel_rfl) (fun _ _ d _ _ h => by cases d <;> exact h) ?_
    intro w5 hw5
    simp only [List.map_cons, List.map_nil, mixPick_lt _ _ 0 rfl, mixPick_lt _ _ 1 rfl, mixPick_lt _ _ 2 rfl, mixPick_lt _ _ 3 rfl, mixPick_fork, List.getD_cons_zero, List.getD_cons_succ]
    generalize yielded _ = y
    have c0 : ∀ W, ExtBut (fun b => b = w.heap.size + 1 + 1) w5 W → W.cell? ⟨w2.heap.size, 0, none⟩ = some (.int .i64 x.kind) := fun W h => ((HN.out.2.2.2.1.ext hw5).but (by omega) h).cell 0
    have c1 : ∀ W, ExtBut (fun b => b = w.heap.size + 1 + 1) w5 W → W.cell? ⟨w2.heap.size, 1, none⟩ = some (.int .i64 x.num) := fun W h => ((HN.out.2.2.2.1.ext hw5).but (by omega) h).cell 1
    have c2 : ∀ W, ExtBut (fun b => b = w.heap.size + 1 + 1) w5 W → W.cell? ⟨w2.heap.size, 2, none⟩ = some (.string x.str) := fun W h => ((HN.out.2.2.2.1.ext hw5).but (by omega) h).cell 2
    have c3 : ∀ W, ExtBut (fun b => b = w.heap.size + 1 + 1) w5 W → W.cell? ⟨w2.heap.size + 1, 0, none⟩ = some (.slice na nk nc) := fun W h => ((HN.out.2.1.ext hw5).but (by omega) h).cell 0
    repeat (first | (refine mx_pu (v := ?_) rfl (fun W => ?_) ?_; rotate_left; (focus (go_simp <;> with_reducible rfl)); simp only [Act.put, List.setIfInBounds_toArray, List.set_cons_zero, List.set_cons_succ]) | (refine mx_st (v := ?_) rfl (fun W hW => ?_) ?_; rotate_left; (focus (go_simp <;> with_reducible rfl)); simp only [Act.put, List.setIfInBounds_toArray, List.set_cons_zero, List.set_cons_succ]))
    clear c0 c1 c2 c3
    obtain ⟨x0, x1, x2⟩ := boxV (HN.out.2.2.2.2.1.ext hw5)
    have fv0 := (HN.out.2.2.2.2.1.ext hw5).freeF 0
    have fv1 := (HN.out.2.2.2.2.1.ext hw5).freeF 1
    have fv2 := (HN.out.2.2.2.2.1.ext hw5).freeF 2
    have er5 := Ext.refl w5
    refine mx_es (w' := ?_) rfl ?_ ?_ ?_
    rotate_left
    focus (go_simp <;> with_reducible rfl)
    · exact ExtBut.set3 w5 _ _ _ _ rfl
    simp only [Act.put, List.setIfInBounds_toArray, List.set_cons_zero, List.set_cons_succ]
    repeat (first | (refine mx_pu (v := ?_) rfl (fun W => ?_) ?_; rotate_left; (focus (go_simp <;> with_reducible rfl)); simp only [Act.put, List.setIfInBounds_toArray, List.set_cons_zero, List.set_cons_succ]) | (refine mx_st (v := ?_) rfl (fun W hW => ?_) ?_; rotate_left; (focus (go_simp <;> with_reducible rfl)); simp only [Act.put, List.setIfInBounds_toArray, List.set_cons_zero, List.set_cons_succ]))
    refine mx_nil ?_
    have e5 := HN.out.2.2.2.2.2.trans hw5
    go_wp2_with fail
    have hbt := ExtBut.set3 (G := fun b => b = w.heap.size + 1 + 1) w5 (w.heap.size + 1 + 1) (.int .i64 x.kind) (.int .i64 x.num) (.string x.str) rfl
    have hk := ((HN.out.2.2.2.2.1.ext hw5)).set3 (a := .int .i64 x.kind) (b := .int .i64 x.num) (c := .string x.str)
    have hx := (e5).set3 (g := w.heap.size + 1 + 1) (by omega) (.int .i64 x.kind) (.int .i64 x.num) (.string x.str)
    generalize ((World.setCell w5 ⟨w.heap.size + 1 + 1, 0, none⟩ (.int .i64 x.kind)).setCell ⟨w.heap.size + 1 + 1, 1, none⟩ (.int .i64 x.num)).setCell ⟨w.heap.size + 1 + 1, 2, none⟩ (.string x.str) = w9 at hk hx hbt ⊢
    have c0 := hk.cell 0
    have c1 := hk.cell 1
    have c2 := hk.cell 2
    clear hk
    refine bodyPost_ret (v := .tuple #[.agg #[.int .i64 x.kind, .int .i64 x.num, .string x.str], .slice na nk nc, .int .i64 n, .int .i64 0]) (by simp [results, Try.results19, go_sem, c0, c1, c2]) rfl ?_
    exact ⟨hx, .inr ⟨x, p, _, n, HN.out.1, rfl, hn, (((HN.out.2.2.1.ext hw5).but (fun b h => by have := h.2; omega) hbt).mono (fun b h => h.1))⟩⟩
end Go.Proofs.Ytbbnpicddmplbaa

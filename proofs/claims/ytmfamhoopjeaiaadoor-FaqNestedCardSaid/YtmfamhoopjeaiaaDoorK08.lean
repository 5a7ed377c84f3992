/- Texts of this claim, joined: Lwg FjP Lwh Lwi Lwj Lwk FyP Lwl Lwm -/
import Derived.Test.YtmfamhoopjeaiaaDoorK07
set_option linter.unusedVariables false
set_option linter.unusedSimpArgs false
namespace Go.Proofs.YtmfamhoopjeaiaaDoor
section
open Go.RowKit
attribute [local irreducible] seqW awp zAf zAo zAg Weak updS zAw retL Pure Acts rP setP setQ cP nP fr
set_option maxRecDepth 4096
def fewR (f : Raw) : Bool := decide (f.R.length ≤ 10) && (decide (f.V.length ≤ 4) && (decide (f.W.length ≤ 12) && f.W.all fun w => decide (0 ≤ w ∧ w ≤ 1000)))
def fewP (l : List Raw) : Bool := ((l.take 5).all fewR) && decide (l.length ≤ 4)
theorem fewP_rn {l : List Raw} (h : fewP l = true) : l.length ≤ 4 ∧ ∃ fs : List Rn, l = fs.map rnR ∧ ∀ f ∈ fs, Rsm f := by
 unfold fewP at h
 rw [Bool.and_eq_true, decide_eq_true_eq, List.all_eq_true] at h
 refine ⟨h.2, l.map fun f => ⟨f.V, f.R, f.W.map Int.toNat⟩, ?_, ?_⟩
 ·rw [List.map_map]
  conv => lhs; rw [← List.map_id l]
  refine List.map_congr_left fun f hf => ?_
  have hf2 := h.1 f (by rw [List.take_of_length_le (by omega)]; exact hf)
  unfold fewR at hf2
  simp only [Bool.and_eq_true, decide_eq_true_eq, List.all_eq_true] at hf2
  obtain ⟨V, R, W⟩ := f
  simp only [Function.comp, id]
  congr 1
  show W = (W.map Int.toNat).map fun w : Nat => (w : Int)
  rw [List.map_map]
  conv => lhs; rw [← List.map_id W]
  refine List.map_congr_left fun w hw => ?_
  have := hf2.2.2.2 w hw
  simp only [id, Function.comp]; omega
 ·intro f hf
  obtain ⟨g, hg, rfl⟩ := List.mem_map.1 hf
  have hf2 := h.1 g (by rw [List.take_of_length_le (by omega)]; exact hg)
  unfold fewR at hf2
  simp only [Bool.and_eq_true, decide_eq_true_eq, List.all_eq_true] at hf2
  refine ⟨hf2.2.1, hf2.1, by simpa using hf2.2.2.1, fun w hw => ?_⟩
  obtain ⟨z, hz, rfl⟩ := List.mem_map.1 hw
  have := hf2.2.2.2 z hz
  omega
theorem fewP_no {l : List Raw} {i : Nat} (h : i < l.length) (h5 : i < 5) (hp : fewR (l.getD i default) = false) : fewP l = false := by
 unfold fewP
 have : (l.take 5).all fewR = false := by
  rw [Bool.eq_false_iff]
  intro k
  rw [List.all_eq_true] at k
  have := k (l.getD i default) (by
   rw [List.getD_eq_getElem?_getD, List.getElem?_eq_getElem h]
   exact List.mem_iff_getElem.2 ⟨i, by rw [List.length_take]; omega, by rw [List.getElem_take]; rfl⟩)
  rw [hp] at this; cases this
 rw [this]; rfl
theorem fewP_yes {l : List Raw} (h : ∀ j, j < 5 → j < l.length → fewR (l.getD j default) = true) : fewP l = decide (l.length ≤ 4) := by
 unfold fewP
 have : (l.take 5).all fewR = true := by
  rw [List.all_eq_true]
  intro f hf
  obtain ⟨j, hj, rfl⟩ := List.mem_iff_getElem.1 hf
  rw [List.length_take] at hj
  have := h j (by omega) (by omega)
  rw [List.getD_eq_getElem?_getD, List.getElem?_eq_getElem (by omega)] at this
  rw [List.getElem_take]; exact this
 rw [this]; rfl
set_option maxHeartbeats 4000000 in
theorem few_c (l : List Raw) : Pure Tryd.prog 8 [.row (l.flatMap rawC) l.length] [] (bD (fewP l)) := by
 refine zL zBo mixed Tryd.func8 rfl ?_
 focus
  refine zB (zA rfl (v0s (veT (zB (zB (zA rfl (veT (zF ?_))))))))
  rotate_left
 refine zW (fun (i : Nat) => fr 73 [(0, D.row (List.flatMap rawC l) (List.length l)), (3, iD ↑i)]) (fun (i : Nat) => []) (fun i => 5 - i) (fun (i : Nat) => i ≤ 5 ∧ i ≤ l.length ∧ ∀ j, j < i → fewR (l.getD j default) = true) 0 ?_ ?_ ?_
 ·exact ⟨by omega, by omega, fun j h => by omega⟩
 ·refine vk 0
 rintro i ⟨h0, h1, h2⟩
 by_cases h3 : i < l.length ∧ i < 5
 ·obtain ⟨h3, h4⟩ := h3
  have hg2 := fl_at zMu l i h3
  have hle := zJf zMu l i h3
  have hne := zJe zMu (by decide) l (by omega)
  have hno := fewP_no h3 h4
  generalize hff : l.getD i default = f at *
  obtain ⟨V, R, W⟩ := f
  by_cases hbad : R.length ≤ 10 ∧ V.length ≤ 4 ∧ W.length ≤ 12
  ·obtain ⟨b1, b2, b3⟩ := hbad
   focus
    refine zB (zB (zA rfl (v0s (vew [] [(4, true)] (decide ((↑i : Int) < ↑(List.length l)) = true) (vT ((↑i : Int) < (5 : Int)) (zG (zC (zD (zB (zF (zB (zB (zA rfl ?_)))))))))))))
    refine vr 3 (ix ↑i ↑(List.length l) (List.flatMap rawC l ≠ [])) (vs 17 (D.ptr (List.drop (Int.toNat (↑i : Int) * 3) (List.flatMap rawC l))) (D.ptr (D.row (List.map iD V) (List.length V) :: D.row (List.map rowV R) (List.length R) :: D.row (List.map iD W) (List.length W) :: List.flatMap rawC (List.drop (i + 1) l))) (by simp (disch := omega) only [Int.toNat_natCast, List.cons_append, List.nil_append, hg2]) (vw 8 [] [(7, false)] (True ∧ 0 < List.length (D.row (List.map rowV R) (List.length R) :: D.row (List.map iD W) (List.length W) :: List.flatMap rawC (List.drop (i + 1) l)) ∧ decide ((↑(List.length R) : Int) > (10 : Int)) = false ∧ ix ↑i ↑(List.length l) (List.flatMap rawC l ≠ [])) (vs 25 (D.ptr (List.drop (Int.toNat (↑i : Int) * 3) (List.flatMap rawC l))) (D.ptr (D.row (List.map iD V) (List.length V) :: D.row (List.map rowV R) (List.length R) :: D.row (List.map iD W) (List.length W) :: List.flatMap rawC (List.drop (i + 1) l))) (by simp (disch := omega) only [Int.toNat_natCast, List.cons_append, List.nil_append, hg2]) (vw 9 [] [(16, false)] (True ∧ 0 < List.length (D.row (List.map iD V) (List.length V) :: D.row (List.map rowV R) (List.length R) :: D.row (List.map iD W) (List.length W) :: List.flatMap rawC (List.drop (i + 1) l)) ∧ decide ((↑(List.length V) : Int) > (4 : Int)) = false ∧ ix ↑i ↑(List.length l) (List.flatMap rawC l ≠ [])) (vs 34 (D.ptr (List.drop (Int.toNat (↑i : Int) * 3) (List.flatMap rawC l))) (D.ptr (D.row (List.map iD V) (List.length V) :: D.row (List.map rowV R) (List.length R) :: D.row (List.map iD W) (List.length W) :: List.flatMap rawC (List.drop (i + 1) l))) (by simp (disch := omega) only [Int.toNat_natCast, List.cons_append, List.nil_append, hg2]) (ve (True ∧ 0 < List.length (D.row (List.map iD W) (List.length W) :: List.flatMap rawC (List.drop (i + 1) l))) (vF ((↑(List.length W) : Int) > (12 : Int)) (zG (zC (zD (zB (zA rfl (veT ?_)))))))))))))
    refine zF ?_
    rotate_left
   refine zW (fun (k : Nat) => fr 73 [(0, D.row (List.flatMap rawC l) (List.length l)), (3, iD ↑i), (4, iD ↑k)]) (fun (k : Nat) => []) (fun k => W.length - k) (fun (k : Nat) => k ≤ W.length ∧ ∀ j, j < k → j < W.length → decide (0 ≤ W.getD j 0 ∧ W.getD j 0 ≤ 1000) = true) 0 ?_ ?_ ?_
   ·exact ⟨by omega, fun j h => by omega⟩
   ·refine vk 0
   rintro k ⟨k1, k2⟩
   rcases Nat.lt_or_ge k W.length with k3 | k3
   ·have hneW : (W.map fun z => iD z) ≠ [] := zY (by omega)
    have hx := zCk W k k3
    have hbw : ¬ (0 ≤ W.getD k 0 ∧ W.getD k 0 ≤ 1000) → fewR ⟨V, R, W⟩ = false := fun hb => by
     unfold fewR
     rw [zTh (fun w => decide (0 ≤ w ∧ w ≤ 1000)) 0 W k k3 (decide_eq_false hb)]
     simp
    focus
     refine zB (zB (zA rfl (v0s (vr 4 (ix ↑i ↑(List.length l) (List.flatMap rawC l ≠ [])) (vs 43 (D.ptr (List.drop (Int.toNat (↑i : Int) * 3) (List.flatMap rawC l))) (D.ptr (D.row (List.map iD V) (List.length V) :: D.row (List.map rowV R) (List.length R) :: D.row (List.map iD W) (List.length W) :: List.flatMap rawC (List.drop (i + 1) l))) (by simp (disch := omega) only [Int.toNat_natCast, List.cons_append, List.nil_append, hg2]) (ve (True ∧ 0 < List.length (D.row (List.map iD W) (List.length W) :: List.flatMap rawC (List.drop (i + 1) l))) (vT ((↑k : Int) < ↑(List.length W)) (zG (zC (zD (zB (zF (zB ?_)))))))))))))
     refine zA rfl (vr 3 (ix ↑i ↑(List.length l) (List.flatMap rawC l ≠ [])) (vs 52 (D.ptr (List.drop (Int.toNat (↑i : Int) * 3) (List.flatMap rawC l))) (D.ptr (D.row (List.map iD V) (List.length V) :: D.row (List.map rowV R) (List.length R) :: D.row (List.map iD W) (List.length W) :: List.flatMap rawC (List.drop (i + 1) l))) (by simp (disch := omega) only [Int.toNat_natCast, List.cons_append, List.nil_append, hg2]) (vr 4 (True ∧ 0 < List.length (D.row (List.map iD W) (List.length W) :: List.flatMap rawC (List.drop (i + 1) l)) ∧ ix ↑k ↑(List.length W) (List.map iD W ≠ [])) (vp 56 k (List.map iD W) (vr 1 (0 < List.length (List.drop k (List.map iD W))) (vsh 57 hx (vrT 2 ?_)))))))
     refine vsp 59 (decide (List.getD W k (0 : Int) < 0)) (fun hc => ?_) (fun hc => ?_)
     simp only [decide_eq_true_eq] at hc
     refine veT (vt (zB (zA rfl (veT (zM (zN (zJ (zJ (zN (zN (zJ (zJ (zN ?_)))))))))))))
     refine zJ ?_
     refine vre (True) (D.val (Value.bool false)) (.inr rfl) ?_
     rotate_left
     simp only [decide_eq_false_iff_not] at hc
     refine vr 3 (ix ↑i ↑(List.length l) (List.flatMap rawC l ≠ [])) (vs 62 (D.ptr (List.drop (Int.toNat (↑i : Int) * 3) (List.flatMap rawC l))) (D.ptr (D.row (List.map iD V) (List.length V) :: D.row (List.map rowV R) (List.length R) :: D.row (List.map iD W) (List.length W) :: List.flatMap rawC (List.drop (i + 1) l))) (by simp (disch := omega) only [Int.toNat_natCast, List.cons_append, List.nil_append, hg2]) (vr 4 (True ∧ 0 < List.length (D.row (List.map iD W) (List.length W) :: List.flatMap rawC (List.drop (i + 1) l)) ∧ ix ↑k ↑(List.length W) (List.map iD W ≠ [])) (vp 66 k (List.map iD W) (vr 1 (0 < List.length (List.drop k (List.map iD W))) (vsh 67 hx (veT ?_))))))
     refine zR (t := decide (List.getD W k (0 : Int) > (1000 : Int))) (by kernel_rfl) (fun hc => ?_) (fun hc => ?_)
     simp only [decide_eq_true_eq] at hc
     refine zB (zA rfl (veT (zM (zN (zJ (zJ (zN (zN (zJ (zJ (zN (zJ ?_))))))))))))
     refine vre (True) (D.val (Value.bool false)) (.inr rfl) ?_
     rotate_left
     simp only [decide_eq_false_iff_not] at hc
     refine zG (zE (zC (zD (zA rfl (vr 3 (i6 (↑k + 1)) (vnil (zC ?_)))))))
     rotate_left
    ·rw [hno (hbw (by omega))]
    ·rw [hno (hbw (by omega))]
    ·refine ⟨k + 1, ⟨by omega, fun j hj hjl => ?_⟩, by omega, ?_⟩
     ·rcases Nat.lt_or_ge j k with h | h
      ·exact k2 j h hjl
      ·obtain rfl : j = k := by omega
       exact decide_eq_true (by omega)
     ·refine vk 0
   ·have hw := zFq (p := fun w : Int => decide (0 ≤ w ∧ w ≤ 1000)) (d := 0) k3 k2
    have hfr : fewR ⟨V, R, W⟩ = true := by
     unfold fewR
     rw [hw]; simp [b1, b2, b3]
    focus
     refine zB (zB (zA rfl (v0s (vr 4 (ix ↑i ↑(List.length l) (List.flatMap rawC l ≠ [])) (vs 43 (D.ptr (List.drop (Int.toNat (↑i : Int) * 3) (List.flatMap rawC l))) (D.ptr (D.row (List.map iD V) (List.length V) :: D.row (List.map rowV R) (List.length R) :: D.row (List.map iD W) (List.length W) :: List.flatMap rawC (List.drop (i + 1) l))) (by simp (disch := omega) only [Int.toNat_natCast, List.cons_append, List.nil_append, hg2]) (ve (True ∧ 0 < List.length (D.row (List.map iD W) (List.length W) :: List.flatMap rawC (List.drop (i + 1) l))) (vF ((↑k : Int) < ↑(List.length W)) (zQ (zH (zH (zP rfl (zE (zC ?_)))))))))))))
     refine zD (zA rfl (vr 3 (i6 (↑i + 1)) (vnil (zC ?_))))
     rotate_left
    refine ⟨i + 1, ⟨by omega, by omega, fun j hj => ?_⟩, by omega, ?_⟩
    ·rcases Nat.lt_or_ge j i with h | h
     ·exact h2 j h
     ·obtain rfl : j = i := by omega
      rw [hff]; exact hfr
    ·refine vk 0
  ·have hfr : fewR ⟨V, R, W⟩ = false := by
    unfold fewR
    rw [Bool.eq_false_iff]
    intro k
    simp only [Bool.and_eq_true, decide_eq_true_eq] at k
    exact hbad ⟨k.1, k.2.1, k.2.2.1⟩
   rw [hno hfr]
   focus
    refine zB (zB (zA rfl (v0s (vew [] [(4, true)] (decide ((↑i : Int) < ↑(List.length l)) = true) (vT ((↑i : Int) < (5 : Int)) (zG (zC (zD (zB (zF (zB (zB (zA rfl ?_)))))))))))))
    refine vr 3 (ix ↑i ↑(List.length l) (List.flatMap rawC l ≠ [])) (vs 17 (D.ptr (List.drop (Int.toNat (↑i : Int) * 3) (List.flatMap rawC l))) (D.ptr (D.row (List.map iD V) (List.length V) :: D.row (List.map rowV R) (List.length R) :: D.row (List.map iD W) (List.length W) :: List.flatMap rawC (List.drop (i + 1) l))) (by simp (disch := omega) only [Int.toNat_natCast, List.cons_append, List.nil_append, hg2]) (vr 5 (True ∧ 0 < List.length (D.row (List.map rowV R) (List.length R) :: D.row (List.map iD W) (List.length W) :: List.flatMap rawC (List.drop (i + 1) l))) ?_))
    refine vsp 22 (decide ((↑(List.length R) : Int) > (10 : Int))) (fun hc => ?_) (fun hc => ?_)
    simp only [decide_eq_true_eq] at hc
    refine veT (vt (zB (zA rfl (veT (zM (zJ (zN (zJ (zJ (zN (zJ (vret (True) (.inr rfl)))))))))))))
    simp only [decide_eq_false_iff_not] at hc
    refine vr 3 (ix ↑i ↑(List.length l) (List.flatMap rawC l ≠ [])) (vs 25 (D.ptr (List.drop (Int.toNat (↑i : Int) * 3) (List.flatMap rawC l))) (D.ptr (D.row (List.map iD V) (List.length V) :: D.row (List.map rowV R) (List.length R) :: D.row (List.map iD W) (List.length W) :: List.flatMap rawC (List.drop (i + 1) l))) (by simp (disch := omega) only [Int.toNat_natCast, List.cons_append, List.nil_append, hg2]) (vr 6 (True ∧ 0 < List.length (D.row (List.map iD V) (List.length V) :: D.row (List.map rowV R) (List.length R) :: D.row (List.map iD W) (List.length W) :: List.flatMap rawC (List.drop (i + 1) l))) ?_))
    refine vsp 31 (decide ((↑(List.length V) : Int) > (4 : Int))) (fun hc => ?_) (fun hc => ?_)
    simp only [decide_eq_true_eq] at hc
    refine veT (vt (zB (zA rfl (veT (zM (zJ (zN (zJ (zJ (zN (zJ (vret (True) (.inr rfl)))))))))))))
    simp only [decide_eq_false_iff_not] at hc
    refine vr 3 (ix ↑i ↑(List.length l) (List.flatMap rawC l ≠ [])) (vs 34 (D.ptr (List.drop (Int.toNat (↑i : Int) * 3) (List.flatMap rawC l))) (D.ptr (D.row (List.map iD V) (List.length V) :: D.row (List.map rowV R) (List.length R) :: D.row (List.map iD W) (List.length W) :: List.flatMap rawC (List.drop (i + 1) l))) (by simp (disch := omega) only [Int.toNat_natCast, List.cons_append, List.nil_append, hg2]) (ve (True ∧ 0 < List.length (D.row (List.map iD W) (List.length W) :: List.flatMap rawC (List.drop (i + 1) l))) (vT ((↑(List.length W) : Int) > (12 : Int)) (zB (zA rfl (veT (zM (zJ (zN (zJ (zJ (zN (zJ ?_)))))))))))))
    refine vret (True) (.inr rfl)
 ·rw [fewP_yes fun j j5 jl => h2 j (by omega)]
  have e4 : decide ((l.length : Int) ≤ 4) = decide (l.length ≤ 4) := by rw [decide_eq_decide]; omega
  focus
   refine zB (zB (zA rfl (v0s (vrT 5 ?_))))
   refine vsp 9 (decide ((↑i : Int) < ↑(List.length l))) (fun hc => ?_) (fun hc => ?_)
   simp only [decide_eq_true_eq] at hc
   refine veT (vF ((↑i : Int) < (5 : Int)) (zQ (zH (zH (zP rfl (zC (zD (zB (zA rfl (vrT 3 (vs 72 (bD (decide ((↑(List.length l) : Int) ≤ (4 : Int)))) (bD (decide (List.length l ≤ 4))) (by simp (disch := omega) only [e4]) (veT (zM ?_)))))))))))))
   refine vret (True) (.inr rfl)
   simp only [decide_eq_false_iff_not] at hc
   refine veT (vf (zQ (zH (zH (zP rfl (zC (zD (zB (zA rfl (vrT 3 (vs 72 (bD (decide ((↑(List.length l) : Int) ≤ (4 : Int)))) (bD (decide (List.length l ≤ 4))) (by simp (disch := omega) only [e4]) (veT (zM ?_)))))))))))))
   refine vret (True) (.inr rfl)
theorem ixI_ge (V : List Int) (v : Int) : 0 ≤ ixI V v ↔ v ∈ V := by
 unfold ixI
 split
 ·rename_i h; simp [h]
 ·rename_i h; simp [h]
set_option maxHeartbeats 4000000 in
theorem zXv (n : Nat) (fs : List Rn) (hn : n ≤ 1000) (hl : fs.length ≤ 1000) (hs : ∀ f ∈ fs, f.V.length ≤ 1000) : Pure Tryd.prog 34 [iD (n : Nat), .row (fs.flatMap rwD) fs.length] [] (bD (covP n fs)) := by
 refine zL zBo mixed Tryd.func34 rfl ?_
 focus
  refine zB (zA rfl (v0s (veT (zB (zB (zA rfl (veT (zF ?_))))))))
  rotate_left
 refine zW (fun (v : Nat) => fr 32 [(0, iD ↑n), (1, D.row (List.flatMap rwD fs) (List.length fs)), (5, iD ↑v)]) (fun (v : Nat) => []) (fun v => n - v) (fun (v : Nat) => v ≤ n ∧ ∀ j, j < v → (fs.any fun f => decide ((j : Int) ∈ f.V)) = true) 0 ?_ ?_ ?_
 ·exact ⟨by omega, fun j h => by omega⟩
 ·refine vk 0
 rintro v ⟨h1, h2⟩
 rcases Nat.lt_or_ge v n with h3 | h3
 ·focus
   refine zB (zB (zA rfl (v0s (veT (vT ((↑v : Int) < ↑n) (zG (zC (zD (zB (zF (zB (zA rfl (veT ?_)))))))))))))
   refine zB (zB (zA rfl (veT (zF ?_))))
   rotate_left
  refine zW (fun (i : Nat) => fr 32 [(0, iD ↑n), (1, D.row (List.flatMap rwD fs) (List.length fs)), (5, iD ↑v), (6, bD (List.any (List.take i fs) fun (f : Rn) => decide ((↑v : Int) ∈ Rn.V f))), (7, iD ↑i)]) (fun (i : Nat) => []) (fun i => fs.length - i) (fun (i : Nat) => i ≤ fs.length) 0 ?_ ?_ ?_
  ·omega
  ·refine vk 0
  rintro i k1
  rcases Nat.lt_or_ge i fs.length with k2 | k2
  ·have hm := zAt fs default i k2
   have hg2 := fl_at zEa fs i k2
   have hle := zJf zEa fs i k2
   have hne := zJe zEa (by decide) fs (by omega)
   have hsf := hs _ hm
   have htk : ((fs.take (i + 1)).any fun f => decide ((v : Int) ∈ f.V)) = (((fs.take i).any fun f => decide ((v : Int) ∈ f.V)) || decide ((v : Int) ∈ (fs.getD i default).V)) := by
    rw [zCi fs i k2, List.any_append]; simp
   generalize fs.getD i default = f at *
   obtain ⟨V, R, W⟩ := f
   have hix := zMo V _ v rfl (by simp only at hsf; omega)
   have hge := ixI_ge V v
   generalize ixI V v = x at *
   generalize (fs.take i).any (fun f => decide ((v : Int) ∈ f.V)) = b at *
   focus
    refine zB (zB (zA rfl (v0s (veT (vT ((↑i : Int) < ↑(List.length fs)) (zG (zC (zD (zB (zF (zA rfl (vrT 2 ?_))))))))))))
    refine vsp 20 (b) (fun hc => ?_) (fun hc => ?_)
    subst hc
    refine vrT 10 (vnil (zE (zC (zD (zA rfl (vr 3 (i6 (↑i + 1)) (vnil (zC ?_))))))))
    rotate_left
    subst hc
    refine vr 3 (ix ↑i ↑(List.length fs) (List.flatMap rwD fs ≠ [])) (vs 23 (D.ptr (List.drop (Int.toNat (↑i : Int) * 3) (List.flatMap rwD fs))) (D.ptr (D.row (List.map iD V) (List.length V) :: D.row (List.map rowV R) (List.length R) :: D.row (List.map iD (natI W)) (List.length (natI W)) :: List.flatMap rwD (List.drop (i + 1) fs))) (by simp (disch := omega) only [Int.toNat_natCast, List.cons_append, List.nil_append, hg2]) (vr 3 (True ∧ 0 < List.length (D.row (List.map iD V) (List.length V) :: D.row (List.map rowV R) (List.length R) :: D.row (List.map iD (natI W)) (List.length (natI W)) :: List.flatMap rwD (List.drop (i + 1) fs))) (vc hix (vrT 3 (vnil (zE (zC (zD (zA rfl (vr 3 (i6 (↑i + 1)) (vnil (zC ?_))))))))))))
    rotate_left
   ·refine ⟨i + 1, by omega, by omega, ?_⟩
    rw [htk, Bool.true_or]
    refine vk 0
   ·have hge2 : decide ((v : Int) ∈ V) = decide (x ≥ 0) := decide_eq_decide.2 hge.symm
    refine ⟨i + 1, by omega, by omega, ?_⟩
    rw [htk, Bool.false_or, hge2]
    refine vk 0
  ·rw [List.take_of_length_le k2]
   focus
    refine zB (zB (zA rfl (v0s (veT (vF ((↑i : Int) < ↑(List.length fs)) (zQ (zH (zH (zP rfl (zC (zD (zB (zA rfl ?_)))))))))))))
    refine veT ?_
    refine zR (t := !List.any fs fun (f : Rn) => decide ((↑v : Int) ∈ Rn.V f)) (by kernel_rfl) (fun hc => ?_) (fun hc => ?_)
    simp only [Bool.not_eq_true'] at hc
    refine zB (zA rfl (veT (zM (zN (zJ (zJ (zN (zJ ?_))))))))
    refine vre (True) (D.val (Value.bool false)) (.inr rfl) ?_
    rotate_left
    simp only [Bool.not_eq_false'] at hc
    refine zG (zE (zC (zD (zA rfl (vr 3 (i6 (↑v + 1)) (vnil (zC ?_)))))))
    rotate_left
   ·rw [show covP n fs = false from zWf h3 (by simpa using hc)]
   ·refine ⟨v + 1, ⟨by omega, fun j hj => ?_⟩, by omega, ?_⟩
    ·rcases Nat.lt_or_ge j v with h | h
     ·exact h2 j h
     ·obtain rfl : j = v := by omega
      simpa using hc
    ·refine vk 0
 ·focus
   refine zB (zB (zA rfl (v0s (veT (vF ((↑v : Int) < ↑n) (zQ (zH (zH (zP rfl (zC (zD (zB (zA rfl ?_)))))))))))))
   refine veT (zM ?_)
   refine vre (True) (D.val (Value.bool true)) (.inr rfl) ?_
   rotate_left
  rw [show covP n fs = true from zF2 fun j hj => h2 j (by omega)]
set_option maxHeartbeats 4000000 in
theorem wrong_c (n keep : Nat) (fs : List Rn) (hn : n ≤ 8) (hk : keep < 4294967296) (hl : fs.length ≤ 1000) (hs : ∀ f ∈ fs, Rsz f) : Pure Tryd.prog 12 [iD (n : Nat), u32D keep, .row (fs.flatMap rwD) fs.length] [] (iD (zBt n keep fs)) := by
 have w1 := zEv keep (v := n) (by omega)
 have w2 := zMf (n := n) (by omega)
 have ewr : zBt n keep fs = if keep >>> n ≠ 0 then 3 else if errL n fs ≠ 0 then errL n fs else if covP n fs then 0 else 22 := by
  unfold zBt
  rw [Int.toNat_natCast]
  by_cases h : keep >>> n ≠ 0
  ·rw [if_pos (.inr (.inr h)), if_pos h]
  ·rw [if_neg (by intro k; rcases k with k | k | k <;> first | omega | exact h k), if_neg h]
 generalize keep >>> n = kk at *
 have hcov := zXv n fs (by omega) hl fun f hf => (hs f hf).v
 refine zL zBo mixed Tryd.func12 rfl ?_
 focus
  refine zB (zA rfl (v0s (veT (zB (zB (zA rfl (vw 14 [] [(2, false), (6, false), (9, true)] (decide ((↑n : Int) < 0) = false ∧ decide ((↑n : Int) > (32 : Int)) = false ∧ decide ((↑n : Int) < (32 : Int)) = true ∧ u6 (↑n : Int) ∧ (0 : Int) ≤ (↑n : Int)) (vs 22 (D.val (Value.int IntKind.u32 (Int.fdiv (↑keep : Int) ((2 : Int) ^ min (Int.toNat (↑n : Int)) 32)))) (dig kk) (by simp (disch := omega) only [Int.toNat_natCast, w1]) (veT ?_)))))))))
  refine zR (t := (↑kk : Int) != (0 : Int)) (by kernel_rfl) (fun hc => ?_) (fun hc => ?_)
  simp only [bne_iff_ne] at hc
  refine zB (zA rfl (veT (zM (zJ ?_))))
  refine vre (True) (D.val (Value.int IntKind.i64 3)) (.inr rfl) ?_
  rotate_left
  simp only [bne_eq_false_iff_eq] at hc
  refine zG (zC (zD (zB (zB (zA rfl (veT (zF ?_)))))))
  rotate_left
 ·rw [ewr, if_pos (by omega)]
 refine zW (fun (i : Nat) => fr 45 [(0, iD ↑n), (2, D.row (List.flatMap rwD fs) (List.length fs)), (7, iD ↑i)]) (fun (i : Nat) => []) (fun i => fs.length - i) (fun (i : Nat) => i ≤ fs.length ∧ ∀ j, j < i → chkR n (fs.getD j default) = 0) 0 ?_ ?_ ?_
 ·exact ⟨by omega, fun j h => by omega⟩
 ·refine vk 0
 rintro i ⟨h1, h2⟩
 rcases Nat.lt_or_ge i fs.length with h3 | h3
 ·have hm := zAt fs default i h3
  have hg2 := zFw zEa fs i h3
  have hle := zJf zEa fs i h3
  have hne := zJe zEa (by decide) fs (by omega)
  have hsz := hs _ hm
  have hat := zRb h2 h3
  generalize hff : fs.getD i default = f at *
  obtain ⟨V, R, W⟩ := f
  have hch := zY9 n V R (natI W) (by have := hsz.v; simp only at this; omega) (by have := hsz.r; simp only at this; omega)
  rw [List.length_map] at hch
  by_cases e0 : chk n V R W.length = 0
  ·rw [e0] at hch
   focus
    refine zB (zB (zA rfl (v0s (veT (vT ((↑i : Int) < ↑(List.length fs)) (zG (zC (zD (zB (zF (zB (zA rfl (vr 5 (ix ↑i ↑(List.length fs) (List.flatMap rwD fs ≠ []) ∧ 3 ≤ List.length (List.drop (i * 3) (List.flatMap rwD fs))) ?_)))))))))))))
    refine vs 36 (D.agg (List.take 3 (List.drop (i * 3) (List.flatMap rwD fs)))) (D.agg (rwD (Rn.mk V R W))) (by simp (disch := omega) only [hg2]) (vc hch (veT (zB (zA rfl (veT (vf (zG (zE (zC (zD (zA rfl (vr 3 (i6 (↑i + 1)) (vnil ?_)))))))))))))
    refine zC ?_
    rotate_left
   refine ⟨i + 1, ⟨by omega, fun j hj => ?_⟩, by omega, ?_⟩
   ·rcases Nat.lt_or_ge j i with h | h
    ·exact h2 j h
    ·obtain rfl : j = i := by omega
     rw [hff]; exact e0
   ·refine vk 0
  ·have hat2 : errL n fs = chk n V R W.length := hat e0
   generalize chk n V R W.length = e at *
   focus
    refine zB (zB (zA rfl (v0s (veT (vT ((↑i : Int) < ↑(List.length fs)) (zG (zC (zD (zB (zF (zB (zA rfl (vr 5 (ix ↑i ↑(List.length fs) (List.flatMap rwD fs ≠ []) ∧ 3 ≤ List.length (List.drop (i * 3) (List.flatMap rwD fs))) ?_)))))))))))))
    refine vs 36 (D.agg (List.take 3 (List.drop (i * 3) (List.flatMap rwD fs)))) (D.agg (rwD (Rn.mk V R W))) (by simp (disch := omega) only [hg2]) (vc hch (veT (zB (zA rfl (veT (zEs (t := e != (0 : Int)) (by kernel_rfl) (by simpa using by omega) (zB (zA rfl (veT (zM (zN (zJ (zJ ?_)))))))))))))
    refine zN (zJ ?_)
    refine vre (True) (D.val (Value.int IntKind.i64 e)) (.inr rfl) ?_
    rotate_left
   rw [ewr, if_neg (by omega), if_pos (by omega), hat2]
 have h0 := zXn fun j hj => h2 j (by omega)
 generalize covP n fs = cv at *
 focus
  refine zB (zB (zA rfl (v0s (veT (vF ((↑i : Int) < ↑(List.length fs)) (zQ (zH (zH (zP rfl (zC (zD (zB (zB ?_)))))))))))))
  refine zA rfl (vrT 2 (vc hcov (veT ?_)))
  refine zR (t := !cv) (by kernel_rfl) (fun hc => ?_) (fun hc => ?_)
  simp only [Bool.not_eq_true'] at hc
  refine zB (zA rfl (veT (zM (zJ ?_))))
  refine vre (True) (D.val (Value.int IntKind.i64 22)) (.inr rfl) ?_
  rotate_left
  simp only [Bool.not_eq_false'] at hc
  refine zG (zC (zD (zB (zA rfl (veT (zM ?_))))))
  refine vre (True) (q2_) (.inr rfl) ?_
  rotate_left
 ·rw [ewr, if_neg (by omega), if_neg (by omega), if_neg (by simpa using hc)]
 ·rw [ewr, if_neg (by omega), if_neg (by omega), if_pos (by simpa using hc)]
end
section
open Go.RowKit
def ddp : List Va → List Va
 | [] => []
 | a :: l => if a ∈ ddp l then ddp l else a :: ddp l
theorem zK2 : ∀ {l : List Va} {a : Va}, a ∈ ddp l ↔ a ∈ l
 | [], a => by simp [ddp]
 | b :: l, a => by
  rw [ddp]
  split
  ·rename_i h
   rw [zK2, List.mem_cons]
   constructor
   ·exact .inr
   ·rintro (rfl | h2)
    ·exact zK2.1 h
    ·exact h2
  ·rw [List.mem_cons, List.mem_cons, zK2]
theorem zCm : ∀ l : List Va, (ddp l).Nodup
 | [] => by simp [ddp]
 | b :: l => by
  rw [ddp]
  split
  ·exact zCm l
  ·rename_i h; exact List.nodup_cons.2 ⟨h, zCm l⟩
def domP (fs : List Rn) : List Va := ddp (fs.flatMap fun f => f.R.flatten)
theorem domP_mem {fs : List Rn} {f : Rn} (hf : f ∈ fs) {x : Rw} (hx : x ∈ f.R) {a : Va} (ha : a ∈ x) : a ∈ domP fs :=
 zK2.2 (List.mem_flatMap.2 ⟨f, hf, List.mem_flatten.2 ⟨x, hx, ha⟩⟩)
theorem domP_ok {fs : List Rn} (hv : ∀ f ∈ fs, ∀ x ∈ f.R, ∀ a ∈ x, Vi a) (hk : ∀ f ∈ fs, ∀ x ∈ f.R, x.all vok = true) : Okv (domP fs) := fun a ha => by
 obtain ⟨f, hf, h1⟩ := List.mem_flatMap.1 (zK2.1 ha)
 obtain ⟨x, hx, h2⟩ := List.mem_flatten.1 h1
 have h3 := hv f hf x hx a h2
 have h4 := List.all_eq_true.1 (hk f hf x hx) a h2
 refine ⟨h4, ?_⟩
 obtain ⟨k1, k2, k3⟩ := h3
 simp only [inK] at k1 k2
 refine ⟨⟨k1.1, k1.2⟩, ⟨k2.1, k2.2⟩, ?_⟩
 unfold vok at h4
 split at h4
 ·have : a.str = [] := by simpa using h4
  rw [this]; simp
 ·split at h4
  ·simp only [Bool.and_eq_true, decide_eq_true_eq] at h4; omega
  ·cases h4
def toFa (f : Rn) : Fa Nat := ⟨f.V.map Int.toNat, f.R.zip f.W⟩
theorem zip_fst (R : List Rw) (W : List Nat) (h : R.length = W.length) : (R.zip W).map (·.1) = R := List.map_fst_zip (by omega)
theorem zip_snd (R : List Rw) (W : List Nat) (h : R.length = W.length) : (R.zip W).map (·.2) = W := List.map_snd_zip (by omega)
structure Tofa (Dm : List Va) (f : Rn) : Prop where
 c : rnC f = faAc (toFa f)
 w : rwD f = rfAc (toFa f)
 ok : FOk rcmp Dm (toFa f)
 r : rz (toFa f) ≤ 11
 v : vz (toFa f) ≤ 10001
 A : f.V = intL (toFa f).A
theorem zTo {l : List Nat} {b : Nat} (h : ∀ w ∈ l, w ≤ b) : l.sum ≤ l.length * b := by
 induction l with
 | nil => simp
 | cons a l ih =>
  have h1 := h a (List.mem_cons_self ..)
  have h2 := ih fun w hw => h w (List.mem_cons_of_mem _ hw)
  rw [List.sum_cons, List.length_cons, Nat.succ_mul]; omega
theorem tofa {n : Int} {Dm : List Va} {f : Rn} (hn : n ≤ 32) (h : chkR n f = 0) (hs : Rsm f) (hd : ∀ x ∈ f.R, ∀ a ∈ x, a ∈ Dm) : Tofa Dm f := by
 obtain ⟨V, R, W⟩ := f
 obtain ⟨A, hA, hfit⟩ := zF6 h
 have hA : V = intL A := hA
 subst hA
 have eA : ((intL A).map fun z => iD z) = nsD A := by simp [intL]
 have hm : R.length = W.length := hfit.m
 have z1 := zip_fst R W hm
 have z2 := zip_snd R W hm
 have zl : (R.zip W).length = R.length := by rw [← z1, List.length_map, z1]
 have tA : (intL A).map Int.toNat = A := zDs A
 have et : toFa ⟨intL A, R, W⟩ = ⟨A, R.zip W⟩ := by unfold toFa; simp only [tA]
 have hR : R.length ≤ 10 := hs.r
 refine ⟨?_, ?_, ?_, ?_, ?_, ?_⟩
 ·rw [et]
  show [D.row ((intL A).map fun z => iD z) (intL A).length, .row (R.map rowV) R.length, .row (W.map natD) W.length] = [.row (nsD A) A.length, .row (((R.zip W).map (·.1)).map rowV) (R.zip W).length, .row (((R.zip W).map (·.2)).map natD) (R.zip W).length]
  rw [eA, z1, z2, zl, List.length_map, hm]
 ·rw [et]
  show [D.row ((intL A).map fun z => iD z) (intL A).length, .row (R.map rowV) R.length, .row ((natI W).map fun z => iD z) (natI W).length] = [.row (nsD A) A.length, .row (((R.zip W).map (·.1)).map rowV) (R.zip W).length, .row (nsD ((R.zip W).map (·.2))) (R.zip W).length]
  rw [eA, zLx, z1, z2, zl, List.length_map, List.length_map, hm]
 ·rw [et]
  have hmem : ∀ p ∈ R.zip W, p.1 ∈ R := fun p hp => by rw [← z1]; exact List.mem_map.2 ⟨p, hp, rfl⟩
  refine ⟨⟨hfit.asc, fun v hv => by have := hfit.lt v hv; omega⟩, fun p hp => hfit.len p.1 (hmem p hp), ?_, fun p hp a ha => hd p.1 (hmem p hp) a ha⟩
  have := hfit.srt
  rw [← z1] at this
  exact List.pairwise_map.1 this
 ·rw [et]; unfold rz; simp only [zl]; omega
 ·rw [et]
  unfold vz
  simp only [z2]
  have h1 := zTo (l := W) (b := 1000) hs.b
  omega
 ·rw [et]
theorem zP3 {n : Int} {fs : List Rn} (hn : n ≤ 32) (h : errL n fs = 0) (hs : ∀ f ∈ fs, Rsm f) : ∀ f ∈ fs, Tofa (domP fs) f := fun f hf =>
 tofa hn (zFo h f hf) (hs f hf) fun x hx a ha => domP_mem hf hx ha
theorem zS7 {n : Int} {fs : List Rn} (h : errL n fs = 0) (hv : ∀ f ∈ fs, ∀ x ∈ f.R, ∀ a ∈ x, Vi a) : Okv (domP fs) :=
 domP_ok hv fun f hf x hx => by
  obtain ⟨A, hA, hfit⟩ := zF6 (zFo h f hf)
  exact hfit.vok x hx
theorem flat_c {Dm : List Va} : ∀ {fs : List Rn}, (∀ f ∈ fs, Tofa Dm f) → fs.flatMap rnC = (fs.map toFa).flatMap faAc ∧ fs.flatMap rwD = (fs.map toFa).flatMap rfAc
 | [], _ => ⟨rfl, rfl⟩
 | f :: fs, h => by
  obtain ⟨h1, h2⟩ := flat_c fun g hg => h g (List.mem_cons_of_mem _ hg)
  have h3 := h f (List.mem_cons_self ..)
  constructor
  ·rw [List.flatMap_cons, h1, h3.c]; rfl
  ·rw [List.flatMap_cons, h2, h3.w]; rfl
theorem pz_le {α : Type} {z : α → Nat} {b : Nat} : ∀ {l : List α}, (∀ a ∈ l, z a ≤ b) → pz z l ≤ b ^ l.length
 | [], _ => by simp [pz]
 | a :: l, h => by
  rw [zBv, List.length_cons, Nat.pow_succ, Nat.mul_comm]
  exact Nat.mul_le_mul (pz_le fun c hc => h c (List.mem_cons_of_mem _ hc)) (h a (List.mem_cons_self ..))
theorem sizes {Dm : List Va} {fs : List Rn} (hl : fs.length ≤ 4) (h : ∀ f ∈ fs, Tofa Dm f) : 2 * pz rz (fs.map toFa) ≤ 900000 ∧ 2 * pz vz (fs.map toFa) ≤ 4000000000000000000 := by
 have h1 := pz_le (z := rz) (b := 11) (l := fs.map toFa) fun a ha => by
  obtain ⟨f, hf, rfl⟩ := List.mem_map.1 ha
  exact (h f hf).r
 have h2 := pz_le (z := vz) (b := 10001) (l := fs.map toFa) fun a ha => by
  obtain ⟨f, hf, rfl⟩ := List.mem_map.1 ha
  exact (h f hf).v
 rw [List.length_map] at h1 h2
 have h3 : 11 ^ fs.length ≤ 11 ^ 4 := Nat.pow_le_pow_right (by omega) hl
 have h4 : 10001 ^ fs.length ≤ 10001 ^ 4 := Nat.pow_le_pow_right (by omega) hl
 have e1 : 11 ^ 4 = 14641 := by decide
 have e2 : 10001 ^ 4 = 10004000600040001 := by decide
 omega
theorem cov_fa {Dm : List Va} {n : Nat} {fs : List Rn} (hc : covP n fs = true) (h : ∀ f ∈ fs, Tofa Dm f) : ∀ v, v < n → ∃ f ∈ fs.map toFa, v ∈ f.A := fun v hv => by
 unfold covP at hc
 rw [List.all_eq_true] at hc
 have := hc v (by simpa using hv)
 rw [List.any_eq_true] at this
 obtain ⟨f, h1, h2⟩ := this
 refine ⟨toFa f, List.mem_map.2 ⟨f, h1, rfl⟩, ?_⟩
 rw [(h f h1).A] at h2
 exact zCx.1 (by simpa using h2)
end
section
open Go.RowKit
set_option maxRecDepth 4096
theorem Rsm.z {f : Rn} (h : Rsm f) : Rsz f := ⟨by have := h.v; omega, by have := h.r; omega⟩
theorem zRr {n keep : Nat} {fs : List Rn} (h : zBt n keep fs = 0) : n ≤ 32 ∧ keep >>> n = 0 ∧ errL n fs = 0 ∧ covP n fs = true := by
 unfold zBt at h
 rw [Int.toNat_natCast] at h
 split at h
 ·cases h
 rename_i h1
 simp only [not_or, Classical.not_not] at h1
 split at h
 ·omega
 rename_i h2
 split at h
 ·rename_i h3
  exact ⟨by omega, h1.2.2, by omega, h3⟩
 ·cases h
structure Mg (n keep : Nat) (fs : List Rn) (m : Fa Nat) : Prop where
 e : m = refS rcmp Sn (refP rcmp Sn (zAq Sn) (fs.map toFa)) ((List.range n).filter fun v => !keep.testBit v)
 ok : FOk rcmp (domP fs) m
 r : rz m ≤ 900000
 v : vz m ≤ 4000000000000000000
 A : ∀ v, v ∈ m.A ↔ v < n ∧ keep.testBit v = true
 p : Pure Tryd.prog 9 [cntD, iD (n : Nat), u32D keep, .row (fs.flatMap rnC) fs.length] [] (.tup [faA m, iD 0])
 q : Pure Tryd.prog 15 [iD (n : Nat), u32D keep, .row (fs.flatMap rwD) fs.length] [] (rfA m)
theorem zGp {n keep : Nat} {fs : List Rn} (hn : n ≤ 8) (hk : keep < 4294967296) (hl : fs.length ≤ 4) (hs : ∀ f ∈ fs, Rsm f) (hv : ∀ f ∈ fs, ∀ x ∈ f.R, ∀ a ∈ x, Vi a) (h0 : zBt n keep fs = 0) : ∃ m, Mg n keep fs m := by
 obtain ⟨_, _, h1, h2⟩ := zRr h0
 have ht := zP3 (by omega) h1 hs
 have hD := zS7 h1 hv
 obtain ⟨c1, c2⟩ := flat_c ht
 obtain ⟨s1, s2⟩ := sizes hl ht
 have hcv := cov_fa h2 ht
 have hok : ∀ g ∈ fs.map toFa, FOk rcmp (domP fs) g := fun g hg => by
  obtain ⟨f, hf, rfl⟩ := List.mem_map.1 hg
  exact (ht f hf).ok
 have hlt : ∀ g ∈ fs.map toFa, ∀ v ∈ g.A, v < n := fun g hg v hgv => by
  obtain ⟨f, hf, rfl⟩ := List.mem_map.1 hg
  obtain ⟨A, hA, hfit⟩ := zF6 (zFo h1 f hf)
  have e := (ht f hf).A
  have : (v : Int) ∈ f.V := by rw [e]; exact zCx.2 hgv
  rw [hA] at this
  have := hfit.lt v (zCx.1 this)
  omega
 have hck := zVj n keep fs hn hk (by omega) fun f hf => (hs f hf).z
 rw [h0, c1] at hck
 have hln : (fs.map toFa).length = fs.length := by simp
 have hEn : ((List.range n).filter fun v => !keep.testBit v).Nodup := List.nodup_range.filter _
 have hEc : ∀ v ∈ (List.range n).filter (fun v => !keep.testBit v), ∃ f ∈ fs.map toFa, v ∈ f.A := fun v h => hcv v (by have := (List.mem_filter.1 h).1; simpa using this)
 have hm := zT8 hD (zCm _) n keep (fs.map toFa) hn hk hok (by omega) s1 s2 hcv (by rw [hln]; exact hck)
 have hq := rmarg_c n keep (fs.map toFa) (by omega) hk hok (by omega) s1 s2 hcv
 have he := zZz (pop := popN) (S := Sn) rcw (zCm _) hEn (.refl _) hok hEc
 have hA := zW2 (pop := popN) (S := Sn) rcw (zCm _) hEn hok hEc
 rw [hln] at hm hq
 rw [← c1] at hm
 rw [← c2] at hq
 have z1 := zJ6 (S := Sn) (z := rz) (zHj (c := rcmp) Sn) (fs.map toFa) (zAq Sn)
 have z2 := zJ6 (S := Sn) (z := vz) (zHi (c := rcmp)) (fs.map toFa) (zAq Sn)
 have z3 := zJ5 (S := Sn) (z := rz) (zM7 (c := rcmp) Sn) ((List.range n).filter fun v => !keep.testBit v) (refP rcmp Sn (zAq Sn) (fs.map toFa))
 have z4 := zJ5 (S := Sn) (z := vz) (fun v f => Nat.le_of_eq (zM6 (c := rcmp) v f)) ((List.range n).filter fun v => !keep.testBit v) (refP rcmp Sn (zAq Sn) (fs.map toFa))
 have h8 : rz (zAq Sn) = 2 := rfl
 have h9 : vz (zAq Sn) = 2 := rfl
 rw [h8] at z1
 rw [h9] at z2
 rw [he] at hm hA
 refine ⟨_, rfl, ?_, by omega, by omega, fun v => ?_, hm, hq⟩
 ·exact zG4 rcw _ _ (zG5 rcw _ _ zEu hok)
 ·rw [hA]
  constructor
  ·rintro ⟨⟨f, hf, h3⟩, h4⟩
   have := hlt f hf v h3
   refine ⟨this, ?_⟩
   simpa [this] using h4
  ·rintro ⟨h3, h4⟩
   exact ⟨hcv v h3, by simp [h4]⟩
end
section
open Go.RowKit
attribute [local irreducible] seqW awp zAf zAo zAg Weak updS zAw retL Pure Acts rP setP setQ cP nP fr
set_option maxRecDepth 4096
abbrev exV (n : Int) : Va := ⟨1, n, []⟩
theorem zJd (n : Int) : Pure Tryd.prog 28 [iD n] [] (.agg [iD 1, iD n, strD []]) := by
 refine zL zBo mixed Tryd.func28 rfl ?_
 refine zB (zA rfl (v0s (veT (zB (zA rfl (ve (((1 = 1 ∧ 1 ≤ 3 ∧ 1 = 1 ∧ 2 ≤ 3 ∧ True) ∧ true = true) ∧ false = false ∧ true = true ∧ 3 = 3 ∧ 3 ≤ 3) (zM (vret (3 ≤ 3) (.inr rfl)))))))))
abbrev exA (o : Nat) : Rn := ⟨[0, 1], [[exV 1, exV 1], [exV 1, exV 2]], [o, o]⟩
abbrev exB (o : Nat) : Rn := ⟨[1, 2], [[exV 1, exV 5], [exV 2, exV 5], [exV 2, exV 6]], [o, o, o]⟩
abbrev exF (o : Nat) : List Rn := [exA o, exB o]
abbrev zLi (a b : Int) : D := .row [iD 1, iD a, strD [], iD 1, iD b, strD []] 2
abbrev exDA : D := .agg [.row [iD 0, iD 1] 2, .row [zLi 1 1, zLi 1 2] 2, .row [iD 1, iD 1] 2]
abbrev exDB : D := .agg [.row [iD 1, iD 2] 2, .row [zLi 1 5, zLi 2 5, zLi 2 6] 3, .row [iD 1, iD 1, iD 1] 3]
def Te : Par := ⟨fun _ => false, fun _ _ => none, fun _ => false, fun _ => false, fun t => t == 72⟩
theorem Te_ok : zBi Tryd.prog Te := by intro t n f h; cases h
abbrev q12_ := D.agg [D.osl 2 0 2 2 true, D.osl 5 0 2 2 true, D.osl 6 0 2 2 true]
abbrev q18_ := D.val (Value.string (bs []))
abbrev q13_ := D.agg [iD 1, iD 1, q18_]
abbrev q14_ := D.agg [iD 1, iD 5, q18_]
abbrev q15_ := D.agg [iD 1, iD 2, q18_]
abbrev q16_ := D.agg [iD 1, iD 6, q18_]
abbrev q17_ := D.agg [D.osl 8 0 2 2 true, D.osl 12 0 3 3 true, D.osl 13 0 3 3 true]
theorem zXl : Pure Tryd.prog 27 [] [] (.tup [exDA, exDB]) := by
 refine zL Te_ok mixed Tryd.func27 rfl ?_
 focus
  refine zB (zA rfl (v0s (veT (zB (zA rfl (vr 1 ((1 = 1 ∧ 1 ≤ 2 ∧ 1 = 1 ∧ 2 ≤ 2 ∧ True) ∧ 0 < 1 ∧ 1 = 1 ∧ 2 ≤ 16777216 ∧ 2 ≤ 9223372036854775807) (vc (zJd 1) (vc (zJd 1) (vr 1 ((3 = 3 ∧ 3 ≤ 6 ∧ 3 = 3 ∧ 6 ≤ 6 ∧ True) ∧ 0 < 3 ∧ 3 = 3 ∧ 6 ≤ 16777216 ∧ 2 ≤ 9223372036854775807) (vc (zJd 1) (vc (zJd 2) (ve (((3 = 3 ∧ 3 ≤ 6 ∧ 3 = 3 ∧ 6 ≤ 6 ∧ True) ∧ 0 < 3 ∧ 3 = 3 ∧ 6 ≤ 16777216 ∧ 2 ≤ 9223372036854775807) ∧ ((1 = 1 ∧ 1 ≤ 2 ∧ 1 = 1 ∧ 2 ≤ 2 ∧ True) ∧ 0 < 1 ∧ 1 = 1 ∧ 2 ≤ 16777216 ∧ 2 ≤ 9223372036854775807) ∧ ((1 = 1 ∧ 1 ≤ 2 ∧ 1 = 1 ∧ 2 ≤ 2 ∧ True) ∧ 0 < 1 ∧ 1 = 1 ∧ 2 ≤ 16777216 ∧ 2 ≤ 9223372036854775807) ∧ ((1 = 1 ∧ 1 ≤ 3 ∧ 1 = 1 ∧ 2 ≤ 3 ∧ 1 = 1 ∧ 3 ≤ 3 ∧ True) ∧ true = true) ∧ false = false ∧ true = true ∧ 3 = 3 ∧ 3 ≤ 3) (zB ?_)))))))))))))
  refine zD1 [0, 1, 2, 3, 4, 5, 6, 7, 8, 9, 10, 11, 12, 13] [(14, [(1, 8), (4, 9), (7, 10), (10, 11), (11, 12), (12, 13), (13, 100000)], [15])] (by kernel_rfl) rfl ?_
  refine vr 2 (3 ≤ 3 ∧ (1 = 1 ∧ 1 ≤ 2 ∧ 1 = 1 ∧ 2 ≤ 2 ∧ True) ∧ 0 < 1 ∧ 1 = 1 ∧ 2 ≤ 16777216 ∧ 2 ≤ 9223372036854775807) (vc (zJd 1) (vc (zJd 5) (vr 1 ((3 = 3 ∧ 3 ≤ 6 ∧ 3 = 3 ∧ 6 ≤ 6 ∧ True) ∧ 0 < 3 ∧ 3 = 3 ∧ 6 ≤ 16777216 ∧ 2 ≤ 9223372036854775807) (vc (zJd 2) (vc (zJd 5) (vr 1 ((3 = 3 ∧ 3 ≤ 6 ∧ 3 = 3 ∧ 6 ≤ 6 ∧ True) ∧ 0 < 3 ∧ 3 = 3 ∧ 6 ≤ 16777216 ∧ 2 ≤ 9223372036854775807) (vc (zJd 2) (vc (zJd 6) (vr 4 (((3 = 3 ∧ 3 ≤ 6 ∧ 3 = 3 ∧ 6 ≤ 6 ∧ True) ∧ 0 < 3 ∧ 3 = 3 ∧ 6 ≤ 16777216 ∧ 2 ≤ 9223372036854775807) ∧ ((1 = 1 ∧ 1 ≤ 3 ∧ 1 = 1 ∧ 2 ≤ 3 ∧ 1 = 1 ∧ 3 ≤ 3 ∧ True) ∧ 0 < 1 ∧ 1 = 1 ∧ 3 ≤ 16777216 ∧ 3 ≤ 9223372036854775807) ∧ ((1 = 1 ∧ 1 ≤ 3 ∧ 1 = 1 ∧ 2 ≤ 3 ∧ 1 = 1 ∧ 3 ≤ 3 ∧ True) ∧ 0 < 1 ∧ 1 = 1 ∧ 3 ≤ 16777216 ∧ 3 ≤ 9223372036854775807) ∧ (1 = 1 ∧ 1 ≤ 3 ∧ 1 = 1 ∧ 2 ≤ 3 ∧ 1 = 1 ∧ 3 ≤ 3 ∧ True) ∧ true = true) (vnil (zD7 rfl rfl (by kernel_rfl) (vr 1 (false = false ∧ true = true ∧ 3 = 3 ∧ 3 ≤ 3) (vnil ?_)))))))))))))
  refine zD6 (C := ((1 = 1 ∧ 1 ≤ 2 ∧ 1 = 1 ∧ 2 ≤ 2 ∧ True) ∧ 0 < 1 ∧ 1 = 1 ∧ 2 ≤ 16777216 ∧ 2 ≤ 9223372036854775807) ∧ [D.own 0 0, D.own 1 0, D.own 7 0, Uk, Uk, Uk, Uk, Uk, Uk, Uk, Uk, Uk, Uk, q12_, D.osl 8 0 2 2 true, q13_, q14_, D.osl 9 0 2 6 true, q15_, q14_, D.osl 10 0 2 6 true, q15_, q16_, D.osl 11 0 2 6 true, D.osl 12 0 3 3 true, D.osl 13 0 3 3 true, q17_][14]? = some (D.osl 8 0 2 2 true) ∧ eqDL [iD 1, iD 2] [iD 1, iD 2] ∧ 3 = 3 ∧ 1 = 1 ∧ true = true ∧ Bk.kd (Bk.mk [iD 1, iD 2] 3 1 true false Kd.plain) = Kd.plain ∧ ((3 = 3 ∧ 3 ≤ 6 ∧ 3 = 3 ∧ 6 ≤ 6 ∧ True) ∧ 0 < 3 ∧ 3 = 3 ∧ 6 ≤ 16777216 ∧ 2 ≤ 9223372036854775807) ∧ [D.own 0 0, D.own 1 0, D.own 7 0, Uk, Uk, Uk, Uk, Uk, Uk, Uk, Uk, Uk, Uk, q12_, D.osl 8 0 2 2 true, q13_, q14_, D.osl 9 0 2 6 true, q15_, q14_, D.osl 10 0 2 6 true, q15_, q16_, D.osl 11 0 2 6 true, D.osl 12 0 3 3 true, D.osl 13 0 3 3 true, q17_][17]? = some (D.osl 9 0 2 6 true) ∧ eqDL [iD 1, iD 1, q18_, iD 1, iD 5, q18_] [iD 1, iD 1, q18_, iD 1, iD 5, q18_] ∧ 69 = 69 ∧ 3 = 3 ∧ true = true ∧ Bk.kd (Bk.mk [iD 1, iD 1, q18_, iD 1, iD 5, q18_] 69 3 true false Kd.plain) = Kd.plain ∧ ((3 = 3 ∧ 3 ≤ 6 ∧ 3 = 3 ∧ 6 ≤ 6 ∧ True) ∧ 0 < 3 ∧ 3 = 3 ∧ 6 ≤ 16777216 ∧ 2 ≤ 9223372036854775807) ∧ [D.own 0 0, D.own 1 0, D.own 7 0, Uk, Uk, Uk, Uk, Uk, Uk, Uk, Uk, Uk, Uk, q12_, D.osl 8 0 2 2 true, q13_, q14_, D.osl 9 0 2 6 true, q15_, q14_, D.osl 10 0 2 6 true, q15_, q16_, D.osl 11 0 2 6 true, D.osl 12 0 3 3 true, D.osl 13 0 3 3 true, q17_][20]? = some (D.osl 10 0 2 6 true) ∧ eqDL [iD 1, iD 2, q18_, iD 1, iD 5, q18_] [iD 1, iD 2, q18_, iD 1, iD 5, q18_] ∧ 69 = 69 ∧ 3 = 3 ∧ true = true ∧ Bk.kd (Bk.mk [iD 1, iD 2, q18_, iD 1, iD 5, q18_] 69 3 true false Kd.plain) = Kd.plain ∧ ((3 = 3 ∧ 3 ≤ 6 ∧ 3 = 3 ∧ 6 ≤ 6 ∧ True) ∧ 0 < 3 ∧ 3 = 3 ∧ 6 ≤ 16777216 ∧ 2 ≤ 9223372036854775807) ∧ [D.own 0 0, D.own 1 0, D.own 7 0, Uk, Uk, Uk, Uk, Uk, Uk, Uk, Uk, Uk, Uk, q12_, D.osl 8 0 2 2 true, q13_, q14_, D.osl 9 0 2 6 true, q15_, q14_, D.osl 10 0 2 6 true, q15_, q16_, D.osl 11 0 2 6 true, D.osl 12 0 3 3 true, D.osl 13 0 3 3 true, q17_][23]? = some (D.osl 11 0 2 6 true) ∧ eqDL [iD 1, iD 2, q18_, iD 1, iD 6, q18_] [iD 1, iD 2, q18_, iD 1, iD 6, q18_] ∧ 69 = 69 ∧ 3 = 3 ∧ true = true ∧ Bk.kd (Bk.mk [iD 1, iD 2, q18_, iD 1, iD 6, q18_] 69 3 true false Kd.plain) = Kd.plain ∧ ((1 = 1 ∧ 1 ≤ 3 ∧ 1 = 1 ∧ 2 ≤ 3 ∧ 1 = 1 ∧ 3 ≤ 3 ∧ True) ∧ 0 < 1 ∧ 1 = 1 ∧ 3 ≤ 16777216 ∧ 3 ≤ 9223372036854775807) ∧ [D.own 0 0, D.own 1 0, D.own 7 0, Uk, Uk, Uk, Uk, Uk, Uk, Uk, Uk, Uk, Uk, q12_, D.osl 8 0 2 2 true, q13_, q14_, D.osl 9 0 2 6 true, q15_, q14_, D.osl 10 0 2 6 true, q15_, q16_, D.osl 11 0 2 6 true, D.osl 12 0 3 3 true, D.osl 13 0 3 3 true, q17_][24]? = some (D.osl 12 0 3 3 true) ∧ eqDL [D.osl 9 0 2 6 true, D.osl 10 0 2 6 true, D.osl 11 0 2 6 true] [D.osl 9 0 2 6 true, D.osl 10 0 2 6 true, D.osl 11 0 2 6 true] ∧ 72 = 72 ∧ 1 = 1 ∧ true = true ∧ Bk.kd (Bk.mk [D.osl 9 0 2 6 true, D.osl 10 0 2 6 true, D.osl 11 0 2 6 true] 72 1 true false Kd.sh) = Kd.sh ∧ ((1 = 1 ∧ 1 ≤ 3 ∧ 1 = 1 ∧ 2 ≤ 3 ∧ 1 = 1 ∧ 3 ≤ 3 ∧ True) ∧ 0 < 1 ∧ 1 = 1 ∧ 3 ≤ 16777216 ∧ 3 ≤ 9223372036854775807) ∧ [D.own 0 0, D.own 1 0, D.own 7 0, Uk, Uk, Uk, Uk, Uk, Uk, Uk, Uk, Uk, Uk, q12_, D.osl 8 0 2 2 true, q13_, q14_, D.osl 9 0 2 6 true, q15_, q14_, D.osl 10 0 2 6 true, q15_, q16_, D.osl 11 0 2 6 true, D.osl 12 0 3 3 true, D.osl 13 0 3 3 true, q17_][25]? = some (D.osl 13 0 3 3 true) ∧ eqDL [iD 1, iD 1, iD 1] [iD 1, iD 1, iD 1] ∧ 3 = 3 ∧ 1 = 1 ∧ true = true ∧ Bk.kd (Bk.mk [iD 1, iD 1, iD 1] 3 1 true false Kd.plain) = Kd.plain ∧ ((1 = 1 ∧ 1 ≤ 3 ∧ 1 = 1 ∧ 2 ≤ 3 ∧ 1 = 1 ∧ 3 ≤ 3 ∧ True) ∧ true = true) ∧ [D.own 0 0, D.own 1 0, D.own 7 0, Uk, Uk, Uk, Uk, Uk, Uk, Uk, Uk, Uk, Uk, q12_, D.osl 8 0 2 2 true, q13_, q14_, D.osl 9 0 2 6 true, q15_, q14_, D.osl 10 0 2 6 true, q15_, q16_, D.osl 11 0 2 6 true, D.osl 12 0 3 3 true, D.osl 13 0 3 3 true, q17_][26]? = some (q17_)) (by kernel_rfl) ⟨⟨⟨(by kernel_rfl), ⟨(by omega), ⟨(by kernel_rfl), ⟨(by omega), trivial⟩⟩⟩⟩, (by omega)⟩, (by kernel_rfl), rfl, (by kernel_rfl), (by kernel_rfl), (by kernel_rfl), (by kernel_rfl), ⟨⟨(by kernel_rfl), ⟨(by omega), ⟨(by kernel_rfl), ⟨(by omega), trivial⟩⟩⟩⟩, (by omega)⟩, (by kernel_rfl), rfl, (by kernel_rfl), (by kernel_rfl), (by kernel_rfl), (by kernel_rfl), ⟨⟨(by kernel_rfl), ⟨(by omega), ⟨(by kernel_rfl), ⟨(by omega), trivial⟩⟩⟩⟩, (by omega)⟩, (by kernel_rfl), rfl, (by kernel_rfl), (by kernel_rfl), (by kernel_rfl), (by kernel_rfl), ⟨⟨(by kernel_rfl), ⟨(by omega), ⟨(by kernel_rfl), ⟨(by omega), trivial⟩⟩⟩⟩, (by omega)⟩, (by kernel_rfl), rfl, (by kernel_rfl), (by kernel_rfl), (by kernel_rfl), (by kernel_rfl), ⟨⟨(by kernel_rfl), ⟨(by omega), ⟨(by kernel_rfl), ⟨(by omega), ⟨(by kernel_rfl), ⟨(by omega), trivial⟩⟩⟩⟩⟩⟩, (by omega)⟩, (by kernel_rfl), rfl, (by kernel_rfl), (by kernel_rfl), (by kernel_rfl), (by kernel_rfl), ⟨⟨(by kernel_rfl), ⟨(by omega), ⟨(by kernel_rfl), ⟨(by omega), ⟨(by kernel_rfl), ⟨(by omega), trivial⟩⟩⟩⟩⟩⟩, (by omega)⟩, (by kernel_rfl), rfl, (by kernel_rfl), (by kernel_rfl), (by kernel_rfl), (by kernel_rfl), ⟨⟨(by kernel_rfl), ⟨(by omega), ⟨(by kernel_rfl), ⟨(by omega), ⟨(by kernel_rfl), ⟨(by omega), trivial⟩⟩⟩⟩⟩⟩, (by kernel_rfl)⟩, (by kernel_rfl)⟩ (by kernel_rfl) ?_
  refine vr 1 (false = false ∧ true = true ∧ 3 = 3 ∧ 3 ≤ 3) (vnil (zGg (zC (zD (zM (vret (3 ≤ 3 ∧ 3 ≤ 3) (.inr rfl)))))))
abbrev exCA (o : Nat) : List D := [.row [iD 0, iD 1] 2, .row [zLi 1 1, zLi 1 2] 2, .row [natD o, natD o] 2]
abbrev exCB (o : Nat) : List D := [.row [iD 1, iD 2] 2, .row [zLi 1 5, zLi 2 5, zLi 2 6] 3, .row [natD o, natD o, natD o] 3]
theorem cntA_c (o : Nat) (ho : o = 1) : Pure Tryd.prog 18 [exDA] [] (.agg (exCA o)) := by
 have h := zRf (exA o) (by simp) (by simp [ho])
 have e : rawD (rnR (exA o)) = exDA := by subst ho; rfl
 rw [e] at h
 exact h
theorem cntB_c (o : Nat) (ho : o = 1) : Pure Tryd.prog 18 [exDB] [] (.agg (exCB o)) := by
 have h := zRf (exB o) (by simp) (by simp [ho])
 have e : rawD (rnR (exB o)) = exDB := by subst ho; rfl
 rw [e] at h
 exact h
theorem exF_s (o : Nat) (ho : o = 1) : ∀ f ∈ exF o, Rsm f := by
 subst ho
 intro f hf
 rcases List.mem_cons.1 hf with rfl | hf
 ·exact ⟨by decide, by decide, by decide, by decide⟩
 ·rcases List.mem_cons.1 hf with rfl | hf
  ·exact ⟨by decide, by decide, by decide, by decide⟩
  ·cases hf
theorem exF_v (o : Nat) (ho : o = 1) : ∀ f ∈ exF o, ∀ x ∈ f.R, ∀ a ∈ x, Vi a := by
 have hv : ∀ n : Int, inK .i64 n → Vi (exV n) := fun n hn => ⟨by simp [inK], hn, by simp⟩
 intro f hf x hx a ha
 have : a = exV 1 ∨ a = exV 2 ∨ a = exV 5 ∨ a = exV 6 := by
  simp only [exF, List.mem_cons, List.not_mem_nil, or_false] at hf
  rcases hf with rfl | rfl
  ·simp only [List.mem_cons, List.not_mem_nil, or_false] at hx
   rcases hx with rfl | rfl <;> simp only [List.mem_cons, List.not_mem_nil, or_false] at ha <;> rcases ha with rfl | rfl <;> simp
  ·simp only [List.mem_cons, List.not_mem_nil, or_false] at hx
   rcases hx with rfl | rfl | rfl <;> simp only [List.mem_cons, List.not_mem_nil, or_false] at ha <;> rcases ha with rfl | rfl <;> simp
 rcases this with rfl | rfl | rfl | rfl <;> exact hv _ (by simp [inK])
theorem exM (o t : Nat) (ho : o = 1) (ht : t = 2) : Pure Tryd.prog 9 [cntD, iD 3, u32D 4, .row (exCA o ++ exCB o) 2] [] (.tup [.agg [.row [iD 2] 1, .row [.row [iD 1, iD 5, strD []] 1, .row [iD 1, iD 6, strD []] 1] 2, .row [natD t, natD o] 2], iD 0]) := by
 obtain ⟨m, h⟩ := zGp (n := 3) (keep := 4) (fs := exF o) (by decide) (by decide) (by simp) (exF_s o ho) (exF_v o ho) (by subst ho; kernel_rfl)
 have e : m = ⟨[2], [([exV 5], t), ([exV 6], o)]⟩ := by rw [h.e]; subst ho ht; kernel_rfl
 have hp := h.p
 rw [e] at hp
 exact hp
theorem exM0 (o t : Nat) (ho : o = 1) (ht : t = 3) : Pure Tryd.prog 9 [cntD, iD 3, u32D 0, .row (exCA o ++ exCB o) 2] [] (.tup [faA ⟨[], [([], t)]⟩, iD 0]) := by
 obtain ⟨m, h⟩ := zGp (n := 3) (keep := 0) (fs := exF o) (by decide) (by decide) (by simp) (exF_s o ho) (exF_v o ho) (by subst ho; kernel_rfl)
 have e : m = ⟨[], [([], t)]⟩ := by rw [h.e]; subst ho ht; kernel_rfl
 have hp := h.p
 rw [e] at hp
 exact hp
theorem exT (o t : Nat) (ho : o = 1) (ht : t = 3) : Pure Tryd.prog 11 [cntD, iD 3, .row (exCA o ++ exCB o) 2] [] (.tup [natD t, iD 0]) := zVz _ _ _ _ (exM0 o t ho ht)
theorem exS (o t : Nat) (ho : o = 1) (ht : t = 2) : Pure Tryd.prog 14 [.agg [.row [iD 2] 1, .row [.row [iD 1, iD 5, strD []] 1, .row [iD 1, iD 6, strD []] 1] 2, .row [natD t, natD o] 2], .agg [.row [iD 2] 1, .row [.row [iD 1, iD 5, strD []] 1, .row [iD 1, iD 6, strD []] 1] 2, .row [iD 2, iD 1] 2]] [] (bD true) := by
 have h := same_c [2] [([exV 5], t), ([exV 6], o)] (by simp) (by simp) (by simp) (by subst ho ht; decide)
 have e : isD [([exV 5], t), ([exV 6], o)] = [iD 2, iD 1] := by subst ho ht; rfl
 unfold rfD rfC at h
 rw [e] at h
 exact h
set_option maxHeartbeats 4000000 in
theorem zHp : Pure Tryd.prog 7 [] [] (bD true) := by
 obtain ⟨o, ho⟩ : ∃ o : Nat, o = 1 := ⟨1, rfl⟩
 obtain ⟨t, ht⟩ : ∃ o : Nat, o = 2 := ⟨2, rfl⟩
 obtain ⟨u, hu⟩ : ∃ o : Nat, o = 3 := ⟨3, rfl⟩
 have hof := of_c u (by omega)
 have e3 : D.val (.int .u64 (u : Int)) = .val (.int .u64 3) := by rw [hu]; rfl
 rw [e3] at hof
 have hcm := zSu u u (Sm.of (by omega)) (Sm.of (by omega))
 have e0 : cmpD (u : Int) (u : Int) = 0 := by rcases zA3 (u : Int) u with h | h | h <;> omega
 rw [e0] at hcm
 have h1 := cntA_c o ho
 have h2 := cntB_c o ho
 have h3 := exM o t ho ht
 have h4 := exT o u ho hu
 have h5 := exS o t ho ht
 refine zL zBo mixed Tryd.func7 rfl ?_
 focus
  refine zB (zA rfl (v0s (veT (zB (zA rfl (vc zXl (ve (0 < 2 ∧ 1 < 2 ∧ (false = false ∧ true = true ∧ 3 = 3 ∧ 3 ≤ 3) ∧ false = false ∧ true = true ∧ 3 = 3 ∧ 3 ≤ 3) (zB (vd [0, 1, 2, 3, 4, 5, 6, 7, 8, 9, 10, 11, 12] (vr 3 ((True ∧ true = true) ∧ 3 ≤ 3) (vc h1 (vr 1 (3 ≤ 3) (vc h2 ?_)))))))))))))
  refine vr 1 ((3 = 3 ∧ 3 ≤ 6 ∧ 3 = 3 ∧ 6 ≤ 6 ∧ True) ∧ 0 < 3 ∧ 3 = 3 ∧ 6 ≤ 16777216 ∧ 2 ≤ 9223372036854775807) (vc h4 (ve (0 < 2 ∧ 1 < 2) (zB (vd [0, 1, 2, 3, 4, 5, 6, 7, 8, 9, 10, 11, 12, 13] (vr 3 ((True ∧ true = true) ∧ 3 ≤ 3) (vc h1 (vr 1 (3 ≤ 3) (vc h2 (vr 1 ((3 = 3 ∧ 3 ≤ 6 ∧ 3 = 3 ∧ 6 ≤ 6 ∧ True) ∧ 0 < 3 ∧ 3 = 3 ∧ 6 ≤ 16777216 ∧ 2 ≤ 9223372036854775807) (vc h3 (ve (0 < 2 ∧ 1 < 2 ∧ false = false ∧ true = true ∧ 3 = 3 ∧ 3 ≤ 3) (zB (vd [0, 1, 2, 3, 4, 5, 6, 7, 8, 9, 10, 11, 12, 13, 14, 15, 16, 17, 18, 19, 20, 21, 22, 23, 24] ?_)))))))))))))
  refine vr 8 (True ∧ True) (vc hof (vc hcm (vr 5 (True ∧ 3 ≤ 3 ∧ (1 = 1 ∧ 1 ≤ 1 ∧ True) ∧ 0 < 1 ∧ 1 = 1 ∧ 1 ≤ 16777216 ∧ 1 ≤ 9223372036854775807) (vc (zJd 5) (vr 1 ((3 = 3 ∧ 3 ≤ 3 ∧ True) ∧ 0 < 3 ∧ 3 = 3 ∧ 3 ≤ 16777216 ∧ 1 ≤ 9223372036854775807) (vc (zJd 6) (vr 4 (((3 = 3 ∧ 3 ≤ 3 ∧ True) ∧ 0 < 3 ∧ 3 = 3 ∧ 3 ≤ 16777216 ∧ 1 ≤ 9223372036854775807) ∧ ((1 = 1 ∧ 1 ≤ 2 ∧ 1 = 1 ∧ 2 ≤ 2 ∧ True) ∧ 0 < 1 ∧ 1 = 1 ∧ 2 ≤ 16777216 ∧ 2 ≤ 9223372036854775807) ∧ ((1 = 1 ∧ 1 ≤ 2 ∧ 1 = 1 ∧ 2 ≤ 2 ∧ True) ∧ 0 < 1 ∧ 1 = 1 ∧ 2 ≤ 16777216 ∧ 2 ≤ 9223372036854775807) ∧ (1 = 1 ∧ 1 ≤ 3 ∧ 1 = 1 ∧ 2 ≤ 3 ∧ 1 = 1 ∧ 3 ≤ 3 ∧ True) ∧ true = true) (vc h5 (veT (zM (vret (True) (.inr rfl))))))))))))
end
section
open Go.RowKit
attribute [local irreducible] seqW awp zAf zAo zAg Weak updS zAw retL Pure Acts rP setP setQ cP nP fr
set_option maxRecDepth 4096
theorem raws_rn (fs : List Rn) : (fs.map rnR).flatMap rawC = fs.flatMap rwD := by rw [List.flatMap_map]
abbrev totV (m : Fa Nat) : Nat := (m.l.map (·.2)).headD 0
theorem Mg.one {n : Nat} {fs : List Rn} {m : Fa Nat} (h : Mg n 0 fs m) : m.A = [] ∧ m.l.length ≤ 1 := by
 have hA : m.A = [] := by
  rw [List.eq_nil_iff_forall_not_mem]
  intro v hv
  have := (h.A v).1 hv
  simp at this
 refine ⟨hA, ?_⟩
 have hk := h.ok
 match hm : m.l with
 | [] => simp
 | [a] => simp
 | a :: b :: l =>
  have ha := hk.len a (by rw [hm]; simp)
  have hb := hk.len b (by rw [hm]; simp)
  have hs := hk.srt
  rw [hm] at hs
  have := (List.pairwise_cons.1 hs).1 b (by simp)
  rw [hA] at ha hb
  have e1 := List.length_eq_zero_iff.1 ha
  have e2 := List.length_eq_zero_iff.1 hb
  rw [e1, e2] at this
  exact absurd this (rcw.irr [])
theorem Mg.sm {n keep : Nat} {fs : List Rn} {m : Fa Nat} (h : Mg n keep fs m) : Sm (totV m) ∧ totV m ≤ 4000000000000000000 := by
 have h2 := h.v
 unfold vz at h2
 have : totV m ≤ (m.l.map (·.2)).sum := by
  unfold totV
  cases m.l with
  | nil => simp
  | cons a l => simp only [List.map_cons, List.headD_cons, List.sum_cons]; omega
 exact ⟨Sm.of (by omega), by omega⟩
section
variable (n : Int) (keep : Nat) (cs cc : List D) (k : Nat)
structure Sml : Prop where
 n8 : ¬ (8 < n ∧ n ≤ 32)
 few : Pure Tryd.prog 8 [.row cs k] [] (bD true)
 co : Pure Tryd.prog 10 [.row cs k] [] (.row cc k)
variable (ra rb : List D) (ka kb : Nat) (z : Nat) (hz : Sm z) (hz2 : z < 18446744073709551616)
include hz in
include hz hz2 in
variable (a b c : List D) (p q r : Nat) {d1 d2 d3 : List D} {o1 o2 o3 : Nat}
include hz in
include hz hz2 in
end
theorem zYv {n keep : Nat} {fs : List Rn} (hn : n ≤ 32) (h : zBt n 0 fs ≠ 0) : zBt n keep fs ≠ 0 := by
 unfold zBt at h ⊢
 rw [Int.toNat_natCast] at h ⊢
 have h0 : ¬ ((n : Int) < 0 ∨ 32 < (n : Int) ∨ 0 >>> n ≠ 0) := by
  simp only [Nat.zero_shiftRight, not_or, ne_eq, not_true_eq_false, not_false_eq_true, and_true]; omega
 rw [if_neg h0] at h
 split
 ·decide
 ·exact h
theorem zT7 {n : Nat} {fs : List Rn} {m : Fa Nat} (h : Mg n 0 fs m) : (m = ⟨[], []⟩ ∧ totV m = 0) ∨ ∃ x, m = ⟨[], [(x, totV m)]⟩ := by
 obtain ⟨h1, h2⟩ := h.one
 obtain ⟨A, l⟩ := m
 simp only at h1 h2
 subst h1
 match l, h2 with
 | [], _ => exact .inl ⟨rfl, rfl⟩
 | [p], _ => exact .inr ⟨p.1, rfl⟩
end
section
open Go.RowKit
attribute [local irreducible] seqW awp zAf zAo zAg Weak updS zAw retL Pure Acts rP setP setQ cP nP fr
set_option maxRecDepth 4096
section
variable {Dm : List Va}
theorem fa_chk (hD : Okv Dm) {f : Fa Nat} (h : Gof Dm f) : chk 32 (intL f.A) (f.l.map (·.1)) (f.l.map (·.2)).length = 0 ∧ (intL f.A).length ≤ 1000000 ∧ (f.l.map (·.1)).length ≤ 1000000 := by
 have h1 := zBn h.ok.asc
 have h2 := h.r
 unfold rz at h2
 exact ⟨chk_ok h.ok hD fun v hv => by have := h.ok.asc.2 v hv; omega, by simp; omega, by simp; omega⟩
theorem zWm (hD : Okv Dm) (f : Fa Nat) (hf : Gof Dm f) (v : Nat) (hv : v ∈ f.A) : Pure Tryd.prog 21 [cntD, faA f, iD (v : Nat)] [] (faA (fsum rcmp Sn v f)) := by
 have h := zNu hD f hf v hv
 obtain ⟨a1, a2, a3⟩ := fa_chk hD hf
 have h3 := zSg (intL f.A) (f.l.map (·.1)) (f.l.map (·.2)) (v : Nat) a2 a3 a1 (nsD (fsum rcmp Sn v f).A) (rwsD (fsum rcmp Sn v f).l) (vlsD (fsum rcmp Sn v f).l) _ _ _ (by rw [zS6]; exact h)
 rw [zS6] at h3
 exact h3
theorem zWl (hD : Okv Dm) (f : Fa Nat) (hf : Gof Dm f) (v : Int) (hv : v ∉ intL f.A) : Pure Tryd.prog 21 [cntD, faA f, iD v] [] (faA f) := by
 have h := zV3 hD f hf v hv
 obtain ⟨a1, a2, a3⟩ := fa_chk hD hf
 have h3 := zSg (intL f.A) (f.l.map (·.1)) (f.l.map (·.2)) v a2 a3 a1 (nsD f.A) (rwsD f.l) (vlsD f.l) _ _ _ (by rw [zS6]; exact h)
 rw [zS6] at h3
 exact h3
end
section
variable (ca cb ba bb : List D) (v e e3 g : Int)
structure Two : Prop where
 few : Pure Tryd.prog 8 [.row (ca ++ cb) 2] [] (bD true)
 xa : Pure Tryd.prog 18 [.agg ca] [] (.agg ba)
 xb : Pure Tryd.prog 18 [.agg cb] [] (.agg bb)
 ka : Pure Tryd.prog 19 [iD 32, .agg ba] [] (iD e)
 ra : Pure Tryd.prog 20 [iD 32, .agg ca] [] (iD e)
 kb : Pure Tryd.prog 19 [iD 3, .agg bb] [] (iD e3)
 rb : Pure Tryd.prog 20 [iD 3, .agg cb] [] (iD e3)
 rg : Pure Tryd.prog 20 [iD 32, .agg cb] [] (iD g)
end
section
variable {a1 a2 a3 b1 b2 b3 x1 x2 x3 y1 y2 y3 : List D} {n1 n2 n3 m1 m2 m3 p1 p2 p3 q1 q2 q3 : Nat} {v e e3 g : Int}
 (h : Two [.row a1 n1, .row a2 n2, .row a3 n3] [.row b1 m1, .row b2 m2, .row b3 m3] [.row x1 p1, .row x2 p2, .row x3 p3] [.row y1 q1, .row y2 q2, .row y3 q3] e e3 g)
include h
variable {sa sb sc ra rb rc : List D} {sn sm so rn rm ro : Nat}
variable {z1 z2 z3 : List D} {k1 k2 k3 : Nat} {ta tb tc : List D} {tn tm to : Nat}
end
end
section
open Go.RowKit
section
variable {α : Type} {c : Rw → Rw → Int} {S : Sr α} {Dm : List Va}
def sOut (c : Rw → Rw → Int) (S : Sr α) (v : Nat) (f : Fa α) : Fa α := if v ∈ f.A then fsum c S v f else f
theorem zWb {v : Nat} {f : Fa α} (h : v ∈ f.A) : sOut c S v f = fsum c S v f := if_pos h
theorem zWa {v : Nat} {f : Fa α} (h : v ∉ f.A) : sOut c S v f = f := if_neg h
theorem zPr : ∀ (vs ws : List Nat) (F : (Nat → Va) → Option α) (σ : Nat → Va), zF5 S Dm (vs ++ ws) F σ = zF5 S Dm ws (zF5 S Dm vs F) σ
 | [], ws, F, σ => rfl
 | v :: vs, ws, F, σ => zPr vs ws _ σ
end
end
section
open Go.RowKit
attribute [local irreducible] seqW awp zAf zAo zAg Weak updS zAw retL Pure Acts rP setP setQ cP nP fr
set_option maxRecDepth 4096
section
variable {Dm : List Va}
theorem sOut_c (hD : Okv Dm) {f : Fa Nat} (hf : Gof Dm f) (v : Nat) : Pure Tryd.prog 21 [cntD, faA f, iD (v : Nat)] [] (faA (sOut rcmp Sn v f)) := by
 by_cases hv : v ∈ f.A
 ·rw [zWb hv]; exact zWm hD f hf v hv
 ·rw [zWa hv]; exact zWl hD f hf v fun h => hv (zCx.1 h)
theorem equalF_c {f : Fa Nat} (h : Gof Dm f) : Pure Tryd.prog 25 [faA f, faA f] [] (bD true) := by
 have h1 := h.r
 have h2 := zBn h.ok.asc
 unfold rz at h1
 exact equal_c f.A f.l (by omega) (by omega) (fun p hp => by have := h.ok.len p hp; omega) (sm_le h.v)
end
section
variable {a1 a2 a3 b1 b2 b3 c1 c2 c3 : List D} {n1 n2 n3 m1 m2 m3 l1 l2 l3 : Nat}
variable {x1 x2 x3 y1 y2 y3 z1 z2 z3 : List D} {p1 p2 p3 q1 q2 q3 r1 r2 r3 : Nat} {f1 f2 f3 f4 g1 g2 g3 g4 j1 j2 j3 j4 : List D} {i1 i2 i3 i4 v1 v2 v3 v4 o1 o2 o3 o4 : Nat} {s1 s2 s3 u1 u2 u3 : List D} {t1 t2 t3 w1 w2 w3 : Nat}
end
end
section
open Go.RowKit
attribute [local irreducible] seqW awp zAf zAo zAg Weak updS zAw retL Pure Acts rP setP setQ cP nP fr
set_option maxRecDepth 4096
section
variable (k0 k1 : Nat)
def nsL (v : Nat) : List Nat := (List.range v).filter fun w => k0.testBit w && !k1.testBit w
abbrev nsP (m : Fa Nat) (v : Nat) : Fa Nat := refS rcmp Sn m (nsL k0 k1 v)
theorem zG7 {v w : Nat} : w ∈ nsL k0 k1 v ↔ w < v ∧ k0.testBit w = true ∧ k1.testBit w = false := by simp [nsL]
theorem zZq (v : Nat) : nsL k0 k1 (v + 1) = nsL k0 k1 v ++ if k0.testBit v && !k1.testBit v then [v] else [] := by
 unfold nsL
 rw [List.range_succ, List.filter_append]
 cases hb : (k0.testBit v && !k1.testBit v) <;> simp [List.filter_cons, hb]
theorem ns_step {n : Nat} {m : Fa Nat} (hA : ∀ w, w ∈ m.A ↔ w < n ∧ k0.testBit w = true) {v : Nat} (hv : v < n) : nsP k0 k1 m (v + 1) = if k1.testBit v = false then sOut rcmp Sn v (nsP k0 k1 m v) else nsP k0 k1 m v := by
 have hin : v ∈ (nsP k0 k1 m v).A ↔ k0.testBit v = true := by
  rw [zN8, hA, zG7]
  exact ⟨fun h => h.1.2, fun h => ⟨⟨hv, h⟩, fun k => by omega⟩⟩
 rw [nsP, zZq]
 cases h0 : k0.testBit v <;> cases h1 : k1.testBit v
 ·simp only [h1, Bool.false_and, Bool.false_eq_true, if_false, List.append_nil, if_true]
  rw [zWa fun h => by rw [hin, h0] at h; cases h]
 ·simp
 ·simp only [h1, Bool.true_and, Bool.not_false, if_true]
  rw [zWb (hin.2 h0), zN7]
 ·simp
theorem ns_z (m : Fa Nat) (v : Nat) : rz (nsP k0 k1 m v) ≤ rz m ∧ vz (nsP k0 k1 m v) ≤ vz m :=
 ⟨zJ5 (S := Sn) (z := rz) (zM7 (c := rcmp) Sn) _ m, zJ5 (S := Sn) (z := vz) (fun v f => Nat.le_of_eq (zM6 (c := rcmp) v f)) _ m⟩
theorem ns_gof {Dm : List Va} {m : Fa Nat} (h : Gof Dm m) (v : Nat) : Gof Dm (nsP k0 k1 m v) := by
 obtain ⟨h1, h2⟩ := ns_z k0 k1 m v
 exact ⟨zG4 rcw _ _ h.ok, by have := h.r; omega, by have := h.v; omega⟩
end
theorem Mg.gof {n keep : Nat} {fs : List Rn} {m : Fa Nat} (h : Mg n keep fs m) : Gof (domP fs) m := ⟨h.ok, h.r, h.v⟩
theorem zMs : ∀ (vs : List Nat) (f : Fa Nat), ((refS rcmp Sn f vs).l.map (·.2)).sum = (f.l.map (·.2)).sum
 | [], f => rfl
 | v :: vs, f => by
  show ((refS rcmp Sn (fsum rcmp Sn v f) vs).l.map (·.2)).sum = _
  rw [zMs vs, zPy]
theorem ns_last {n k0 k1 : Nat} {fs : List Rn} {m m1 : Fa Nat} (hsub : ∀ i, k1.testBit i = true → k0.testBit i = true) (h : Mg n k0 fs m) (h1 : Mg n k1 fs m1) (hf : ∀ f ∈ fs, FOk rcmp (domP fs) (toFa f)) (hA : ∀ v, (∃ f ∈ fs.map toFa, v ∈ f.A) ↔ v < n) : nsP k0 k1 m n = m1 := by
 have hok : ∀ g ∈ fs.map toFa, FOk rcmp (domP fs) g := fun g hg => by
  obtain ⟨f, hf', rfl⟩ := List.mem_map.1 hg
  exact hf f hf'
 have hP := zG5 (S := Sn) rcw (fs.map toFa) (zAq Sn) zEu hok
 have hPA : ∀ v, v ∈ (refP rcmp Sn (zAq Sn) (fs.map toFa)).A ↔ v < n := fun v => by
  rw [zR9 _ _ (by simp [zAq]) (fun f h => (hok f h).asc.2), hA]; simp [zAq]
 have g := zG4 (S := Sn) rcw (nsL k0 k1 n) m h.ok
 have nd : ∀ k : Nat, ((List.range n).filter fun v => !k.testBit v).Nodup := fun k => List.nodup_range.filter _
 have hns : (nsL k0 k1 n).Nodup := List.nodup_range.filter _
 have hperm : ((List.range n).filter (fun v => !k0.testBit v) ++ nsL k0 k1 n).Perm ((List.range n).filter fun v => !k1.testBit v) := by
  refine (List.perm_ext_iff_of_nodup ?_ (nd k1)).2 fun w => ?_
  ·rw [List.nodup_append]
   refine ⟨nd k0, hns, fun a ha b hb e => ?_⟩
   subst e
   rw [zG7] at hb
   simp [hb.2.1] at ha
  ·rw [List.mem_append, zG7]
   simp only [List.mem_filter, List.mem_range, Bool.not_eq_true']
   constructor
   ·rintro (⟨a, b⟩ | ⟨a, b, c⟩)
    ·refine ⟨a, ?_⟩
     cases hk : k1.testBit w
     ·rfl
     ·rw [hsub w hk] at b; cases b
    ·exact ⟨a, c⟩
   ·rintro ⟨a, b⟩
    cases hk : k0.testBit w
    ·exact .inl ⟨a, rfl⟩
    ·exact .inr ⟨a, rfl, b⟩
 refine FOk.ext rcw g h1.ok (Asc.ext g.asc h1.ok.asc fun w => ?_) fun σ => ?_
 ·rw [zN8, h.A, zG7, h1.A]
  constructor
  ·rintro ⟨⟨a, b⟩, c⟩
   refine ⟨a, ?_⟩
   cases hk : k1.testBit w
   ·exact absurd ⟨a, b, hk⟩ c
   ·rfl
  ·rintro ⟨a, b⟩
   exact ⟨⟨a, hsub w b⟩, fun c => by rw [c.2.2] at b; cases b⟩
 ·rw [zGj rcw (zCm _) _ m σ h.ok hns (fun v hv => (h.A v).2 ⟨(zG7 k0 k1).1 hv |>.1, (zG7 k0 k1).1 hv |>.2.1⟩), h1.e]
  rw [zGj rcw (zCm _) _ _ σ hP (nd k1) fun v hv => (hPA v).2 (by simpa using (List.mem_filter.1 hv).1)]
  rw [← zG9 hperm, zPr]
  refine zB5 _ (fun σ => ?_) σ
  rw [h.e, zGj rcw (zCm _) _ _ σ hP (nd k0) fun v hv => (hPA v).2 (by simpa using (List.mem_filter.1 hv).1)]
section
variable {n : Int} {k0 k1 : Nat} {cs cc : List D} {k : Nat}
theorem zSt (b : Bool) (hb : b = false ∨ n < 0 ∨ 8 < n) (hfew : Pure Tryd.prog 8 [.row cs k] [] (bD b)) : Pure Tryd.prog 6 [iD n, .agg [u32D k0, u32D k1], .row cs k] [] (bD true) := by
 cases b
 ·refine zL zBo mixed Tryd.func6 rfl ?_
  focus
   refine zB (zA rfl (v0s (veT (zB (zB (zA rfl (vc zHp (veT (vf (zG (zC (zD (zB ?_)))))))))))))
   refine zB (zA rfl (vrT 1 (vc hfew (veT (vt (zB (zA rfl (veT (zM (zJ (vret (True) (.inr rfl))))))))))))
 ·have hb : n < 0 ∨ 8 < n := by simpa using hb
  by_cases h0 : n < 0
  ·refine zL zBo mixed Tryd.func6 rfl ?_
   focus
    refine zB (zA rfl (v0s (veT (zB (zB (zA rfl (vc zHp (veT (vf (zG (zC (zD (zB ?_)))))))))))))
    refine zB (zA rfl (vrT 1 (vc hfew (vew [] [(7, true)] (decide (n < 0) = true) (vt (zB (zA rfl (veT (zM (zJ (vret (True) (.inr rfl))))))))))))
  ·have h8 : 8 < n := by omega
   refine zL zBo mixed Tryd.func6 rfl ?_
   focus
    refine zB (zA rfl (v0s (veT (zB (zB (zA rfl (vc zHp (veT (vf (zG (zC (zD (zB ?_)))))))))))))
    refine zB (zA rfl (vrT 1 (vc hfew (vew [] [(7, false), (11, true)] (decide (n < 0) = false ∧ decide (n > (8 : Int)) = true) (vt (zB (zA rfl (veT (zM (zJ (vret (True) (.inr rfl))))))))))))
theorem zWx (e : Int) (d : Nat) (h0 : 0 ≤ n) (h8 : n ≤ 8) (hd : (BitVec.ofInt 32 (k1 : Int) &&& ~~~ BitVec.ofInt 32 (k0 : Int)).toNat = d) (hd2 : d < 4294967296) (hb : e ≠ 0 ∨ d ≠ 0) (hfew : Pure Tryd.prog 8 [.row cs k] [] (bD true))
  (hw : Pure Tryd.prog 12 [iD n, u32D k0, .row cs k] [] (iD e)) : Pure Tryd.prog 6 [iD n, .agg [u32D k0, u32D k1], .row cs k] [] (bD true) := by
 have w := zCr hd2
 by_cases he : e = 0
 ·subst he
  have hd0 : d ≠ 0 := by simpa using hb
  refine zL zBo mixed Tryd.func6 rfl ?_
  focus
   refine zB (zA rfl (v0s (veT (zB (zB (zA rfl (vc zHp (veT (vf (zG (zC (zD (zB ?_)))))))))))))
   refine zB (zA rfl (vrT 1 (vc hfew (vw 14 [] [(7, false), (11, false)] (decide (n < 0) = false ∧ decide (n > (8 : Int)) = false ∧ ((0 : Int) ≤ (0 : Int) ∧ (0 : Int) < (↑(2 : Nat) : Int)) ∧ 0 < 2) (vc hw (vr 8 (True ∧ ((0 : Int) ≤ (1 : Int) ∧ (1 : Int) < (↑(2 : Nat) : Int)) ∧ 0 < 1 ∧ ((0 : Int) ≤ (0 : Int) ∧ (0 : Int) < (↑(2 : Nat) : Int)) ∧ 0 < 2 ∧ True) (vs 42 (D.val (Value.int IntKind.u32 (IntKind.wrap IntKind.u32 (↑(BitVec.toNat (BitVec.ofInt 32 (↑k1 : Int) &&& ~~~BitVec.ofInt 32 (↑k0 : Int))) : Int)))) (dig d) (by simp (disch := omega) only [w, hd]) (veT (zEs (t := (↑d : Int) != (0 : Int)) (by kernel_rfl) (by simpa using by omega) (zB (zA rfl (veT (zM ?_)))))))))))))
   refine zJ (vret (True) (.inr rfl))
 ·clear hb
  refine zL zBo mixed Tryd.func6 rfl ?_
  focus
   refine zB (zA rfl (v0s (veT (zB (zB (zA rfl (vc zHp (veT (vf (zG (zC (zD (zB ?_)))))))))))))
   refine zB (zA rfl (vrT 1 (vc hfew (vw 14 [] [(7, false), (11, false)] (decide (n < 0) = false ∧ decide (n > (8 : Int)) = false ∧ ((0 : Int) ≤ (0 : Int) ∧ (0 : Int) < (↑(2 : Nat) : Int)) ∧ 0 < 2) (vc hw (vew [] [(19, true)] (True ∧ (e != (0 : Int)) = true) (vt (zB (zA rfl (veT (zM (zJ (vret (True) (.inr rfl))))))))))))))
set_option maxHeartbeats 8000000 in
theorem zZt (N : Nat) (h8 : N ≤ 8) (hk : k1 < 4294967296) (hd : (BitVec.ofInt 32 (k1 : Int) &&& ~~~ BitVec.ofInt 32 (k0 : Int)).toNat = 0) (hfew : Pure Tryd.prog 8 [.row cs k] [] (bD true))
  (hw : Pure Tryd.prog 12 [iD (N : Nat), u32D k0, .row cs k] [] (iD 0)) (hco : Pure Tryd.prog 10 [.row cs k] [] (.row cc k)) (A : List Nat) (l : List (Rw × Nat)) (A1 : List Nat) (l1 : List (Rw × Nat)) (z : Nat)
  (hm : Pure Tryd.prog 9 [cntD, iD (N : Nat), u32D k0, .row cc k] [] (.tup [faA ⟨A, l⟩, iD 0]))
  (hm1 : Pure Tryd.prog 9 [cntD, iD (N : Nat), u32D k1, .row cc k] [] (.tup [faA ⟨A1, l1⟩, iD 0]))
  (ht : Pure Tryd.prog 11 [cntD, iD (N : Nat), .row cc k] [] (.tup [natD z, iD 0]))
  (hs : Pure Tryd.prog 26 [.row (vlsD l) l.length] [] (natD z)) (hcm : Pure Tryd.prog 16 [natD z, natD z] [] (iD 0))
  (he : Pure Tryd.prog 25 [faA ⟨A1, l1⟩, faA ⟨A1, l1⟩] [] (bD true))
  (hst : ∀ v, v < N → nsP k0 k1 ⟨A, l⟩ (v + 1) = if k1.testBit v = false then sOut rcmp Sn v (nsP k0 k1 ⟨A, l⟩ v) else nsP k0 k1 ⟨A, l⟩ v)
  (hso : ∀ v, v < N → Pure Tryd.prog 21 [cntD, faA (nsP k0 k1 ⟨A, l⟩ v), iD (v : Nat)] [] (faA (sOut rcmp Sn v (nsP k0 k1 ⟨A, l⟩ v))))
  (hla : nsP k0 k1 ⟨A, l⟩ N = ⟨A1, l1⟩) : Pure Tryd.prog 6 [iD (N : Nat), .agg [u32D k0, u32D k1], .row cs k] [] (bD true) := by
 refine zL zBo mixed Tryd.func6 rfl ?_
 focus
  refine zB (zA rfl (v0s (veT (zB (zB (zA rfl (vc zHp (veT (vf (zG (zC (zD (zB ?_)))))))))))))
  refine zB (zA rfl (vrT 1 (vc hfew (vw 14 [] [(7, false), (11, false)] (decide ((↑N : Int) < 0) = false ∧ decide ((↑N : Int) > (8 : Int)) = false ∧ ((0 : Int) ≤ (0 : Int) ∧ (0 : Int) < (↑(2 : Nat) : Int)) ∧ 0 < 2) (vc hw (vr 8 (True ∧ ((0 : Int) ≤ (1 : Int) ∧ (1 : Int) < (↑(2 : Nat) : Int)) ∧ 0 < 1 ∧ ((0 : Int) ≤ (0 : Int) ∧ (0 : Int) < (↑(2 : Nat) : Int)) ∧ 0 < 2 ∧ True) (vs 42 (D.val (Value.int IntKind.u32 (IntKind.wrap IntKind.u32 (↑(BitVec.toNat (BitVec.ofInt 32 (↑k1 : Int) &&& ~~~BitVec.ofInt 32 (↑k0 : Int))) : Int)))) (dig (0 : Nat)) (by simp (disch := omega) only [zBa, hd]) (veT (vf (zG (zC (zD (zB ?_)))))))))))))
  refine zA rfl (ve ((True ∧ true = true) ∧ false = false ∧ true = true ∧ 0 = 0 ∧ 0 ≤ 0) (zB (vd [2, 3, 5, 0, 1, 4, 6, 7, 8, 9, 10, 11, 12, 13] (vr 6 (((0 : Int) ≤ (0 : Int) ∧ (0 : Int) < (↑(2 : Nat) : Int)) ∧ 0 ≤ 0 ∧ 0 < 2) (vc hco (vc hm (ve (0 < 2 ∧ 1 < 2 ∧ false = false ∧ true = true ∧ 3 = 3 ∧ 3 ≤ 3) (zB (vd [2, 3, 5, 0, 1, 4, 6, 7, 8, 9, 10, 11, 12, 13] (vr 6 (((0 : Int) ≤ (1 : Int) ∧ (1 : Int) < (↑(2 : Nat) : Int)) ∧ 0 ≤ 0 ∧ 0 < 1) (vc hco (vc hm1 (ve (0 < 2 ∧ 1 < 2 ∧ false = false ∧ true = true ∧ 3 = 3 ∧ 3 ≤ 3) ?_)))))))))))))
  refine zB (vd [2, 3, 0, 1, 4, 5, 6, 7, 8, 9, 10] (vr 4 (0 ≤ 0) (vc hco (vc ht (ve (0 < 2 ∧ 1 < 2) (zB (zA rfl (ve (3 ≤ 3 ∧ false = false ∧ true = true ∧ 3 = 3 ∧ 3 ≤ 3) (zB (zB (zA rfl (veT (zF ?_)))))))))))))
  rotate_left
 refine zA4 (fun (v : Nat) (B : List Nat) (m : List (Rw × Nat)) => fr 118 [(0, iD ↑N), (4, D.own 0 0), (6, bD false), (7, D.own 1 0), (8, D.own 2 0), (9, iD 0), (10, D.own 3 0), (11, iD 0), (12, natD z), (13, iD 0), (14, D.own 4 0), (15, iD ↑v)]) (fun (v : Nat) (B : List Nat) (m : List (Rw × Nat)) => [⟨[u32D k0, u32D k1], 62, 0, false, false, .plain⟩, ⟨[], 37, 0, false, false, .plain⟩, fB1 (.row (nsD A) A.length) (.row (rwsD l) l.length) (.row (vlsD l) l.length), fB1 (.row (nsD A1) A1.length) (.row (rwsD l1) l1.length) (.row (vlsD l1) l1.length), fB1 (.row (nsD B) B.length) (.row (rwsD m) m.length) (.row (vlsD m) m.length)]) (fun v B m => N - v) (fun (v : Nat) (B : List Nat) (m : List (Rw × Nat)) => v ≤ N ∧ (⟨B, m⟩ : Fa Nat) = nsP k0 k1 ⟨A, l⟩ v) 0 A l ?_ ?_ ?_
 ·exact ⟨by omega, rfl⟩
 ·refine vk 5
 rintro v B m ⟨i1, i2⟩
 rcases Nat.lt_or_ge v N with i3 | i3
 ·have hv32 : v < 32 := by omega
  have hsum := hso v i3
  have e2 := hst v i3
  rw [← i2] at hsum e2
  generalize sOut rcmp Sn v ⟨B, m⟩ = q at *
  obtain ⟨B', m'⟩ := q
  have w1 := bit_b0 hk v
  have w2 := bit_w0 hk v
  have w3 := zEv k1 hv32
  have w4 := zMf (n := v) (by omega)
  focus
   refine zB (zB (zA rfl (v0s (veT (vT ((↑v : Int) < ↑N) (zG (zC (zD (zB (zF (zB (zA rfl (vr 5 (((0 : Int) ≤ (1 : Int) ∧ (1 : Int) < (↑(2 : Nat) : Int)) ∧ 0 < 1 ∧ u6 (↑v : Int) ∧ (0 : Int) ≤ (↑v : Int)) ?_)))))))))))))
   refine vs 87 (D.val (Value.int IntKind.u32 (Int.fdiv (↑k1 : Int) ((2 : Int) ^ min (Int.toNat (↑v : Int)) 32)))) (dig (k1 >>> v)) (by simp (disch := omega) only [Int.toNat_natCast, w3]) (vrT 1 (vs 88 (D.val (Value.int IntKind.u32 (IntKind.wrap IntKind.u32 (↑(BitVec.toNat (BitVec.ofInt 32 (↑(k1 >>> v) : Int) &&& BitVec.ofInt 32 (1 : Int))) : Int)))) (dig (BitVec.toNat (BitVec.ofInt 32 (↑(k1 >>> v) : Int) &&& BitVec.ofInt 32 (1 : Int)))) (by simp (disch := omega) only [zBa]) (vrT 1 (vs 89 (bD ((↑(BitVec.toNat (BitVec.ofInt 32 (↑(k1 >>> v) : Int) &&& BitVec.ofInt 32 (1 : Int))) : Int) == (0 : Int))) (bD !Nat.testBit k1 v) (by simp (disch := omega) only [w1]) (veT ?_)))))
   refine zR (t := !Nat.testBit k1 v) (by kernel_rfl) (fun hc => ?_) (fun hc => ?_)
   simp only [Bool.not_eq_true'] at hc
   refine zA rfl (vr 4 (0 ≤ 0 ∧ 3 ≤ 3) (vc hsum (vr 1 (Bk.fz (fB1 ((q4_ B)) ((q7_ m)) ((q8_ m))) = false ∧ true = true ∧ 3 = 3 ∧ 3 ≤ 3) (vnil (zE (zC (zD (zA rfl (vr 3 (i6 (↑v + 1)) (vnil (zC ?_)))))))))))
   rotate_left
   simp only [Bool.not_eq_false'] at hc
   refine zG (zE (zC (zD (zA rfl (vr 3 (i6 (↑v + 1)) (vnil (zC ?_)))))))
   rotate_left
  ·rw [if_pos (by simpa using hc)] at e2
   refine ⟨v + 1, B', m', ⟨by omega, e2.symm⟩, by omega, ?_⟩
   refine vk 5
  ·rw [if_neg (by simpa using hc)] at e2
   refine ⟨v + 1, B, m, ⟨by omega, e2.symm⟩, by omega, ?_⟩
   refine vk 5
 ·obtain rfl : v = N := by omega
  rw [hla] at i2
  cases i2
  focus
   refine zB (zB (zA rfl (v0s (veT (vF ((↑v : Int) < ↑v) (zQ (zH (zH (zP rfl (zC (zD (zB (zA rfl ?_)))))))))))))
   refine vr 13 (True ∧ True ∧ True ∧ 3 ≤ 3 ∧ 3 ≤ 3) (vc he (vr 4 (True ∧ 0 < 1) (vc hs (vrT 1 (vc hcm (veT (zM (vret (True) (.inr rfl)))))))))
end
theorem zZs (n : Int) (k0 k1 : Nat) (l : List Raw) (hk0 : k0 < 4294967296) (hk1 : k1 < 4294967296) (hl : ∀ f ∈ l, RawOk f) : Pure Tryd.prog 6 [iD n, .agg [u32D k0, u32D k1], .row (l.flatMap rawC) l.length] [] (bD true) := by
 have hfew := few_c l
 by_cases hf : fewP l = true
 case neg =>
  rw [Bool.not_eq_true] at hf
  rw [hf] at hfew
  exact zSt false (.inl rfl) hfew
 rw [hf] at hfew
 rcases Classical.em (n < 0 ∨ 8 < n) with hb | hb
 ·exact zSt true (.inr hb) hfew
 obtain ⟨hl4, fs, rfl, hs⟩ := fewP_rn hf
 rw [List.length_map] at hl4
 have hvv : ∀ f ∈ fs, ∀ x ∈ f.R, ∀ a ∈ x, Vi a := fun f hf => (hl (rnR f) (List.mem_map.2 ⟨f, hf, rfl⟩)).r
 rw [raws_rn, List.length_map] at hfew ⊢
 have hco := counts_c fs (by omega) hs
 have hz := fun f hf => (hs f hf).z
 obtain ⟨N, rfl⟩ : ∃ N : Nat, n = N := ⟨n.toNat, by omega⟩
 have hN : N ≤ 8 := by omega
 have hw := wrong_c N k0 fs hN hk0 (by omega) hz
 have hbit := an_bit hk1 hk0
 have hd2 : (BitVec.ofInt 32 (k1 : Int) &&& ~~~ BitVec.ofInt 32 (k0 : Int)).toNat < 4294967296 := (BitVec.ofInt 32 (k1 : Int) &&& ~~~ BitVec.ofInt 32 (k0 : Int)).isLt
 by_cases he : zBt N k0 fs = 0 ∧ (BitVec.ofInt 32 (k1 : Int) &&& ~~~ BitVec.ofInt 32 (k0 : Int)).toNat = 0
 case neg =>
  have hb2 : zBt N k0 fs ≠ 0 ∨ (BitVec.ofInt 32 (k1 : Int) &&& ~~~ BitVec.ofInt 32 (k0 : Int)).toNat ≠ 0 := by
   rcases Classical.em (zBt N k0 fs = 0) with h | h
   ·exact .inr fun k => he ⟨h, k⟩
   ·exact .inl h
  exact zWx _ _ (by omega) (by omega) rfl hd2 hb2 hfew hw
 obtain ⟨e0, ed⟩ := he
 rw [e0] at hw
 have hsub : ∀ i, k1.testBit i = true → k0.testBit i = true := fun i hi => by
  have := hbit i
  rw [ed, hi] at this
  simpa using this
 obtain ⟨h32, h3, h1, h2⟩ := zRr e0
 have e1 : zBt N k1 fs = 0 := by
  have h5 : k1 >>> N = 0 := by
   refine Nat.eq_of_testBit_eq fun i => ?_
   rw [Nat.testBit_shiftRight, Nat.zero_testBit]
   cases hk : k1.testBit (N + i)
   ·rfl
   ·have h6 := hsub _ hk
    have h7 : (k0 >>> N).testBit i = k0.testBit (N + i) := Nat.testBit_shiftRight ..
    rw [h3, h6, Nat.zero_testBit] at h7
    cases h7
  unfold zBt
  rw [Int.toNat_natCast, if_neg (by intro k; rcases k with k | k | k <;> first | omega | exact k h5), if_neg (by omega), if_pos h2]
 have e3 : zBt N 0 fs = 0 := by
  by_cases h : zBt N 0 fs = 0
  ·exact h
  ·exact absurd e0 (zYv (by omega) h)
 obtain ⟨m, g⟩ := zGp hN hk0 hl4 hs hvv e0
 obtain ⟨m1, g1⟩ := zGp hN hk1 hl4 hs hvv e1
 obtain ⟨mt, gt⟩ := zGp hN (by decide) hl4 hs hvv e3
 have hD := zS7 h1 hvv
 have htf := zP3 (by omega) h1 hs
 have hcv := cov_fa h2 htf
 have hA : ∀ v, (∃ f ∈ fs.map toFa, v ∈ f.A) ↔ v < N := fun v => ⟨fun ⟨g, hg, hv⟩ => by
  obtain ⟨f, hf, rfl⟩ := List.mem_map.1 hg
  obtain ⟨A, hA, hfit⟩ := zF6 (zFo h1 f hf)
  have e := (htf f hf).A
  have : (v : Int) ∈ f.V := by rw [e]; exact zCx.2 hv
  rw [hA] at this
  have := hfit.lt v (zCx.1 this)
  omega, hcv v⟩
 have hla := ns_last hsub g g1 (fun f hf => (htf f hf).ok) hA
 have ht := zVz _ _ _ mt gt.p
 obtain ⟨s1, s2⟩ := gt.sm
 have hsum : (m.l.map (·.2)).sum = totV mt := by
  have a1 : (mt.l.map (·.2)).sum = totV mt := by
   rcases zT7 gt with ⟨em, ez⟩ | ⟨x, em⟩
   ·rw [ez, em]; rfl
   ·rw [em]; simp
  rw [← a1, g.e, gt.e, zMs, zMs]
 have hs2 := nsum_c (m.l.map (·.2)) m.l.length (by simp) (by have := g.r; unfold rz at this; omega) (by rw [hsum]; exact s1)
 rw [hsum] at hs2
 have hcm := zSu (totV mt) (totV mt) s1 s1
 have ec : cmpD (totV mt : Int) (totV mt : Int) = 0 := by rcases zA3 (totV mt : Int) (totV mt) with h | h | h <;> omega
 rw [ec] at hcm
 exact zZt N hN hk1 ed hfew hw hco m.A m.l m1.A m1.l (totV mt) g.p g1.p ht hs2 hcm (equalF_c g1.gof) (fun v hv => ns_step k0 k1 g.A hv) (fun v hv => sOut_c hD (ns_gof k0 k1 g.gof v) v) hla
end
end Go.Proofs.YtmfamhoopjeaiaaDoor

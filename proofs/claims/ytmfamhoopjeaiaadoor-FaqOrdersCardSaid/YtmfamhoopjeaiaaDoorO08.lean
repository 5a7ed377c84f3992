/- Texts of this claim, joined: Lwg FjP Lwh Lwi Lwj Lwk FyP Lwl -/
import Derived.Test.YtmfamhoopjeaiaaDoorO07
set_option linter.unusedVariables false
set_option linter.unusedSimpArgs false
namespace Go.Proofs.YtmfamhoopjeaiaaDoor
section
open Go.RowKit
attribute [local irreducible] seqW awp zAf zAo zAg Weak updS zAv retL Pure Acts rP setP setQ cP nP fr
set_option maxRecDepth 4096
def fewR (f : Raw) : Bool := decide (f.R.length ≤ 10) && (decide (f.V.length ≤ 4) && (decide (f.W.length ≤ 12) && f.W.all fun w => decide (0 ≤ w ∧ w ≤ 1000)))
def fewP (l : List Raw) : Bool := ((l.take 5).all fewR) && decide (l.length ≤ 4)
theorem fewP_rn {l : List Raw} (h : fewP l = true) : l.length ≤ 4 ∧ ∃ fs : List Rn, l = fs.map rnR ∧ ∀ f ∈ fs, Rsm f := by
 unfold fewP at h
 rw [Bool.and_eq_true, decide_eq_true_eq, List.all_eq_true] at h
 refine ⟨h.2, l.map fun f => ⟨f.V, f.R, f.W.map Int.toNat⟩, ?_, ?_⟩
 ·rw [List.map_map]
  conv => lhs; rw [← List.map_id l]
  refine List.map_congr_left fun f hf => ?_
  have hf2 := h.1 f (by rw [List.take_of_length_le (by omega)]; exact hf)
  unfold fewR at hf2
  simp only [Bool.and_eq_true, decide_eq_true_eq, List.all_eq_true] at hf2
  obtain ⟨V, R, W⟩ := f
  simp only [Function.comp, id]
  congr 1
  show W = (W.map Int.toNat).map fun w : Nat => (w : Int)
  rw [List.map_map]
  conv => lhs; rw [← List.map_id W]
  refine List.map_congr_left fun w hw => ?_
  have := hf2.2.2.2 w hw
  simp only [id, Function.comp]; omega
 ·intro f hf
  obtain ⟨g, hg, rfl⟩ := List.mem_map.1 hf
  have hf2 := h.1 g (by rw [List.take_of_length_le (by omega)]; exact hg)
  unfold fewR at hf2
  simp only [Bool.and_eq_true, decide_eq_true_eq, List.all_eq_true] at hf2
  refine ⟨hf2.2.1, hf2.1, by simpa using hf2.2.2.1, fun w hw => ?_⟩
  obtain ⟨z, hz, rfl⟩ := List.mem_map.1 hw
  have := hf2.2.2.2 z hz
  omega
theorem fewP_no {l : List Raw} {i : Nat} (h : i < l.length) (h5 : i < 5) (hp : fewR (l.getD i default) = false) : fewP l = false := by
 unfold fewP
 have : (l.take 5).all fewR = false := by
  rw [Bool.eq_false_iff]
  intro k
  rw [List.all_eq_true] at k
  have := k (l.getD i default) (by
   rw [List.getD_eq_getElem?_getD, List.getElem?_eq_getElem h]
   exact List.mem_iff_getElem.2 ⟨i, by rw [List.length_take]; omega, by rw [List.getElem_take]; rfl⟩)
  rw [hp] at this; cases this
 rw [this]; rfl
theorem fewP_yes {l : List Raw} (h : ∀ j, j < 5 → j < l.length → fewR (l.getD j default) = true) : fewP l = decide (l.length ≤ 4) := by
 unfold fewP
 have : (l.take 5).all fewR = true := by
  rw [List.all_eq_true]
  intro f hf
  obtain ⟨j, hj, rfl⟩ := List.mem_iff_getElem.1 hf
  rw [List.length_take] at hj
  have := h j (by omega) (by omega)
  rw [List.getD_eq_getElem?_getD, List.getElem?_eq_getElem (by omega)] at this
  rw [List.getElem_take]; exact this
 rw [this]; rfl
set_option maxHeartbeats 4000000 in
theorem few_c (l : List Raw) : Pure Tryd.prog 8 [.row (l.flatMap rawC) l.length] [] (bD (fewP l)) := by
 refine zL zCb mixed Tryd.func8 rfl ?_
 focus
  refine zB (zA rfl (v0s (veT (zB (zB (zA rfl (veT (zG ?_))))))))
  rotate_left
 refine zY (fun (i : Nat) => fr 73 [(0, D.row (List.flatMap rawC l) (List.length l)), (3, iD ↑i)]) (fun (i : Nat) => []) (fun i => 5 - i) (fun (i : Nat) => i ≤ 5 ∧ i ≤ l.length ∧ ∀ j, j < i → fewR (l.getD j default) = true) 0 ?_ ?_ ?_
 ·exact ⟨by omega, by omega, fun j h => by omega⟩
 ·refine vk 0
 rintro i ⟨h0, h1, h2⟩
 by_cases h3 : i < l.length ∧ i < 5
 ·obtain ⟨h3, h4⟩ := h3
  have hg2 := fl_at zMs l i h3
  have hle := zNa zMs l i h3
  have hne := zM9 zMs (by decide) l (by omega)
  have hno := fewP_no h3 h4
  generalize hff : l.getD i default = f at *
  obtain ⟨V, R, W⟩ := f
  by_cases hbad : R.length ≤ 10 ∧ V.length ≤ 4 ∧ W.length ≤ 12
  ·obtain ⟨b1, b2, b3⟩ := hbad
   focus
    refine zB (zB (zA rfl (v0s (vew [] [(4, true)] (decide ((↑i : Int) < ↑(List.length l)) = true) (vT ((↑i : Int) < (5 : Int)) (zF (zC (zD (zB (zG (zB (zB (zA rfl ?_)))))))))))))
    refine vr 3 (ix ↑i ↑(List.length l) (List.flatMap rawC l ≠ [])) (vs 17 (D.ptr (List.drop (Int.toNat (↑i : Int) * 3) (List.flatMap rawC l))) (D.ptr (D.row (List.map iD V) (List.length V) :: D.row (List.map rowV R) (List.length R) :: D.row (List.map iD W) (List.length W) :: List.flatMap rawC (List.drop (i + 1) l))) (by simp (disch := omega) only [Int.toNat_natCast, List.cons_append, List.nil_append, hg2]) (vw 8 [] [(7, false)] (True ∧ 0 < List.length (D.row (List.map rowV R) (List.length R) :: D.row (List.map iD W) (List.length W) :: List.flatMap rawC (List.drop (i + 1) l)) ∧ decide ((↑(List.length R) : Int) > (10 : Int)) = false ∧ ix ↑i ↑(List.length l) (List.flatMap rawC l ≠ [])) (vs 25 (D.ptr (List.drop (Int.toNat (↑i : Int) * 3) (List.flatMap rawC l))) (D.ptr (D.row (List.map iD V) (List.length V) :: D.row (List.map rowV R) (List.length R) :: D.row (List.map iD W) (List.length W) :: List.flatMap rawC (List.drop (i + 1) l))) (by simp (disch := omega) only [Int.toNat_natCast, List.cons_append, List.nil_append, hg2]) (vw 9 [] [(16, false)] (True ∧ 0 < List.length (D.row (List.map iD V) (List.length V) :: D.row (List.map rowV R) (List.length R) :: D.row (List.map iD W) (List.length W) :: List.flatMap rawC (List.drop (i + 1) l)) ∧ decide ((↑(List.length V) : Int) > (4 : Int)) = false ∧ ix ↑i ↑(List.length l) (List.flatMap rawC l ≠ [])) (vs 34 (D.ptr (List.drop (Int.toNat (↑i : Int) * 3) (List.flatMap rawC l))) (D.ptr (D.row (List.map iD V) (List.length V) :: D.row (List.map rowV R) (List.length R) :: D.row (List.map iD W) (List.length W) :: List.flatMap rawC (List.drop (i + 1) l))) (by simp (disch := omega) only [Int.toNat_natCast, List.cons_append, List.nil_append, hg2]) (ve (True ∧ 0 < List.length (D.row (List.map iD W) (List.length W) :: List.flatMap rawC (List.drop (i + 1) l))) (vF ((↑(List.length W) : Int) > (12 : Int)) (zF (zC (zD (zB (zA rfl (veT ?_)))))))))))))
    refine zG ?_
    rotate_left
   refine zY (fun (k : Nat) => fr 73 [(0, D.row (List.flatMap rawC l) (List.length l)), (3, iD ↑i), (4, iD ↑k)]) (fun (k : Nat) => []) (fun k => W.length - k) (fun (k : Nat) => k ≤ W.length ∧ ∀ j, j < k → j < W.length → decide (0 ≤ W.getD j 0 ∧ W.getD j 0 ≤ 1000) = true) 0 ?_ ?_ ?_
   ·exact ⟨by omega, fun j h => by omega⟩
   ·refine vk 0
   rintro k ⟨k1, k2⟩
   rcases Nat.lt_or_ge k W.length with k3 | k3
   ·have hneW : (W.map fun z => iD z) ≠ [] := zX (by omega)
    have hx := zCh W k k3
    have hbw : ¬ (0 ≤ W.getD k 0 ∧ W.getD k 0 ≤ 1000) → fewR ⟨V, R, W⟩ = false := fun hb => by
     unfold fewR
     rw [zTd (fun w => decide (0 ≤ w ∧ w ≤ 1000)) 0 W k k3 (decide_eq_false hb)]
     simp
    focus
     refine zB (zB (zA rfl (v0s (vr 4 (ix ↑i ↑(List.length l) (List.flatMap rawC l ≠ [])) (vs 43 (D.ptr (List.drop (Int.toNat (↑i : Int) * 3) (List.flatMap rawC l))) (D.ptr (D.row (List.map iD V) (List.length V) :: D.row (List.map rowV R) (List.length R) :: D.row (List.map iD W) (List.length W) :: List.flatMap rawC (List.drop (i + 1) l))) (by simp (disch := omega) only [Int.toNat_natCast, List.cons_append, List.nil_append, hg2]) (ve (True ∧ 0 < List.length (D.row (List.map iD W) (List.length W) :: List.flatMap rawC (List.drop (i + 1) l))) (vT ((↑k : Int) < ↑(List.length W)) (zF (zC (zD (zB (zG (zB ?_)))))))))))))
     refine zA rfl (vr 3 (ix ↑i ↑(List.length l) (List.flatMap rawC l ≠ [])) (vs 52 (D.ptr (List.drop (Int.toNat (↑i : Int) * 3) (List.flatMap rawC l))) (D.ptr (D.row (List.map iD V) (List.length V) :: D.row (List.map rowV R) (List.length R) :: D.row (List.map iD W) (List.length W) :: List.flatMap rawC (List.drop (i + 1) l))) (by simp (disch := omega) only [Int.toNat_natCast, List.cons_append, List.nil_append, hg2]) (vr 4 (True ∧ 0 < List.length (D.row (List.map iD W) (List.length W) :: List.flatMap rawC (List.drop (i + 1) l)) ∧ ix ↑k ↑(List.length W) (List.map iD W ≠ [])) (vp 56 k (List.map iD W) (vr 1 (0 < List.length (List.drop k (List.map iD W))) (vsh 57 hx (vrT 2 ?_)))))))
     refine vsp 59 (decide (List.getD W k (0 : Int) < 0)) (fun hc => ?_) (fun hc => ?_)
     simp only [decide_eq_true_eq] at hc
     refine veT (vt (zB (zA rfl (veT (zM (zN (zJ (zJ (zN (zN (zJ (zJ (zN ?_)))))))))))))
     refine zJ ?_
     refine vre (True) (D.val (Value.bool false)) (.inr rfl) ?_
     rotate_left
     simp only [decide_eq_false_iff_not] at hc
     refine vr 3 (ix ↑i ↑(List.length l) (List.flatMap rawC l ≠ [])) (vs 62 (D.ptr (List.drop (Int.toNat (↑i : Int) * 3) (List.flatMap rawC l))) (D.ptr (D.row (List.map iD V) (List.length V) :: D.row (List.map rowV R) (List.length R) :: D.row (List.map iD W) (List.length W) :: List.flatMap rawC (List.drop (i + 1) l))) (by simp (disch := omega) only [Int.toNat_natCast, List.cons_append, List.nil_append, hg2]) (vr 4 (True ∧ 0 < List.length (D.row (List.map iD W) (List.length W) :: List.flatMap rawC (List.drop (i + 1) l)) ∧ ix ↑k ↑(List.length W) (List.map iD W ≠ [])) (vp 66 k (List.map iD W) (vr 1 (0 < List.length (List.drop k (List.map iD W))) (vsh 67 hx (veT ?_))))))
     refine zV (t := decide (List.getD W k (0 : Int) > (1000 : Int))) (by kernel_rfl) (fun hc => ?_) (fun hc => ?_)
     simp only [decide_eq_true_eq] at hc
     refine zB (zA rfl (veT (zM (zN (zJ (zJ (zN (zN (zJ (zJ (zN (zJ ?_))))))))))))
     refine vre (True) (D.val (Value.bool false)) (.inr rfl) ?_
     rotate_left
     simp only [decide_eq_false_iff_not] at hc
     refine zF (zE (zC (zD (zA rfl (vr 3 (i6 (↑k + 1)) (vnil (zC ?_)))))))
     rotate_left
    ·rw [hno (hbw (by omega))]
    ·rw [hno (hbw (by omega))]
    ·refine ⟨k + 1, ⟨by omega, fun j hj hjl => ?_⟩, by omega, ?_⟩
     ·rcases Nat.lt_or_ge j k with h | h
      ·exact k2 j h hjl
      ·obtain rfl : j = k := by omega
       exact decide_eq_true (by omega)
     ·refine vk 0
   ·have hw := zFo (p := fun w : Int => decide (0 ≤ w ∧ w ≤ 1000)) (d := 0) k3 k2
    have hfr : fewR ⟨V, R, W⟩ = true := by
     unfold fewR
     rw [hw]; simp [b1, b2, b3]
    focus
     refine zB (zB (zA rfl (v0s (vr 4 (ix ↑i ↑(List.length l) (List.flatMap rawC l ≠ [])) (vs 43 (D.ptr (List.drop (Int.toNat (↑i : Int) * 3) (List.flatMap rawC l))) (D.ptr (D.row (List.map iD V) (List.length V) :: D.row (List.map rowV R) (List.length R) :: D.row (List.map iD W) (List.length W) :: List.flatMap rawC (List.drop (i + 1) l))) (by simp (disch := omega) only [Int.toNat_natCast, List.cons_append, List.nil_append, hg2]) (ve (True ∧ 0 < List.length (D.row (List.map iD W) (List.length W) :: List.flatMap rawC (List.drop (i + 1) l))) (vF ((↑k : Int) < ↑(List.length W)) (zQ (zH (zH (zP rfl (zE (zC ?_)))))))))))))
     refine zD (zA rfl (vr 3 (i6 (↑i + 1)) (vnil (zC ?_))))
     rotate_left
    refine ⟨i + 1, ⟨by omega, by omega, fun j hj => ?_⟩, by omega, ?_⟩
    ·rcases Nat.lt_or_ge j i with h | h
     ·exact h2 j h
     ·obtain rfl : j = i := by omega
      rw [hff]; exact hfr
    ·refine vk 0
  ·have hfr : fewR ⟨V, R, W⟩ = false := by
    unfold fewR
    rw [Bool.eq_false_iff]
    intro k
    simp only [Bool.and_eq_true, decide_eq_true_eq] at k
    exact hbad ⟨k.1, k.2.1, k.2.2.1⟩
   rw [hno hfr]
   focus
    refine zB (zB (zA rfl (v0s (vew [] [(4, true)] (decide ((↑i : Int) < ↑(List.length l)) = true) (vT ((↑i : Int) < (5 : Int)) (zF (zC (zD (zB (zG (zB (zB (zA rfl ?_)))))))))))))
    refine vr 3 (ix ↑i ↑(List.length l) (List.flatMap rawC l ≠ [])) (vs 17 (D.ptr (List.drop (Int.toNat (↑i : Int) * 3) (List.flatMap rawC l))) (D.ptr (D.row (List.map iD V) (List.length V) :: D.row (List.map rowV R) (List.length R) :: D.row (List.map iD W) (List.length W) :: List.flatMap rawC (List.drop (i + 1) l))) (by simp (disch := omega) only [Int.toNat_natCast, List.cons_append, List.nil_append, hg2]) (vr 5 (True ∧ 0 < List.length (D.row (List.map rowV R) (List.length R) :: D.row (List.map iD W) (List.length W) :: List.flatMap rawC (List.drop (i + 1) l))) ?_))
    refine vsp 22 (decide ((↑(List.length R) : Int) > (10 : Int))) (fun hc => ?_) (fun hc => ?_)
    simp only [decide_eq_true_eq] at hc
    refine veT (vt (zB (zA rfl (veT (zM (zJ (zN (zJ (zJ (zN (zJ (vret (True) (.inr rfl)))))))))))))
    simp only [decide_eq_false_iff_not] at hc
    refine vr 3 (ix ↑i ↑(List.length l) (List.flatMap rawC l ≠ [])) (vs 25 (D.ptr (List.drop (Int.toNat (↑i : Int) * 3) (List.flatMap rawC l))) (D.ptr (D.row (List.map iD V) (List.length V) :: D.row (List.map rowV R) (List.length R) :: D.row (List.map iD W) (List.length W) :: List.flatMap rawC (List.drop (i + 1) l))) (by simp (disch := omega) only [Int.toNat_natCast, List.cons_append, List.nil_append, hg2]) (vr 6 (True ∧ 0 < List.length (D.row (List.map iD V) (List.length V) :: D.row (List.map rowV R) (List.length R) :: D.row (List.map iD W) (List.length W) :: List.flatMap rawC (List.drop (i + 1) l))) ?_))
    refine vsp 31 (decide ((↑(List.length V) : Int) > (4 : Int))) (fun hc => ?_) (fun hc => ?_)
    simp only [decide_eq_true_eq] at hc
    refine veT (vt (zB (zA rfl (veT (zM (zJ (zN (zJ (zJ (zN (zJ (vret (True) (.inr rfl)))))))))))))
    simp only [decide_eq_false_iff_not] at hc
    refine vr 3 (ix ↑i ↑(List.length l) (List.flatMap rawC l ≠ [])) (vs 34 (D.ptr (List.drop (Int.toNat (↑i : Int) * 3) (List.flatMap rawC l))) (D.ptr (D.row (List.map iD V) (List.length V) :: D.row (List.map rowV R) (List.length R) :: D.row (List.map iD W) (List.length W) :: List.flatMap rawC (List.drop (i + 1) l))) (by simp (disch := omega) only [Int.toNat_natCast, List.cons_append, List.nil_append, hg2]) (ve (True ∧ 0 < List.length (D.row (List.map iD W) (List.length W) :: List.flatMap rawC (List.drop (i + 1) l))) (vT ((↑(List.length W) : Int) > (12 : Int)) (zB (zA rfl (veT (zM (zJ (zN (zJ (zJ (zN (zJ ?_)))))))))))))
    refine vret (True) (.inr rfl)
 ·rw [fewP_yes fun j j5 jl => h2 j (by omega)]
  have e4 : decide ((l.length : Int) ≤ 4) = decide (l.length ≤ 4) := by rw [decide_eq_decide]; omega
  focus
   refine zB (zB (zA rfl (v0s (vrT 5 ?_))))
   refine vsp 9 (decide ((↑i : Int) < ↑(List.length l))) (fun hc => ?_) (fun hc => ?_)
   simp only [decide_eq_true_eq] at hc
   refine veT (vF ((↑i : Int) < (5 : Int)) (zQ (zH (zH (zP rfl (zC (zD (zB (zA rfl (vrT 3 (vs 72 (bD (decide ((↑(List.length l) : Int) ≤ (4 : Int)))) (bD (decide (List.length l ≤ 4))) (by simp (disch := omega) only [e4]) (veT (zM ?_)))))))))))))
   refine vret (True) (.inr rfl)
   simp only [decide_eq_false_iff_not] at hc
   refine veT (vf (zQ (zH (zH (zP rfl (zC (zD (zB (zA rfl (vrT 3 (vs 72 (bD (decide ((↑(List.length l) : Int) ≤ (4 : Int)))) (bD (decide (List.length l ≤ 4))) (by simp (disch := omega) only [e4]) (veT (zM ?_)))))))))))))
   refine vret (True) (.inr rfl)
end
section
open Go.RowKit
def ddp : List Va → List Va
 | [] => []
 | a :: l => if a ∈ ddp l then ddp l else a :: ddp l
theorem zKx : ∀ {l : List Va} {a : Va}, a ∈ ddp l ↔ a ∈ l
 | [], a => by simp [ddp]
 | b :: l, a => by
  rw [ddp]
  split
  ·rename_i h
   rw [zKx, List.mem_cons]
   constructor
   ·exact .inr
   ·rintro (rfl | h2)
    ·exact zKx.1 h
    ·exact h2
  ·rw [List.mem_cons, List.mem_cons, zKx]
theorem zDy : ∀ l : List Va, (ddp l).Nodup
 | [] => by simp [ddp]
 | b :: l => by
  rw [ddp]
  split
  ·exact zDy l
  ·rename_i h; exact List.nodup_cons.2 ⟨h, zDy l⟩
def domP (fs : List Rn) : List Va := ddp (fs.flatMap fun f => f.R.flatten)
theorem zS3 {fs : List Rn} {f : Rn} (hf : f ∈ fs) {x : Rw} (hx : x ∈ f.R) {a : Va} (ha : a ∈ x) : a ∈ domP fs :=
 zKx.2 (List.mem_flatMap.2 ⟨f, hf, List.mem_flatten.2 ⟨x, hx, ha⟩⟩)
theorem zXs {fs : List Rn} (hv : ∀ f ∈ fs, ∀ x ∈ f.R, ∀ a ∈ x, Vi a) (hk : ∀ f ∈ fs, ∀ x ∈ f.R, x.all vok = true) : Okv (domP fs) := fun a ha => by
 obtain ⟨f, hf, h1⟩ := List.mem_flatMap.1 (zKx.1 ha)
 obtain ⟨x, hx, h2⟩ := List.mem_flatten.1 h1
 have h3 := hv f hf x hx a h2
 have h4 := List.all_eq_true.1 (hk f hf x hx) a h2
 refine ⟨h4, ?_⟩
 obtain ⟨k1, k2, k3⟩ := h3
 simp only [inK] at k1 k2
 refine ⟨⟨k1.1, k1.2⟩, ⟨k2.1, k2.2⟩, ?_⟩
 unfold vok at h4
 split at h4
 ·have : a.str = [] := by simpa using h4
  rw [this]; simp
 ·split at h4
  ·simp only [Bool.and_eq_true, decide_eq_true_eq] at h4; omega
  ·cases h4
def toFa (f : Rn) : Fa Nat := ⟨f.V.map Int.toNat, f.R.zip f.W⟩
theorem zip_fst (R : List Rw) (W : List Nat) (h : R.length = W.length) : (R.zip W).map (·.1) = R := List.map_fst_zip (by omega)
theorem zip_snd (R : List Rw) (W : List Nat) (h : R.length = W.length) : (R.zip W).map (·.2) = W := List.map_snd_zip (by omega)
structure Tofa (Dm : List Va) (f : Rn) : Prop where
 c : rnC f = faAc (toFa f)
 w : rwD f = rfAc (toFa f)
 ok : FOk rcmp Dm (toFa f)
 r : rz (toFa f) ≤ 11
 v : vz (toFa f) ≤ 10001
 A : f.V = intL (toFa f).A
theorem zTk {l : List Nat} {b : Nat} (h : ∀ w ∈ l, w ≤ b) : l.sum ≤ l.length * b := by
 induction l with
 | nil => simp
 | cons a l ih =>
  have h1 := h a (List.mem_cons_self ..)
  have h2 := ih fun w hw => h w (List.mem_cons_of_mem _ hw)
  rw [List.sum_cons, List.length_cons, Nat.succ_mul]; omega
theorem tofa {n : Int} {Dm : List Va} {f : Rn} (hn : n ≤ 32) (h : chkR n f = 0) (hs : Rsm f) (hd : ∀ x ∈ f.R, ∀ a ∈ x, a ∈ Dm) : Tofa Dm f := by
 obtain ⟨V, R, W⟩ := f
 obtain ⟨A, hA, hfit⟩ := zF5 h
 have hA : V = intL A := hA
 subst hA
 have eA : ((intL A).map fun z => iD z) = nsD A := by simp [intL]
 have hm : R.length = W.length := hfit.m
 have z1 := zip_fst R W hm
 have z2 := zip_snd R W hm
 have zl : (R.zip W).length = R.length := by rw [← z1, List.length_map, z1]
 have tA : (intL A).map Int.toNat = A := zDo A
 have et : toFa ⟨intL A, R, W⟩ = ⟨A, R.zip W⟩ := by unfold toFa; simp only [tA]
 have hR : R.length ≤ 10 := hs.r
 refine ⟨?_, ?_, ?_, ?_, ?_, ?_⟩
 ·rw [et]
  show [D.row ((intL A).map fun z => iD z) (intL A).length, .row (R.map rowV) R.length, .row (W.map natD) W.length] = [.row (nsD A) A.length, .row (((R.zip W).map (·.1)).map rowV) (R.zip W).length, .row (((R.zip W).map (·.2)).map natD) (R.zip W).length]
  rw [eA, z1, z2, zl, List.length_map, hm]
 ·rw [et]
  show [D.row ((intL A).map fun z => iD z) (intL A).length, .row (R.map rowV) R.length, .row ((natI W).map fun z => iD z) (natI W).length] = [.row (nsD A) A.length, .row (((R.zip W).map (·.1)).map rowV) (R.zip W).length, .row (nsD ((R.zip W).map (·.2))) (R.zip W).length]
  rw [eA, zLw, z1, z2, zl, List.length_map, List.length_map, hm]
 ·rw [et]
  have hmem : ∀ p ∈ R.zip W, p.1 ∈ R := fun p hp => by rw [← z1]; exact List.mem_map.2 ⟨p, hp, rfl⟩
  refine ⟨⟨hfit.asc, fun v hv => by have := hfit.lt v hv; omega⟩, fun p hp => hfit.len p.1 (hmem p hp), ?_, fun p hp a ha => hd p.1 (hmem p hp) a ha⟩
  have := hfit.srt
  rw [← z1] at this
  exact List.pairwise_map.1 this
 ·rw [et]; unfold rz; simp only [zl]; omega
 ·rw [et]
  unfold vz
  simp only [z2]
  have h1 := zTk (l := W) (b := 1000) hs.b
  omega
 ·rw [et]
theorem zXm {n : Int} {fs : List Rn} (hn : n ≤ 32) (h : errL n fs = 0) (hs : ∀ f ∈ fs, Rsm f) : ∀ f ∈ fs, Tofa (domP fs) f := fun f hf =>
 tofa hn (zGu h f hf) (hs f hf) fun x hx a ha => zS3 hf hx ha
theorem errL_dom {n : Int} {fs : List Rn} (h : errL n fs = 0) (hv : ∀ f ∈ fs, ∀ x ∈ f.R, ∀ a ∈ x, Vi a) : Okv (domP fs) :=
 zXs hv fun f hf x hx => by
  obtain ⟨A, hA, hfit⟩ := zF5 (zGu h f hf)
  exact hfit.vok x hx
theorem flat_c {Dm : List Va} : ∀ {fs : List Rn}, (∀ f ∈ fs, Tofa Dm f) → fs.flatMap rnC = (fs.map toFa).flatMap faAc ∧ fs.flatMap rwD = (fs.map toFa).flatMap rfAc
 | [], _ => ⟨rfl, rfl⟩
 | f :: fs, h => by
  obtain ⟨h1, h2⟩ := flat_c fun g hg => h g (List.mem_cons_of_mem _ hg)
  have h3 := h f (List.mem_cons_self ..)
  constructor
  ·rw [List.flatMap_cons, h1, h3.c]; rfl
  ·rw [List.flatMap_cons, h2, h3.w]; rfl
theorem pz_le {α : Type} {z : α → Nat} {b : Nat} : ∀ {l : List α}, (∀ a ∈ l, z a ≤ b) → pz z l ≤ b ^ l.length
 | [], _ => by simp [pz]
 | a :: l, h => by
  rw [zBt, List.length_cons, Nat.pow_succ, Nat.mul_comm]
  exact Nat.mul_le_mul (pz_le fun c hc => h c (List.mem_cons_of_mem _ hc)) (h a (List.mem_cons_self ..))
theorem sizes {Dm : List Va} {fs : List Rn} (hl : fs.length ≤ 4) (h : ∀ f ∈ fs, Tofa Dm f) : 2 * pz rz (fs.map toFa) ≤ 900000 ∧ 2 * pz vz (fs.map toFa) ≤ 4000000000000000000 := by
 have h1 := pz_le (z := rz) (b := 11) (l := fs.map toFa) fun a ha => by
  obtain ⟨f, hf, rfl⟩ := List.mem_map.1 ha
  exact (h f hf).r
 have h2 := pz_le (z := vz) (b := 10001) (l := fs.map toFa) fun a ha => by
  obtain ⟨f, hf, rfl⟩ := List.mem_map.1 ha
  exact (h f hf).v
 rw [List.length_map] at h1 h2
 have h3 : 11 ^ fs.length ≤ 11 ^ 4 := Nat.pow_le_pow_right (by omega) hl
 have h4 : 10001 ^ fs.length ≤ 10001 ^ 4 := Nat.pow_le_pow_right (by omega) hl
 have e1 : 11 ^ 4 = 14641 := by decide
 have e2 : 10001 ^ 4 = 10004000600040001 := by decide
 omega
theorem cov_fa {Dm : List Va} {n : Nat} {fs : List Rn} (hc : covP n fs = true) (h : ∀ f ∈ fs, Tofa Dm f) : ∀ v, v < n → ∃ f ∈ fs.map toFa, v ∈ f.A := fun v hv => by
 unfold covP at hc
 rw [List.all_eq_true] at hc
 have := hc v (by simpa using hv)
 rw [List.any_eq_true] at this
 obtain ⟨f, h1, h2⟩ := this
 refine ⟨toFa f, List.mem_map.2 ⟨f, h1, rfl⟩, ?_⟩
 rw [(h f h1).A] at h2
 exact zEh.1 (by simpa using h2)
end
section
open Go.RowKit
set_option maxRecDepth 4096
theorem Rsm.z {f : Rn} (h : Rsm f) : Rsz f := ⟨by have := h.v; omega, by have := h.r; omega⟩
theorem zYv {n keep : Nat} {fs : List Rn} (h : zLh n keep fs = 0) : n ≤ 32 ∧ keep >>> n = 0 ∧ errL n fs = 0 ∧ covP n fs = true := by
 unfold zLh at h
 rw [Int.toNat_natCast] at h
 split at h
 ·cases h
 rename_i h1
 simp only [not_or, Classical.not_not] at h1
 split at h
 ·omega
 rename_i h2
 split at h
 ·rename_i h3
  exact ⟨by omega, h1.2.2, by omega, h3⟩
 ·cases h
structure Mg (n keep : Nat) (fs : List Rn) (m : Fa Nat) : Prop where
 e : m = refS rcmp Sn (refP rcmp Sn (zAu Sn) (fs.map toFa)) ((List.range n).filter fun v => !keep.testBit v)
 ok : FOk rcmp (domP fs) m
 r : rz m ≤ 900000
 v : vz m ≤ 4000000000000000000
 A : ∀ v, v ∈ m.A ↔ v < n ∧ keep.testBit v = true
 p : Pure Tryd.prog 9 [cntD, iD (n : Nat), u32D keep, .row (fs.flatMap rnC) fs.length] [] (.tup [faA m, iD 0])
 q : Pure Tryd.prog 15 [iD (n : Nat), u32D keep, .row (fs.flatMap rwD) fs.length] [] (rfA m)
theorem zSq {n keep : Nat} {fs : List Rn} (hn : n ≤ 8) (hk : keep < 4294967296) (hl : fs.length ≤ 4) (hs : ∀ f ∈ fs, Rsm f) (hv : ∀ f ∈ fs, ∀ x ∈ f.R, ∀ a ∈ x, Vi a) (h0 : zLh n keep fs = 0) : ∃ m, Mg n keep fs m := by
 obtain ⟨_, _, h1, h2⟩ := zYv h0
 have ht := zXm (by omega) h1 hs
 have hD := errL_dom h1 hv
 obtain ⟨c1, c2⟩ := flat_c ht
 obtain ⟨s1, s2⟩ := sizes hl ht
 have hcv := cov_fa h2 ht
 have hok : ∀ g ∈ fs.map toFa, FOk rcmp (domP fs) g := fun g hg => by
  obtain ⟨f, hf, rfl⟩ := List.mem_map.1 hg
  exact (ht f hf).ok
 have hlt : ∀ g ∈ fs.map toFa, ∀ v ∈ g.A, v < n := fun g hg v hgv => by
  obtain ⟨f, hf, rfl⟩ := List.mem_map.1 hg
  obtain ⟨A, hA, hfit⟩ := zF5 (zGu h1 f hf)
  have e := (ht f hf).A
  have : (v : Int) ∈ f.V := by rw [e]; exact zEh.2 hgv
  rw [hA] at this
  have := hfit.lt v (zEh.1 this)
  omega
 have hck := zVe n keep fs hn hk (by omega) fun f hf => (hs f hf).z
 rw [h0, c1] at hck
 have hln : (fs.map toFa).length = fs.length := by simp
 have hEn : ((List.range n).filter fun v => !keep.testBit v).Nodup := List.nodup_range.filter _
 have hEc : ∀ v ∈ (List.range n).filter (fun v => !keep.testBit v), ∃ f ∈ fs.map toFa, v ∈ f.A := fun v h => hcv v (by have := (List.mem_filter.1 h).1; simpa using this)
 have hm := zT3 hD (zDy _) n keep (fs.map toFa) hn hk hok (by omega) s1 s2 hcv (by rw [hln]; exact hck)
 have hq := rmarg_c n keep (fs.map toFa) (by omega) hk hok (by omega) s1 s2 hcv
 have he := zZy (pop := popN) (S := Sn) rcw (zDy _) hEn (.refl _) hok hEc
 have hA := zWx (pop := popN) (S := Sn) rcw (zDy _) hEn hok hEc
 rw [hln] at hm hq
 rw [← c1] at hm
 rw [← c2] at hq
 have z1 := zJ2 (S := Sn) (z := rz) (zF4 (c := rcmp) Sn) (fs.map toFa) (zAu Sn)
 have z2 := zJ2 (S := Sn) (z := vz) (zF3 (c := rcmp)) (fs.map toFa) (zAu Sn)
 have z3 := zPb (S := Sn) (z := rz) (zM6 (c := rcmp) Sn) ((List.range n).filter fun v => !keep.testBit v) (refP rcmp Sn (zAu Sn) (fs.map toFa))
 have z4 := zPb (S := Sn) (z := vz) (fun v f => Nat.le_of_eq (zM5 (c := rcmp) v f)) ((List.range n).filter fun v => !keep.testBit v) (refP rcmp Sn (zAu Sn) (fs.map toFa))
 have h8 : rz (zAu Sn) = 2 := rfl
 have h9 : vz (zAu Sn) = 2 := rfl
 rw [h8] at z1
 rw [h9] at z2
 rw [he] at hm hA
 refine ⟨_, rfl, ?_, by omega, by omega, fun v => ?_, hm, hq⟩
 ·exact zG3 rcw _ _ (zJ3 rcw _ _ zFw hok)
 ·rw [hA]
  constructor
  ·rintro ⟨⟨f, hf, h3⟩, h4⟩
   have := hlt f hf v h3
   refine ⟨this, ?_⟩
   simpa [this] using h4
  ·rintro ⟨h3, h4⟩
   exact ⟨hcv v h3, by simp [h4]⟩
end
section
open Go.RowKit
attribute [local irreducible] seqW awp zAf zAo zAg Weak updS zAv retL Pure Acts rP setP setQ cP nP fr
set_option maxRecDepth 4096
abbrev exV (n : Int) : Va := ⟨1, n, []⟩
theorem zH9 (n : Int) : Pure Tryd.prog 28 [iD n] [] (.agg [iD 1, iD n, strD []]) := by
 refine zL zCb mixed Tryd.func28 rfl ?_
 refine zB (zA rfl (v0s (veT (zB (zA rfl (ve (((1 = 1 ∧ 1 ≤ 3 ∧ 1 = 1 ∧ 2 ≤ 3 ∧ True) ∧ true = true) ∧ false = false ∧ true = true ∧ 3 = 3 ∧ 3 ≤ 3) (zM (vret (3 ≤ 3) (.inr rfl)))))))))
abbrev exA (o : Nat) : Rn := ⟨[0, 1], [[exV 1, exV 1], [exV 1, exV 2]], [o, o]⟩
abbrev exB (o : Nat) : Rn := ⟨[1, 2], [[exV 1, exV 5], [exV 2, exV 5], [exV 2, exV 6]], [o, o, o]⟩
abbrev exF (o : Nat) : List Rn := [exA o, exB o]
abbrev zLf (a b : Int) : D := .row [iD 1, iD a, strD [], iD 1, iD b, strD []] 2
abbrev exDA : D := .agg [.row [iD 0, iD 1] 2, .row [zLf 1 1, zLf 1 2] 2, .row [iD 1, iD 1] 2]
abbrev exDB : D := .agg [.row [iD 1, iD 2] 2, .row [zLf 1 5, zLf 2 5, zLf 2 6] 3, .row [iD 1, iD 1, iD 1] 3]
def Te : Par := ⟨fun _ => false, fun _ _ => none, fun _ => false, fun _ => false, fun t => t == 72⟩
theorem Te_ok : zBh Tryd.prog Te := by intro t n f h; cases h
abbrev q13_ := D.agg [D.osl 2 0 2 2 true, D.osl 5 0 2 2 true, D.osl 6 0 2 2 true]
abbrev q19_ := D.val (Value.string (bs []))
abbrev q14_ := D.agg [iD 1, iD 1, q19_]
abbrev q15_ := D.agg [iD 1, iD 5, q19_]
abbrev q16_ := D.agg [iD 1, iD 2, q19_]
abbrev q17_ := D.agg [iD 1, iD 6, q19_]
abbrev q18_ := D.agg [D.osl 8 0 2 2 true, D.osl 12 0 3 3 true, D.osl 13 0 3 3 true]
theorem zXk : Pure Tryd.prog 27 [] [] (.tup [exDA, exDB]) := by
 refine zL Te_ok mixed Tryd.func27 rfl ?_
 focus
  refine zB (zA rfl (v0s (veT (zB (zA rfl (vr 1 ((1 = 1 ∧ 1 ≤ 2 ∧ 1 = 1 ∧ 2 ≤ 2 ∧ True) ∧ 0 < 1 ∧ 1 = 1 ∧ 2 ≤ 16777216 ∧ 2 ≤ 9223372036854775807) (vc (zH9 1) (vc (zH9 1) (vr 1 ((3 = 3 ∧ 3 ≤ 6 ∧ 3 = 3 ∧ 6 ≤ 6 ∧ True) ∧ 0 < 3 ∧ 3 = 3 ∧ 6 ≤ 16777216 ∧ 2 ≤ 9223372036854775807) (vc (zH9 1) (vc (zH9 2) (ve (((3 = 3 ∧ 3 ≤ 6 ∧ 3 = 3 ∧ 6 ≤ 6 ∧ True) ∧ 0 < 3 ∧ 3 = 3 ∧ 6 ≤ 16777216 ∧ 2 ≤ 9223372036854775807) ∧ ((1 = 1 ∧ 1 ≤ 2 ∧ 1 = 1 ∧ 2 ≤ 2 ∧ True) ∧ 0 < 1 ∧ 1 = 1 ∧ 2 ≤ 16777216 ∧ 2 ≤ 9223372036854775807) ∧ ((1 = 1 ∧ 1 ≤ 2 ∧ 1 = 1 ∧ 2 ≤ 2 ∧ True) ∧ 0 < 1 ∧ 1 = 1 ∧ 2 ≤ 16777216 ∧ 2 ≤ 9223372036854775807) ∧ ((1 = 1 ∧ 1 ≤ 3 ∧ 1 = 1 ∧ 2 ≤ 3 ∧ 1 = 1 ∧ 3 ≤ 3 ∧ True) ∧ true = true) ∧ false = false ∧ true = true ∧ 3 = 3 ∧ 3 ≤ 3) (zB ?_)))))))))))))
  refine zDz [0, 1, 2, 3, 4, 5, 6, 7, 8, 9, 10, 11, 12, 13] [(14, [(1, 8), (4, 9), (7, 10), (10, 11), (11, 12), (12, 13), (13, 100000)], [15])] (by kernel_rfl) rfl ?_
  refine vr 2 (3 ≤ 3 ∧ (1 = 1 ∧ 1 ≤ 2 ∧ 1 = 1 ∧ 2 ≤ 2 ∧ True) ∧ 0 < 1 ∧ 1 = 1 ∧ 2 ≤ 16777216 ∧ 2 ≤ 9223372036854775807) (vc (zH9 1) (vc (zH9 5) (vr 1 ((3 = 3 ∧ 3 ≤ 6 ∧ 3 = 3 ∧ 6 ≤ 6 ∧ True) ∧ 0 < 3 ∧ 3 = 3 ∧ 6 ≤ 16777216 ∧ 2 ≤ 9223372036854775807) (vc (zH9 2) (vc (zH9 5) (vr 1 ((3 = 3 ∧ 3 ≤ 6 ∧ 3 = 3 ∧ 6 ≤ 6 ∧ True) ∧ 0 < 3 ∧ 3 = 3 ∧ 6 ≤ 16777216 ∧ 2 ≤ 9223372036854775807) (vc (zH9 2) (vc (zH9 6) (vr 4 (((3 = 3 ∧ 3 ≤ 6 ∧ 3 = 3 ∧ 6 ≤ 6 ∧ True) ∧ 0 < 3 ∧ 3 = 3 ∧ 6 ≤ 16777216 ∧ 2 ≤ 9223372036854775807) ∧ ((1 = 1 ∧ 1 ≤ 3 ∧ 1 = 1 ∧ 2 ≤ 3 ∧ 1 = 1 ∧ 3 ≤ 3 ∧ True) ∧ 0 < 1 ∧ 1 = 1 ∧ 3 ≤ 16777216 ∧ 3 ≤ 9223372036854775807) ∧ ((1 = 1 ∧ 1 ≤ 3 ∧ 1 = 1 ∧ 2 ≤ 3 ∧ 1 = 1 ∧ 3 ≤ 3 ∧ True) ∧ 0 < 1 ∧ 1 = 1 ∧ 3 ≤ 16777216 ∧ 3 ≤ 9223372036854775807) ∧ (1 = 1 ∧ 1 ≤ 3 ∧ 1 = 1 ∧ 2 ≤ 3 ∧ 1 = 1 ∧ 3 ≤ 3 ∧ True) ∧ true = true) (vnil (zD6 rfl rfl (by kernel_rfl) (vr 1 (false = false ∧ true = true ∧ 3 = 3 ∧ 3 ≤ 3) (vnil ?_)))))))))))))
  refine zD5 (C := ((1 = 1 ∧ 1 ≤ 2 ∧ 1 = 1 ∧ 2 ≤ 2 ∧ True) ∧ 0 < 1 ∧ 1 = 1 ∧ 2 ≤ 16777216 ∧ 2 ≤ 9223372036854775807) ∧ [D.own 0 0, D.own 1 0, D.own 7 0, Uk, Uk, Uk, Uk, Uk, Uk, Uk, Uk, Uk, Uk, q13_, D.osl 8 0 2 2 true, q14_, q15_, D.osl 9 0 2 6 true, q16_, q15_, D.osl 10 0 2 6 true, q16_, q17_, D.osl 11 0 2 6 true, D.osl 12 0 3 3 true, D.osl 13 0 3 3 true, q18_][14]? = some (D.osl 8 0 2 2 true) ∧ eqDL [iD 1, iD 2] [iD 1, iD 2] ∧ 3 = 3 ∧ 1 = 1 ∧ true = true ∧ Bk.kd (Bk.mk [iD 1, iD 2] 3 1 true false Kd.plain) = Kd.plain ∧ ((3 = 3 ∧ 3 ≤ 6 ∧ 3 = 3 ∧ 6 ≤ 6 ∧ True) ∧ 0 < 3 ∧ 3 = 3 ∧ 6 ≤ 16777216 ∧ 2 ≤ 9223372036854775807) ∧ [D.own 0 0, D.own 1 0, D.own 7 0, Uk, Uk, Uk, Uk, Uk, Uk, Uk, Uk, Uk, Uk, q13_, D.osl 8 0 2 2 true, q14_, q15_, D.osl 9 0 2 6 true, q16_, q15_, D.osl 10 0 2 6 true, q16_, q17_, D.osl 11 0 2 6 true, D.osl 12 0 3 3 true, D.osl 13 0 3 3 true, q18_][17]? = some (D.osl 9 0 2 6 true) ∧ eqDL [iD 1, iD 1, q19_, iD 1, iD 5, q19_] [iD 1, iD 1, q19_, iD 1, iD 5, q19_] ∧ 69 = 69 ∧ 3 = 3 ∧ true = true ∧ Bk.kd (Bk.mk [iD 1, iD 1, q19_, iD 1, iD 5, q19_] 69 3 true false Kd.plain) = Kd.plain ∧ ((3 = 3 ∧ 3 ≤ 6 ∧ 3 = 3 ∧ 6 ≤ 6 ∧ True) ∧ 0 < 3 ∧ 3 = 3 ∧ 6 ≤ 16777216 ∧ 2 ≤ 9223372036854775807) ∧ [D.own 0 0, D.own 1 0, D.own 7 0, Uk, Uk, Uk, Uk, Uk, Uk, Uk, Uk, Uk, Uk, q13_, D.osl 8 0 2 2 true, q14_, q15_, D.osl 9 0 2 6 true, q16_, q15_, D.osl 10 0 2 6 true, q16_, q17_, D.osl 11 0 2 6 true, D.osl 12 0 3 3 true, D.osl 13 0 3 3 true, q18_][20]? = some (D.osl 10 0 2 6 true) ∧ eqDL [iD 1, iD 2, q19_, iD 1, iD 5, q19_] [iD 1, iD 2, q19_, iD 1, iD 5, q19_] ∧ 69 = 69 ∧ 3 = 3 ∧ true = true ∧ Bk.kd (Bk.mk [iD 1, iD 2, q19_, iD 1, iD 5, q19_] 69 3 true false Kd.plain) = Kd.plain ∧ ((3 = 3 ∧ 3 ≤ 6 ∧ 3 = 3 ∧ 6 ≤ 6 ∧ True) ∧ 0 < 3 ∧ 3 = 3 ∧ 6 ≤ 16777216 ∧ 2 ≤ 9223372036854775807) ∧ [D.own 0 0, D.own 1 0, D.own 7 0, Uk, Uk, Uk, Uk, Uk, Uk, Uk, Uk, Uk, Uk, q13_, D.osl 8 0 2 2 true, q14_, q15_, D.osl 9 0 2 6 true, q16_, q15_, D.osl 10 0 2 6 true, q16_, q17_, D.osl 11 0 2 6 true, D.osl 12 0 3 3 true, D.osl 13 0 3 3 true, q18_][23]? = some (D.osl 11 0 2 6 true) ∧ eqDL [iD 1, iD 2, q19_, iD 1, iD 6, q19_] [iD 1, iD 2, q19_, iD 1, iD 6, q19_] ∧ 69 = 69 ∧ 3 = 3 ∧ true = true ∧ Bk.kd (Bk.mk [iD 1, iD 2, q19_, iD 1, iD 6, q19_] 69 3 true false Kd.plain) = Kd.plain ∧ ((1 = 1 ∧ 1 ≤ 3 ∧ 1 = 1 ∧ 2 ≤ 3 ∧ 1 = 1 ∧ 3 ≤ 3 ∧ True) ∧ 0 < 1 ∧ 1 = 1 ∧ 3 ≤ 16777216 ∧ 3 ≤ 9223372036854775807) ∧ [D.own 0 0, D.own 1 0, D.own 7 0, Uk, Uk, Uk, Uk, Uk, Uk, Uk, Uk, Uk, Uk, q13_, D.osl 8 0 2 2 true, q14_, q15_, D.osl 9 0 2 6 true, q16_, q15_, D.osl 10 0 2 6 true, q16_, q17_, D.osl 11 0 2 6 true, D.osl 12 0 3 3 true, D.osl 13 0 3 3 true, q18_][24]? = some (D.osl 12 0 3 3 true) ∧ eqDL [D.osl 9 0 2 6 true, D.osl 10 0 2 6 true, D.osl 11 0 2 6 true] [D.osl 9 0 2 6 true, D.osl 10 0 2 6 true, D.osl 11 0 2 6 true] ∧ 72 = 72 ∧ 1 = 1 ∧ true = true ∧ Bk.kd (Bk.mk [D.osl 9 0 2 6 true, D.osl 10 0 2 6 true, D.osl 11 0 2 6 true] 72 1 true false Kd.sh) = Kd.sh ∧ ((1 = 1 ∧ 1 ≤ 3 ∧ 1 = 1 ∧ 2 ≤ 3 ∧ 1 = 1 ∧ 3 ≤ 3 ∧ True) ∧ 0 < 1 ∧ 1 = 1 ∧ 3 ≤ 16777216 ∧ 3 ≤ 9223372036854775807) ∧ [D.own 0 0, D.own 1 0, D.own 7 0, Uk, Uk, Uk, Uk, Uk, Uk, Uk, Uk, Uk, Uk, q13_, D.osl 8 0 2 2 true, q14_, q15_, D.osl 9 0 2 6 true, q16_, q15_, D.osl 10 0 2 6 true, q16_, q17_, D.osl 11 0 2 6 true, D.osl 12 0 3 3 true, D.osl 13 0 3 3 true, q18_][25]? = some (D.osl 13 0 3 3 true) ∧ eqDL [iD 1, iD 1, iD 1] [iD 1, iD 1, iD 1] ∧ 3 = 3 ∧ 1 = 1 ∧ true = true ∧ Bk.kd (Bk.mk [iD 1, iD 1, iD 1] 3 1 true false Kd.plain) = Kd.plain ∧ ((1 = 1 ∧ 1 ≤ 3 ∧ 1 = 1 ∧ 2 ≤ 3 ∧ 1 = 1 ∧ 3 ≤ 3 ∧ True) ∧ true = true) ∧ [D.own 0 0, D.own 1 0, D.own 7 0, Uk, Uk, Uk, Uk, Uk, Uk, Uk, Uk, Uk, Uk, q13_, D.osl 8 0 2 2 true, q14_, q15_, D.osl 9 0 2 6 true, q16_, q15_, D.osl 10 0 2 6 true, q16_, q17_, D.osl 11 0 2 6 true, D.osl 12 0 3 3 true, D.osl 13 0 3 3 true, q18_][26]? = some (q18_)) (by kernel_rfl) ⟨⟨⟨(by kernel_rfl), ⟨(by omega), ⟨(by kernel_rfl), ⟨(by omega), trivial⟩⟩⟩⟩, (by omega)⟩, (by kernel_rfl), rfl, (by kernel_rfl), (by kernel_rfl), (by kernel_rfl), (by kernel_rfl), ⟨⟨(by kernel_rfl), ⟨(by omega), ⟨(by kernel_rfl), ⟨(by omega), trivial⟩⟩⟩⟩, (by omega)⟩, (by kernel_rfl), rfl, (by kernel_rfl), (by kernel_rfl), (by kernel_rfl), (by kernel_rfl), ⟨⟨(by kernel_rfl), ⟨(by omega), ⟨(by kernel_rfl), ⟨(by omega), trivial⟩⟩⟩⟩, (by omega)⟩, (by kernel_rfl), rfl, (by kernel_rfl), (by kernel_rfl), (by kernel_rfl), (by kernel_rfl), ⟨⟨(by kernel_rfl), ⟨(by omega), ⟨(by kernel_rfl), ⟨(by omega), trivial⟩⟩⟩⟩, (by omega)⟩, (by kernel_rfl), rfl, (by kernel_rfl), (by kernel_rfl), (by kernel_rfl), (by kernel_rfl), ⟨⟨(by kernel_rfl), ⟨(by omega), ⟨(by kernel_rfl), ⟨(by omega), ⟨(by kernel_rfl), ⟨(by omega), trivial⟩⟩⟩⟩⟩⟩, (by omega)⟩, (by kernel_rfl), rfl, (by kernel_rfl), (by kernel_rfl), (by kernel_rfl), (by kernel_rfl), ⟨⟨(by kernel_rfl), ⟨(by omega), ⟨(by kernel_rfl), ⟨(by omega), ⟨(by kernel_rfl), ⟨(by omega), trivial⟩⟩⟩⟩⟩⟩, (by omega)⟩, (by kernel_rfl), rfl, (by kernel_rfl), (by kernel_rfl), (by kernel_rfl), (by kernel_rfl), ⟨⟨(by kernel_rfl), ⟨(by omega), ⟨(by kernel_rfl), ⟨(by omega), ⟨(by kernel_rfl), ⟨(by omega), trivial⟩⟩⟩⟩⟩⟩, (by kernel_rfl)⟩, (by kernel_rfl)⟩ (by kernel_rfl) ?_
  refine vr 1 (false = false ∧ true = true ∧ 3 = 3 ∧ 3 ≤ 3) (vnil (zGe (zC (zD (zM (vret (3 ≤ 3 ∧ 3 ≤ 3) (.inr rfl)))))))
abbrev exCA (o : Nat) : List D := [.row [iD 0, iD 1] 2, .row [zLf 1 1, zLf 1 2] 2, .row [natD o, natD o] 2]
abbrev exCB (o : Nat) : List D := [.row [iD 1, iD 2] 2, .row [zLf 1 5, zLf 2 5, zLf 2 6] 3, .row [natD o, natD o, natD o] 3]
theorem cntA_c (o : Nat) (ho : o = 1) : Pure Tryd.prog 18 [exDA] [] (.agg (exCA o)) := by
 have h := zKy (exA o) (by simp) (by simp [ho])
 have e : rawD (rnR (exA o)) = exDA := by subst ho; rfl
 rw [e] at h
 exact h
theorem cntB_c (o : Nat) (ho : o = 1) : Pure Tryd.prog 18 [exDB] [] (.agg (exCB o)) := by
 have h := zKy (exB o) (by simp) (by simp [ho])
 have e : rawD (rnR (exB o)) = exDB := by subst ho; rfl
 rw [e] at h
 exact h
theorem exF_s (o : Nat) (ho : o = 1) : ∀ f ∈ exF o, Rsm f := by
 subst ho
 intro f hf
 rcases List.mem_cons.1 hf with rfl | hf
 ·exact ⟨by decide, by decide, by decide, by decide⟩
 ·rcases List.mem_cons.1 hf with rfl | hf
  ·exact ⟨by decide, by decide, by decide, by decide⟩
  ·cases hf
theorem exF_v (o : Nat) (ho : o = 1) : ∀ f ∈ exF o, ∀ x ∈ f.R, ∀ a ∈ x, Vi a := by
 have hv : ∀ n : Int, inK .i64 n → Vi (exV n) := fun n hn => ⟨by simp [inK], hn, by simp⟩
 intro f hf x hx a ha
 have : a = exV 1 ∨ a = exV 2 ∨ a = exV 5 ∨ a = exV 6 := by
  simp only [exF, List.mem_cons, List.not_mem_nil, or_false] at hf
  rcases hf with rfl | rfl
  ·simp only [List.mem_cons, List.not_mem_nil, or_false] at hx
   rcases hx with rfl | rfl <;> simp only [List.mem_cons, List.not_mem_nil, or_false] at ha <;> rcases ha with rfl | rfl <;> simp
  ·simp only [List.mem_cons, List.not_mem_nil, or_false] at hx
   rcases hx with rfl | rfl | rfl <;> simp only [List.mem_cons, List.not_mem_nil, or_false] at ha <;> rcases ha with rfl | rfl <;> simp
 rcases this with rfl | rfl | rfl | rfl <;> exact hv _ (by simp [inK])
theorem exM (o t : Nat) (ho : o = 1) (ht : t = 2) : Pure Tryd.prog 9 [cntD, iD 3, u32D 4, .row (exCA o ++ exCB o) 2] [] (.tup [.agg [.row [iD 2] 1, .row [.row [iD 1, iD 5, strD []] 1, .row [iD 1, iD 6, strD []] 1] 2, .row [natD t, natD o] 2], iD 0]) := by
 obtain ⟨m, h⟩ := zSq (n := 3) (keep := 4) (fs := exF o) (by decide) (by decide) (by simp) (exF_s o ho) (exF_v o ho) (by subst ho; kernel_rfl)
 have e : m = ⟨[2], [([exV 5], t), ([exV 6], o)]⟩ := by rw [h.e]; subst ho ht; kernel_rfl
 have hp := h.p
 rw [e] at hp
 exact hp
theorem exM0 (o t : Nat) (ho : o = 1) (ht : t = 3) : Pure Tryd.prog 9 [cntD, iD 3, u32D 0, .row (exCA o ++ exCB o) 2] [] (.tup [faA ⟨[], [([], t)]⟩, iD 0]) := by
 obtain ⟨m, h⟩ := zSq (n := 3) (keep := 0) (fs := exF o) (by decide) (by decide) (by simp) (exF_s o ho) (exF_v o ho) (by subst ho; kernel_rfl)
 have e : m = ⟨[], [([], t)]⟩ := by rw [h.e]; subst ho ht; kernel_rfl
 have hp := h.p
 rw [e] at hp
 exact hp
theorem exT (o t : Nat) (ho : o = 1) (ht : t = 3) : Pure Tryd.prog 11 [cntD, iD 3, .row (exCA o ++ exCB o) 2] [] (.tup [natD t, iD 0]) := total_c _ _ _ _ (exM0 o t ho ht)
theorem exS (o t : Nat) (ho : o = 1) (ht : t = 2) : Pure Tryd.prog 14 [.agg [.row [iD 2] 1, .row [.row [iD 1, iD 5, strD []] 1, .row [iD 1, iD 6, strD []] 1] 2, .row [natD t, natD o] 2], .agg [.row [iD 2] 1, .row [.row [iD 1, iD 5, strD []] 1, .row [iD 1, iD 6, strD []] 1] 2, .row [iD 2, iD 1] 2]] [] (bD true) := by
 have h := same_c [2] [([exV 5], t), ([exV 6], o)] (by simp) (by simp) (by simp) (by subst ho ht; decide)
 have e : isD [([exV 5], t), ([exV 6], o)] = [iD 2, iD 1] := by subst ho ht; rfl
 unfold rfD rfC at h
 rw [e] at h
 exact h
set_option maxHeartbeats 4000000 in
theorem zK6 : Pure Tryd.prog 7 [] [] (bD true) := by
 obtain ⟨o, ho⟩ : ∃ o : Nat, o = 1 := ⟨1, rfl⟩
 obtain ⟨t, ht⟩ : ∃ o : Nat, o = 2 := ⟨2, rfl⟩
 obtain ⟨u, hu⟩ : ∃ o : Nat, o = 3 := ⟨3, rfl⟩
 have hof := of_c u (by omega)
 have e3 : D.val (.int .u64 (u : Int)) = .val (.int .u64 3) := by rw [hu]; rfl
 rw [e3] at hof
 have hcm := zWr u u (Sm.of (by omega)) (Sm.of (by omega))
 have e0 : cmpD (u : Int) (u : Int) = 0 := by rcases zA6 (u : Int) u with h | h | h <;> omega
 rw [e0] at hcm
 have h1 := cntA_c o ho
 have h2 := cntB_c o ho
 have h3 := exM o t ho ht
 have h4 := exT o u ho hu
 have h5 := exS o t ho ht
 refine zL zCb mixed Tryd.func7 rfl ?_
 focus
  refine zB (zA rfl (v0s (veT (zB (zA rfl (vc zXk (ve (0 < 2 ∧ 1 < 2 ∧ (false = false ∧ true = true ∧ 3 = 3 ∧ 3 ≤ 3) ∧ false = false ∧ true = true ∧ 3 = 3 ∧ 3 ≤ 3) (zB (vd [0, 1, 2, 3, 4, 5, 6, 7, 8, 9, 10, 11, 12] (vr 3 ((True ∧ true = true) ∧ 3 ≤ 3) (vc h1 (vr 1 (3 ≤ 3) (vc h2 ?_)))))))))))))
  refine vr 1 ((3 = 3 ∧ 3 ≤ 6 ∧ 3 = 3 ∧ 6 ≤ 6 ∧ True) ∧ 0 < 3 ∧ 3 = 3 ∧ 6 ≤ 16777216 ∧ 2 ≤ 9223372036854775807) (vc h4 (ve (0 < 2 ∧ 1 < 2) (zB (vd [0, 1, 2, 3, 4, 5, 6, 7, 8, 9, 10, 11, 12, 13] (vr 3 ((True ∧ true = true) ∧ 3 ≤ 3) (vc h1 (vr 1 (3 ≤ 3) (vc h2 (vr 1 ((3 = 3 ∧ 3 ≤ 6 ∧ 3 = 3 ∧ 6 ≤ 6 ∧ True) ∧ 0 < 3 ∧ 3 = 3 ∧ 6 ≤ 16777216 ∧ 2 ≤ 9223372036854775807) (vc h3 (ve (0 < 2 ∧ 1 < 2 ∧ false = false ∧ true = true ∧ 3 = 3 ∧ 3 ≤ 3) (zB (vd [0, 1, 2, 3, 4, 5, 6, 7, 8, 9, 10, 11, 12, 13, 14, 15, 16, 17, 18, 19, 20, 21, 22, 23, 24] ?_)))))))))))))
  refine vr 8 (True ∧ True) (vc hof (vc hcm (vr 5 (True ∧ 3 ≤ 3 ∧ (1 = 1 ∧ 1 ≤ 1 ∧ True) ∧ 0 < 1 ∧ 1 = 1 ∧ 1 ≤ 16777216 ∧ 1 ≤ 9223372036854775807) (vc (zH9 5) (vr 1 ((3 = 3 ∧ 3 ≤ 3 ∧ True) ∧ 0 < 3 ∧ 3 = 3 ∧ 3 ≤ 16777216 ∧ 1 ≤ 9223372036854775807) (vc (zH9 6) (vr 4 (((3 = 3 ∧ 3 ≤ 3 ∧ True) ∧ 0 < 3 ∧ 3 = 3 ∧ 3 ≤ 16777216 ∧ 1 ≤ 9223372036854775807) ∧ ((1 = 1 ∧ 1 ≤ 2 ∧ 1 = 1 ∧ 2 ≤ 2 ∧ True) ∧ 0 < 1 ∧ 1 = 1 ∧ 2 ≤ 16777216 ∧ 2 ≤ 9223372036854775807) ∧ ((1 = 1 ∧ 1 ≤ 2 ∧ 1 = 1 ∧ 2 ≤ 2 ∧ True) ∧ 0 < 1 ∧ 1 = 1 ∧ 2 ≤ 16777216 ∧ 2 ≤ 9223372036854775807) ∧ (1 = 1 ∧ 1 ≤ 3 ∧ 1 = 1 ∧ 2 ≤ 3 ∧ 1 = 1 ∧ 3 ≤ 3 ∧ True) ∧ true = true) (vc h5 (veT (zM (vret (True) (.inr rfl))))))))))))
end
section
open Go.RowKit
attribute [local irreducible] seqW awp zAf zAo zAg Weak updS zAv retL Pure Acts rP setP setQ cP nP fr
set_option maxRecDepth 4096
section
variable (n : Int) (keep : Nat) (cs cc : List D) (k : Nat)
structure Sml : Prop where
 n8 : ¬ (8 < n ∧ n ≤ 32)
 few : Pure Tryd.prog 8 [.row cs k] [] (bD true)
 co : Pure Tryd.prog 10 [.row cs k] [] (.row cc k)
variable (ra rb : List D) (ka kb : Nat) (z : Nat) (hz : Sm z) (hz2 : z < 18446744073709551616)
include hz in
include hz hz2 in
variable (a b c : List D) (p q r : Nat) {d1 d2 d3 : List D} {o1 o2 o3 : Nat}
include hz in
include hz hz2 in
end
end
section
open Go.RowKit
attribute [local irreducible] seqW awp zAf zAo zAg Weak updS zAv retL Pure Acts rP setP setQ cP nP fr
set_option maxRecDepth 4096
section
variable {Dm : List Va}
theorem zS1 (hD : Okv Dm) {f : Fa Nat} (h : Gof Dm f) : chk 32 (intL f.A) (f.l.map (·.1)) (f.l.map (·.2)).length = 0 ∧ (intL f.A).length ≤ 1000000 ∧ (f.l.map (·.1)).length ≤ 1000000 := by
 have h1 := zBm h.ok.asc
 have h2 := h.r
 unfold rz at h2
 exact ⟨chk_ok h.ok hD fun v hv => by have := h.ok.asc.2 v hv; omega, by simp; omega, by simp; omega⟩
theorem zWg (hD : Okv Dm) (f g : Fa Nat) (hf : Gof Dm f) (hg : Gof Dm g) (hr : rz f * rz g ≤ 900000) : Pure Tryd.prog 23 [cntD, faA f, faA g] [] (faA (fmul rcmp Sn f g [])) := by
 have h := zF2 hD f g [] hf hg (fun o ho => by cases ho) (by simp) hr
 obtain ⟨a1, a2, a3⟩ := zS1 hD hf
 obtain ⟨b1, b2, b3⟩ := zS1 hD hg
 have h3 := zZb (intL f.A) (f.l.map (·.1)) (f.l.map (·.2)) a2 a3 (intL g.A) (g.l.map (·.1)) (g.l.map (·.2)) b2 b3 a1 b1 (nsD (fmul rcmp Sn f g []).A) (rwsD (fmul rcmp Sn f g []).l) (vlsD (fmul rcmp Sn f g []).l) _ _ _ (by rw [zH1, zH1]; exact h)
 rw [zH1, zH1] at h3
 exact h3
theorem zWf (hD : Okv Dm) (f : Fa Nat) (hf : Gof Dm f) (v : Nat) (hv : v ∈ f.A) : Pure Tryd.prog 21 [cntD, faA f, iD (v : Nat)] [] (faA (fsum rcmp Sn v f)) := by
 have h := zNy hD f hf v hv
 obtain ⟨a1, a2, a3⟩ := zS1 hD hf
 have h3 := zSc (intL f.A) (f.l.map (·.1)) (f.l.map (·.2)) (v : Nat) a2 a3 a1 (nsD (fsum rcmp Sn v f).A) (rwsD (fsum rcmp Sn v f).l) (vlsD (fsum rcmp Sn v f).l) _ _ _ (by rw [zH1]; exact h)
 rw [zH1] at h3
 exact h3
theorem zWe (hD : Okv Dm) (f : Fa Nat) (hf : Gof Dm f) (v : Int) (hv : v ∉ intL f.A) : Pure Tryd.prog 21 [cntD, faA f, iD v] [] (faA f) := by
 have h := zVx hD f hf v hv
 obtain ⟨a1, a2, a3⟩ := zS1 hD hf
 have h3 := zSc (intL f.A) (f.l.map (·.1)) (f.l.map (·.2)) v a2 a3 a1 (nsD f.A) (rwsD f.l) (vlsD f.l) _ _ _ (by rw [zH1]; exact h)
 rw [zH1] at h3
 exact h3
end
theorem zM4 {Dm : List Va} {f : Rn} (h : Tofa Dm f) : Gof Dm (toFa f) := ⟨h.ok, by have := h.r; omega, by have := h.v; omega⟩
section
variable (ca cb ba bb : List D) (v e e3 g : Int)
structure Two : Prop where
 few : Pure Tryd.prog 8 [.row (ca ++ cb) 2] [] (bD true)
 xa : Pure Tryd.prog 18 [.agg ca] [] (.agg ba)
 xb : Pure Tryd.prog 18 [.agg cb] [] (.agg bb)
 ka : Pure Tryd.prog 19 [iD 32, .agg ba] [] (iD e)
 ra : Pure Tryd.prog 20 [iD 32, .agg ca] [] (iD e)
 kb : Pure Tryd.prog 19 [iD 3, .agg bb] [] (iD e3)
 rb : Pure Tryd.prog 20 [iD 3, .agg cb] [] (iD e3)
 rg : Pure Tryd.prog 20 [iD 32, .agg cb] [] (iD g)
end
section
variable {a1 a2 a3 b1 b2 b3 x1 x2 x3 y1 y2 y3 : List D} {n1 n2 n3 m1 m2 m3 p1 p2 p3 q1 q2 q3 : Nat} {v e e3 g : Int}
 (h : Two [.row a1 n1, .row a2 n2, .row a3 n3] [.row b1 m1, .row b2 m2, .row b3 m3] [.row x1 p1, .row x2 p2, .row x3 p3] [.row y1 q1, .row y2 q2, .row y3 q3] e e3 g)
include h
variable {sa sb sc ra rb rc : List D} {sn sm so rn rm ro : Nat}
variable {z1 z2 z3 : List D} {k1 k2 k3 : Nat} {ta tb tc : List D} {tn tm to : Nat}
end
theorem zZs (W : List Nat) : (natI W).length = W.length := by simp
end
section
open Go.RowKit
section
variable {α : Type} {c : Rw → Rw → Int} {S : Sr α} {Dm : List Va}
theorem zGt (hc : Cw c) {f g : Fa α} (hf : FOk c Dm f) (hg : FOk c Dm g) (σ : Nat → Va) : den (fmul c S f g []) σ = omul S.mul (den f σ) (den g σ) := by
 rw [zM8 hc hf hg]; simp
theorem fmul_A (f g : Fa α) : (fmul c S f g []).A = un f.A g.A := rfl
theorem zXi (hc : Cw c) {f g h : Fa α} (hf : FOk c Dm f) (hg : FOk c Dm g) (hh : FOk c Dm h) : fmul c S g (fmul c S h f []) [] = fmul c S (fmul c S f g []) h [] := by
 have h1 := zC4 (S := S) hc hf hg []
 have h2 := zC4 (S := S) hc hh hf []
 refine FOk.ext hc (zC4 hc hg h2 []) (zC4 hc h1 hh []) (Asc.ext (zLi _ _) (zLi _ _) fun v => ?_) fun σ => ?_
 ·simp only [fmul_A, zCf]
  constructor
  ·rintro ⟨a, b | ⟨_, b | b⟩⟩
   ·exact ⟨a, .inl ⟨a, .inr b⟩⟩
   ·exact ⟨a, .inr b⟩
   ·exact ⟨a, .inl ⟨a, .inl b⟩⟩
  ·rintro ⟨a, ⟨_, b | b⟩ | b⟩
   ·exact ⟨a, .inr ⟨a, .inr b⟩⟩
   ·exact ⟨a, .inl b⟩
   ·exact ⟨a, .inr ⟨a, .inl b⟩⟩
 ·rw [zGt hc hg h2, zGt hc hh hf, zGt hc h1 hh, zGt hc hf hg, zKb S (omul S.mul _ _) (den h σ), zKb S (den f σ) (den g σ), ← zHw S (den h σ), ← zHw S (den g σ), zKb S (den h σ) (den g σ), zHw S (den g σ)]
theorem zXf (hc : Cw c) (hD : Dm.Nodup) {f : Fa α} (hf : FOk c Dm f) {u v : Nat} (hu : u ∈ f.A) (hv : v ∈ f.A) (huv : u ≠ v) : fsum c S v (fsum c S u f) = fsum c S u (fsum c S v f) := by
 have h1 := zG3 (S := S) hc [u, v] f hf
 have h2 := zG3 (S := S) hc [v, u] f hf
 have d1 := fun σ => zJg (S := S) hc hD [u, v] f σ hf (by simp [huv]) (by simp [hu, hv])
 have d2 := fun σ => zJg (S := S) hc hD [v, u] f σ hf (by simp [Ne.symm huv]) (by simp [hu, hv])
 have a1 := fun w => zPc (c := c) (S := S) [u, v] f w
 have a2 := fun w => zPc (c := c) (S := S) [v, u] f w
 refine FOk.ext hc h1 h2 (Asc.ext h1.asc h2.asc fun w => ?_) fun σ => ?_
 ·show w ∈ (refS c S f [u, v]).A ↔ w ∈ (refS c S f [v, u]).A
  rw [a1, a2]; simp only [List.mem_cons, List.not_mem_nil, or_false]; exact ⟨fun h => ⟨h.1, fun k => h.2 k.symm⟩, fun h => ⟨h.1, fun k => h.2 k.symm⟩⟩
 ·show den (refS c S f [u, v]) σ = den (refS c S f [v, u]) σ
  rw [d1, d2, zG6 (List.Perm.swap v u [])]
def sOut (c : Rw → Rw → Int) (S : Sr α) (v : Nat) (f : Fa α) : Fa α := if v ∈ f.A then fsum c S v f else f
theorem sOut_ok (hc : Cw c) {f : Fa α} (hf : FOk c Dm f) (v : Nat) : FOk c Dm (sOut c S v f) := by
 unfold sOut; split
 ·exact zM7 hc hf v
 ·exact hf
theorem zEv {v : Nat} {f : Fa α} (h : v ∈ f.A) : sOut c S v f = fsum c S v f := if_pos h
theorem zEu {v : Nat} {f : Fa α} (h : v ∉ f.A) : sOut c S v f = f := if_neg h
theorem zV3 (hc : Cw c) (hD : Dm.Nodup) {f : Fa α} (hf : FOk c Dm f) {u v : Nat} (huv : u ≠ v) : sOut c S v (sOut c S u f) = sOut c S u (sOut c S v f) := by
 have m : ∀ w x, w ∈ (fsum c S x f).A ↔ w ∈ f.A ∧ w ≠ x := fun w x => zBw
 by_cases hu : u ∈ f.A
 ·by_cases hv : v ∈ f.A
  ·rw [zEv hu, zEv hv, zEv ((m v u).2 ⟨hv, huv.symm⟩), zEv ((m u v).2 ⟨hu, huv⟩), zXf hc hD hf hu hv huv]
  ·rw [zEv hu, zEu hv, zEu (fun h => hv ((m v u).1 h).1), zEv hu]
 ·by_cases hv : v ∈ f.A
  ·rw [zEu hu, zEv hv, zEu (fun h => hu ((m u v).1 h).1)]
  ·rw [zEu hu, zEu hv, zEu hu]
end
end
section
open Go.RowKit
attribute [local irreducible] seqW awp zAf zAo zAg Weak updS zAv retL Pure Acts rP setP setQ cP nP fr
set_option maxRecDepth 4096
section
variable {Dm : List Va}
theorem zJf {f : Fa Nat} (hf : Gof Dm f) (v : Nat) : Gof Dm (sOut rcmp Sn v f) := by
 refine ⟨sOut_ok rcw hf.ok v, ?_, ?_⟩
 ·unfold sOut; split
  ·have := zM6 (c := rcmp) Sn v f; have := hf.r; omega
  ·exact hf.r
 ·unfold sOut; split
  ·have := zM5 (c := rcmp) v f; have := hf.v; omega
  ·exact hf.v
theorem zR1 (hD : Okv Dm) {f : Fa Nat} (hf : Gof Dm f) (v : Nat) : Pure Tryd.prog 21 [cntD, faA f, iD (v : Nat)] [] (faA (sOut rcmp Sn v f)) := by
 by_cases hv : v ∈ f.A
 ·rw [zEv hv]; exact zWf hD f hf v hv
 ·rw [zEu hv]; exact zWe hD f hf v fun h => hv (zEh.1 h)
theorem zS2 {f : Fa Nat} (h : Gof Dm f) : Pure Tryd.prog 25 [faA f, faA f] [] (bD true) := by
 have h1 := h.r
 have h2 := zBm h.ok.asc
 unfold rz at h1
 exact equal_c f.A f.l (by omega) (by omega) (fun p hp => by have := h.ok.len p hp; omega) (sm_le h.v)
end
section
variable {a1 a2 a3 b1 b2 b3 c1 c2 c3 : List D} {n1 n2 n3 m1 m2 m3 l1 l2 l3 : Nat}
theorem zSg (b : Bool) (e1 e2 e3 : Int) (hb : b = false ∨ e1 ≠ 0 ∨ e2 ≠ 0 ∨ e3 ≠ 0) (hfew : Pure Tryd.prog 8 [.row [.row a1 n1, .row a2 n2, .row a3 n3, .row b1 m1, .row b2 m2, .row b3 m3, .row c1 l1, .row c2 l2, .row c3 l3] 3] [] (bD b))
  (k1 : b = true → Pure Tryd.prog 20 [iD 4, .agg [.row a1 n1, .row a2 n2, .row a3 n3]] [] (iD e1))
  (k2 : b = true → Pure Tryd.prog 20 [iD 4, .agg [.row b1 m1, .row b2 m2, .row b3 m3]] [] (iD e2))
  (k3 : b = true → Pure Tryd.prog 20 [iD 4, .agg [.row c1 l1, .row c2 l2, .row c3 l3]] [] (iD e3)) : Pure Tryd.prog 5 [.agg [.row a1 n1, .row a2 n2, .row a3 n3], .agg [.row b1 m1, .row b2 m2, .row b3 m3], .agg [.row c1 l1, .row c2 l2, .row c3 l3]] [] (bD true) := by
 cases b
 ·clear k1 k2 k3 hb
  refine zL zCb mixed Tryd.func5 rfl ?_
  focus
   refine zB (zA rfl (v0s (veT (zB (zB (zA rfl (vc zK6 (veT (vf (zF (zC (zD (zB ?_)))))))))))))
   refine zB (zA rfl (vr 4 (3 ≤ 3 ∧ 3 ≤ 3 ∧ 3 ≤ 3 ∧ (3 = 3 ∧ 3 ≤ 9 ∧ 3 = 3 ∧ 6 ≤ 9 ∧ 3 = 3 ∧ 9 ≤ 9 ∧ True) ∧ 0 < 3 ∧ 3 = 3 ∧ 9 ≤ 16777216 ∧ 3 ≤ 9223372036854775807) (vc hfew (veT (vt (zB (zA rfl (veT (zM (zJ (vret (True) (.inr rfl))))))))))))
 have k1 := k1 rfl
 have k2 := k2 rfl
 have k3 := k3 rfl
 have hb : e1 ≠ 0 ∨ e2 ≠ 0 ∨ e3 ≠ 0 := by simpa using hb
 by_cases x1 : e1 = 0
 ·by_cases x2 : e2 = 0
  ·have x3 : e3 ≠ 0 := by simpa [x1, x2] using hb
   subst x1 x2
   clear hb
   refine zL zCb mixed Tryd.func5 rfl ?_
   focus
    refine zB (zA rfl (v0s (veT (zB (zB (zA rfl (vc zK6 (veT (vf (zF (zC (zD (zB ?_)))))))))))))
    refine zB (zA rfl (vr 4 (3 ≤ 3 ∧ 3 ≤ 3 ∧ 3 ≤ 3 ∧ (3 = 3 ∧ 3 ≤ 9 ∧ 3 = 3 ∧ 6 ≤ 9 ∧ 3 = 3 ∧ 9 ≤ 9 ∧ True) ∧ 0 < 3 ∧ 3 = 3 ∧ 9 ≤ 16777216 ∧ 3 ≤ 9223372036854775807) (vc hfew (vr 3 (3 ≤ 3) (vc k1 (vr 4 (True ∧ 3 ≤ 3) (vc k2 (vr 4 (True ∧ 3 ≤ 3) (vc k3 (veT (zE7 (t := e3 != (0 : Int)) (by kernel_rfl) (by simpa using by omega) (zB (zA rfl ?_)))))))))))))
    refine veT (zM (zJ (vret (True) (.inr rfl))))
  ·subst x1
   clear hb
   refine zL zCb mixed Tryd.func5 rfl ?_
   focus
    refine zB (zA rfl (v0s (veT (zB (zB (zA rfl (vc zK6 (veT (vf (zF (zC (zD (zB ?_)))))))))))))
    refine zB (zA rfl (vr 4 (3 ≤ 3 ∧ 3 ≤ 3 ∧ 3 ≤ 3 ∧ (3 = 3 ∧ 3 ≤ 9 ∧ 3 = 3 ∧ 6 ≤ 9 ∧ 3 = 3 ∧ 9 ≤ 9 ∧ True) ∧ 0 < 3 ∧ 3 = 3 ∧ 9 ≤ 16777216 ∧ 3 ≤ 9223372036854775807) (vc hfew (vr 3 (3 ≤ 3) (vc k1 (vr 4 (True ∧ 3 ≤ 3) (vc k2 (vew [] [(16, true)] (True ∧ (e2 != (0 : Int)) = true) (vt (zB (zA rfl (veT (zM ?_)))))))))))))
    refine zJ (vret (True) (.inr rfl))
 ·clear hb
  refine zL zCb mixed Tryd.func5 rfl ?_
  focus
   refine zB (zA rfl (v0s (veT (zB (zB (zA rfl (vc zK6 (veT (vf (zF (zC (zD (zB ?_)))))))))))))
   refine zB (zA rfl (vr 4 (3 ≤ 3 ∧ 3 ≤ 3 ∧ 3 ≤ 3 ∧ (3 = 3 ∧ 3 ≤ 9 ∧ 3 = 3 ∧ 6 ≤ 9 ∧ 3 = 3 ∧ 9 ≤ 9 ∧ True) ∧ 0 < 3 ∧ 3 = 3 ∧ 9 ≤ 16777216 ∧ 3 ≤ 9223372036854775807) (vc hfew (vr 3 (3 ≤ 3) (vc k1 (vew [] [(11, true)] (True ∧ (e1 != (0 : Int)) = true) (vt (zB (zA rfl (veT (zM (zJ (vret (True) (.inr rfl))))))))))))))
variable {x1 x2 x3 y1 y2 y3 z1 z2 z3 : List D} {p1 p2 p3 q1 q2 q3 r1 r2 r3 : Nat} {f1 f2 f3 f4 g1 g2 g3 g4 j1 j2 j3 j4 : List D} {i1 i2 i3 i4 v1 v2 v3 v4 o1 o2 o3 o4 : Nat} {s1 s2 s3 u1 u2 u3 : List D} {t1 t2 t3 w1 w2 w3 : Nat}
set_option maxHeartbeats 8000000 in
theorem zZq (hfew : Pure Tryd.prog 8 [.row [.row a1 n1, .row a2 n2, .row a3 n3, .row b1 m1, .row b2 m2, .row b3 m3, .row c1 l1, .row c2 l2, .row c3 l3] 3] [] (bD true))
  (k1 : Pure Tryd.prog 20 [iD 4, .agg [.row a1 n1, .row a2 n2, .row a3 n3]] [] (iD 0))
  (k2 : Pure Tryd.prog 20 [iD 4, .agg [.row b1 m1, .row b2 m2, .row b3 m3]] [] (iD 0))
  (k3 : Pure Tryd.prog 20 [iD 4, .agg [.row c1 l1, .row c2 l2, .row c3 l3]] [] (iD 0))
  (e1 : Pure Tryd.prog 18 [.agg [.row a1 n1, .row a2 n2, .row a3 n3]] [] (.agg [.row x1 p1, .row x2 p2, .row x3 p3]))
  (e2 : Pure Tryd.prog 18 [.agg [.row b1 m1, .row b2 m2, .row b3 m3]] [] (.agg [.row y1 q1, .row y2 q2, .row y3 q3]))
  (e3 : Pure Tryd.prog 18 [.agg [.row c1 l1, .row c2 l2, .row c3 l3]] [] (.agg [.row z1 r1, .row z2 r2, .row z3 r3]))
  (h1 : Pure Tryd.prog 23 [cntD, .agg [.row x1 p1, .row x2 p2, .row x3 p3], .agg [.row y1 q1, .row y2 q2, .row y3 q3]] [] (.agg [.row f1 i1, .row g1 v1, .row j1 o1]))
  (h2 : Pure Tryd.prog 23 [cntD, .agg [.row f1 i1, .row g1 v1, .row j1 o1], .agg [.row z1 r1, .row z2 r2, .row z3 r3]] [] (.agg [.row s1 t1, .row s2 t2, .row s3 t3]))
  (h3 : Pure Tryd.prog 23 [cntD, .agg [.row z1 r1, .row z2 r2, .row z3 r3], .agg [.row x1 p1, .row x2 p2, .row x3 p3]] [] (.agg [.row f2 i2, .row g2 v2, .row j2 o2]))
  (h4 : Pure Tryd.prog 23 [cntD, .agg [.row y1 q1, .row y2 q2, .row y3 q3], .agg [.row f2 i2, .row g2 v2, .row j2 o2]] [] (.agg [.row s1 t1, .row s2 t2, .row s3 t3]))
  (y1' : Pure Tryd.prog 21 [cntD, .agg [.row s1 t1, .row s2 t2, .row s3 t3], iD 0] [] (.agg [.row f3 i3, .row g3 v3, .row j3 o3]))
  (y2' : Pure Tryd.prog 21 [cntD, .agg [.row f3 i3, .row g3 v3, .row j3 o3], iD 1] [] (.agg [.row u1 w1, .row u2 w2, .row u3 w3]))
  (y3' : Pure Tryd.prog 21 [cntD, .agg [.row s1 t1, .row s2 t2, .row s3 t3], iD 1] [] (.agg [.row f4 i4, .row g4 v4, .row j4 o4]))
  (y4' : Pure Tryd.prog 21 [cntD, .agg [.row f4 i4, .row g4 v4, .row j4 o4], iD 0] [] (.agg [.row u1 w1, .row u2 w2, .row u3 w3]))
  (z1' : Pure Tryd.prog 25 [.agg [.row s1 t1, .row s2 t2, .row s3 t3], .agg [.row s1 t1, .row s2 t2, .row s3 t3]] [] (bD true))
  (z2' : Pure Tryd.prog 25 [.agg [.row u1 w1, .row u2 w2, .row u3 w3], .agg [.row u1 w1, .row u2 w2, .row u3 w3]] [] (bD true)) :
  Pure Tryd.prog 5 [.agg [.row a1 n1, .row a2 n2, .row a3 n3], .agg [.row b1 m1, .row b2 m2, .row b3 m3], .agg [.row c1 l1, .row c2 l2, .row c3 l3]] [] (bD true) := by
 refine zL zCb mixed Tryd.func5 rfl ?_
 focus
  refine zB (zA rfl (v0s (veT (zB (zB (zA rfl (vc zK6 (veT (vf (zF (zC (zD (zB ?_)))))))))))))
  refine zB (zA rfl (vr 4 (3 ≤ 3 ∧ 3 ≤ 3 ∧ 3 ≤ 3 ∧ (3 = 3 ∧ 3 ≤ 9 ∧ 3 = 3 ∧ 6 ≤ 9 ∧ 3 = 3 ∧ 9 ≤ 9 ∧ True) ∧ 0 < 3 ∧ 3 = 3 ∧ 9 ≤ 16777216 ∧ 3 ≤ 9223372036854775807) (vc hfew (vr 3 (3 ≤ 3) (vc k1 (vr 4 (True ∧ 3 ≤ 3) (vc k2 (vr 4 (True ∧ 3 ≤ 3) (vc k3 (veT (vf (zF (zC ?_)))))))))))))
  refine zD (zB (zA rfl (ve ((True ∧ true = true) ∧ false = false ∧ true = true ∧ 0 = 0 ∧ 0 ≤ 0) (zB (vd [0, 1, 2, 3, 4, 5, 6, 7, 8, 9, 10, 11] (vr 1 (3 ≤ 3) (vc e1 (vr 1 (3 ≤ 3) (vc e2 (vr 1 (3 ≤ 3) (vc e3 (ve ((false = false ∧ true = true ∧ 3 = 3 ∧ 3 ≤ 3) ∧ (false = false ∧ true = true ∧ 3 = 3 ∧ 3 ≤ 3) ∧ false = false ∧ true = true ∧ 3 = 3 ∧ 3 ≤ 3) (zB ?_)))))))))))))
  refine vd [0, 1, 2, 3, 4, 5, 6, 7, 8, 9, 10] (vr 6 (0 ≤ 0 ∧ 0 ≤ 0 ∧ 3 ≤ 3 ∧ 3 ≤ 3) (vc h1 (vr 1 (3 ≤ 3) (vc h2 (ve (false = false ∧ true = true ∧ 3 = 3 ∧ 3 ≤ 3) (zB (vd [0, 1, 2, 3, 4, 5, 6, 7, 8, 9, 10] (vr 7 (0 ≤ 0 ∧ 3 ≤ 3 ∧ 0 ≤ 0 ∧ 3 ≤ 3 ∧ 3 ≤ 3) (vc h3 (vc h4 (ve (false = false ∧ true = true ∧ 3 = 3 ∧ 3 ≤ 3) (zB (vd [0, 1, 2, 3, 4, 5, 6, 7, 8] ?_)))))))))))))
  refine vr 5 (0 ≤ 0 ∧ 0 ≤ 0 ∧ 3 ≤ 3) (vc y1' (vc y2' (ve (false = false ∧ true = true ∧ 3 = 3 ∧ 3 ≤ 3) (zB (vd [0, 1, 2, 3, 4, 5, 6, 7, 8] (vr 5 (0 ≤ 0 ∧ 0 ≤ 0 ∧ 3 ≤ 3) (vc y3' (vc y4' (ve (false = false ∧ true = true ∧ 3 = 3 ∧ 3 ≤ 3) (zB (zA rfl (vr 2 (3 ≤ 3 ∧ 3 ≤ 3) (vc z1' ?_)))))))))))))
  refine vr 3 (3 ≤ 3 ∧ 3 ≤ 3) (vc z2' (veT (zM (vret (True) (.inr rfl)))))
end
theorem zWy {α β : Type} {f : α → β} {l : List α} {a b c : β} (h : [a, b, c] = l.map f) : ∃ x y z, l = [x, y, z] ∧ a = f x ∧ b = f y ∧ c = f z := by
 match l, h with
 | [x, y, z], h => simp only [List.map_cons, List.map_nil, List.cons.injEq, and_true] at h; exact ⟨x, y, z, rfl, h.1, h.2.1, h.2.2⟩
theorem tofas4 {fs : List Rn} (h : ∀ f ∈ fs, chkR 4 f = 0) (hs : ∀ f ∈ fs, Rsm f) (hv : ∀ f ∈ fs, ∀ x ∈ f.R, ∀ a ∈ x, Vi a) : Okv (domP fs) ∧ ∀ f ∈ fs, Tofa (domP fs) f :=
 ⟨zXs hv fun f hf x hx => by
  obtain ⟨A, hA, hfit⟩ := zF5 (h f hf)
  exact hfit.vok x hx, fun f hf => tofa (by decide) (h f hf) (hs f hf) fun x hx a ha => zS3 hf hx ha⟩
theorem ords_c (a b c : Raw) (ha : RawOk a) (hb : RawOk b) (hc : RawOk c) : Pure Tryd.prog 5 [rawD a, rawD b, rawD c] [] (bD true) := by
 have hfew := few_c [a, b, c]
 by_cases hf : fewP [a, b, c] = true
 case neg =>
  rw [Bool.not_eq_true] at hf
  rw [hf] at hfew
  exact zSg false 0 0 0 (.inl rfl) hfew (fun h => by cases h) (fun h => by cases h) (fun h => by cases h)
 rw [hf] at hfew
 obtain ⟨_, fs, hfs, hs⟩ := fewP_rn hf
 obtain ⟨x, y, z, rfl, rfl, rfl, rfl⟩ := zWy hfs
 have hx := hs x (by simp)
 have hy := hs y (by simp)
 have hz := hs z (by simp)
 have cx := zKy x (by have := hx.w; omega) (fun w h => by have := hx.b w h; omega)
 have cy := zKy y (by have := hy.w; omega) (fun w h => by have := hy.b w h; omega)
 have cz := zKy z (by have := hz.w; omega) (fun w h => by have := hz.b w h; omega)
 have i1 := hx.v
 have i2 := hx.r
 have i3 := hy.v
 have i4 := hy.r
 have i5 := hz.v
 have i6 := hz.r
 have rx := zMr 4 x.V x.R (natI x.W) (by omega) (by omega)
 have ry := zMr 4 y.V y.R (natI y.W) (by omega) (by omega)
 have rzz := zMr 4 z.V z.R (natI z.W) (by omega) (by omega)
 rw [zZs] at rx ry rzz
 by_cases he : chk 4 x.V x.R x.W.length = 0 ∧ chk 4 y.V y.R y.W.length = 0 ∧ chk 4 z.V z.R z.W.length = 0
 case neg => exact zSg true _ _ _ (.inr (by omega)) hfew (fun _ => rx) (fun _ => ry) (fun _ => rzz)
 obtain ⟨ex, ey, ez⟩ := he
 rw [ex] at rx
 rw [ey] at ry
 rw [ez] at rzz
 have all3 : ∀ {P : Rn → Prop}, P x → P y → P z → ∀ f ∈ [x, y, z], P f := fun h1 h2 h3 f hf => by
  simp only [List.mem_cons, List.not_mem_nil, or_false] at hf
  rcases hf with rfl | rfl | rfl <;> assumption
 obtain ⟨hD, ht⟩ := tofas4 (fs := [x, y, z]) (all3 ex ey ez) hs (all3 (P := fun f => ∀ p ∈ f.R, ∀ a ∈ p, Vi a) ha.r hb.r hc.r)
 have tx := ht x (by simp)
 have ty := ht y (by simp)
 have tz := ht z (by simp)
 have ec1 : faA (toFa x) = .agg (rnC x) := by rw [tx.c]
 have ec2 : faA (toFa y) = .agg (rnC y) := by rw [ty.c]
 have ec3 : faA (toFa z) = .agg (rnC z) := by rw [tz.c]
 have gx := zM4 tx
 have gy := zM4 ty
 have gz := zM4 tz
 have sz : ∀ {f g : Fa Nat} {a b c d : Nat}, Gof (domP [x, y, z]) f → Gof (domP [x, y, z]) g → rz f ≤ a → rz g ≤ b → vz f ≤ c → vz g ≤ d → a * b ≤ 900000 → c * d ≤ 4000000000000000000 → Pure Tryd.prog 23 [cntD, faA f, faA g] [] (faA (fmul rcmp Sn f g [])) ∧ Gof (domP [x, y, z]) (fmul rcmp Sn f g []) ∧ rz (fmul rcmp Sn f g []) ≤ a * b ∧ vz (fmul rcmp Sn f g []) ≤ c * d := by
  intro f g a b c d hf hg h1 h2 h3 h4 h5 h6
  have h7 := Nat.mul_le_mul h1 h2
  have h8 := Nat.mul_le_mul h3 h4
  have w1 := zF4 (c := rcmp) Sn f g []
  have w2 := zF3 (c := rcmp) f g []
  exact ⟨zWg hD f g hf hg (by omega), ⟨zC4 rcw hf.ok hg.ok [], by omega, by omega⟩, by omega, by omega⟩
 obtain ⟨m1, g1, r1, v1⟩ := sz gx gy tx.r ty.r tx.v ty.v (by decide) (by decide)
 obtain ⟨m2, g2, r2, v2⟩ := sz g1 gz r1 tz.r v1 tz.v (by decide) (by decide)
 obtain ⟨m3, g3, r3, v3⟩ := sz gz gx tz.r tx.r tz.v tx.v (by decide) (by decide)
 obtain ⟨m4, g4, r4, v4⟩ := sz gy g3 ty.r r3 ty.v v3 (by decide) (by decide)
 rw [zXi rcw tx.ok ty.ok tz.ok] at m4
 have j1 := zR1 hD g2 0
 have j2 := zR1 hD (zJf g2 0) 1
 have j3 := zR1 hD g2 1
 have j4 := zR1 hD (zJf g2 1) 0
 rw [← zV3 rcw (zDy _) g2.ok (u := 0) (v := 1) (by decide)] at j4
 have o1 := zS2 g2
 have o2 := zS2 (zJf (zJf g2 0) 1)
 rw [ec1, ec2] at m1
 rw [ec3] at m2
 rw [ec3, ec1] at m3
 rw [ec2] at m4
 exact zZq hfew rx ry rzz cx cy cz m1 m2 m3 m4 j1 j2 j3 j4 o1 o2
end
end Go.Proofs.YtmfamhoopjeaiaaDoor

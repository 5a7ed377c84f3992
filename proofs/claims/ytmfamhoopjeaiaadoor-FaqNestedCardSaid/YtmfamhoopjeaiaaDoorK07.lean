/- Texts of this claim, joined: FgP Dpu FwP Dca Wg Rmu Rsu Rma Dpc Dcp Gr Dcc Del FiP Dmt Dtt Lwf -/
import Derived.Test.YtmfamhoopjeaiaaDoorK06
import Derived.Test.YtmfamhoopjeaiaaDoorShelfG
import Derived.Lib.RowBridge
import Derived.Lib.AppendZeros
set_option linter.unusedVariables false
set_option linter.unusedSimpArgs false
namespace Go.Proofs.YtmfamhoopjeaiaaDoor
section
open Go.RowKit
instance {α : Type} : Inhabited (Fa α) := ⟨⟨[], []⟩⟩
section
variable {α : Type} (pop : Nat → Nat)
def uniM (v : Nat) (fs : List (Fa α)) : Nat := fs.foldl (fun m f => if v ∈ f.A then m ||| msk f.A else m) 0
def bigL (v : Nat) (fs : List (Fa α)) : Nat := fs.foldl (fun n f => if v ∈ f.A then max n f.A.length else n) 0
def zNb (fs : List (Fa α)) (v : Nat) : Nat := if pop (uniM v fs) = bigL v fs then 0 else pop (uniM v fs)
def zE9 (fs : List (Fa α)) (s : Int × Nat) (v : Nat) : Int × Nat := if s.1 < 0 ∨ zNb pop fs v < s.2 then ((v : Int), zNb pop fs v) else s
def zBh (fs : List (Fa α)) (E : List Nat) : Nat := ((E.foldl (zE9 pop fs) (-1, 0)).1).toNat
theorem ch_mem (fs : List (Fa α)) : ∀ (l : List Nat) (s : Int × Nat), ((l.foldl (zE9 pop fs) s) = s ∧ (0 ≤ s.1 ∨ l = [])) ∨ ∃ v ∈ l, (l.foldl (zE9 pop fs) s).1 = (v : Int)
 | [], s => .inl ⟨rfl, .inr rfl⟩
 | v :: l, s => by
  rw [List.foldl_cons]
  rcases ch_mem fs l (zE9 pop fs s v) with ⟨h1, h2⟩ | ⟨w, hw, h⟩
  ·rw [h1]
   unfold zE9
   split
   ·exact .inr ⟨v, List.mem_cons_self .., rfl⟩
   ·rename_i h; exact .inl ⟨rfl, .inl (by omega)⟩
  ·exact .inr ⟨w, List.mem_cons_of_mem _ hw, h⟩
theorem zK6 (fs : List (Fa α)) {E : List Nat} (h : E ≠ []) : zBh pop fs E ∈ E ∧ (E.foldl (zE9 pop fs) (-1, 0)).1 = (zBh pop fs E : Nat) := by
 unfold zBh
 rcases ch_mem pop fs E (-1, 0) with ⟨_, h2⟩ | ⟨v, hv, e⟩
 ·rcases h2 with h2 | h2
  ·exact absurd h2 (by decide)
  ·exact absurd h2 h
 ·rw [e]; exact ⟨by simpa using hv, by simp⟩
variable (c : Rw → Rw → Int) (S : Sr α)
def zFs : Nat → List (Fa α) → List Nat → List (Fa α)
 | 0, fs, E => fs
 | n + 1, fs, E => zFs n (elim c S (zBh pop fs E) fs) (less E (zBh pop fs E))
def zPs (fs : List (Fa α)) (E : List Nat) : Fa α := zCl c S (zAq S) (zFs pop c S E.length fs E) []
def refP (p : Fa α) (fs : List (Fa α)) : Fa α := fs.foldl (fun p f => fmul c S p f []) p
def refS (f : Fa α) (vs : List Nat) : Fa α := vs.foldl (fun f v => fsum c S v f) f
variable {pop c S} {Dm : List Va}
theorem zSy {E : List Nat} (hn : E.Nodup) {v : Nat} (hv : v ∈ E) : (less E v).length + 1 = E.length := by
 rw [← zC2 hn v, List.length_eraseIdx, if_pos (List.idxOf_lt_length_iff.2 hv)]
 have := List.length_pos_of_mem hv
 omega
theorem zFi (hc : Cw c) (hD : Dm.Nodup) : ∀ (n : Nat) (fs : List (Fa α)) (E : List Nat), E.Nodup → E.length = n → (∀ f ∈ fs, FOk c Dm f) → (∀ v ∈ E, ∃ f ∈ fs, v ∈ f.A) →
  (∀ f ∈ zFs pop c S n fs E, FOk c Dm f) ∧ (∃ vs, vs.Perm E ∧ ∀ σ, proF S (zFs pop c S n fs E) σ = zF5 S Dm vs (proF S fs) σ) ∧ (∀ w, (∃ f ∈ zFs pop c S n fs E, w ∈ f.A) ↔ (∃ f ∈ fs, w ∈ f.A) ∧ w ∉ E)
 | 0, fs, E, hn, hl, hf, hv => by
  have e : E = [] := List.length_eq_zero_iff.1 hl
  subst e
  exact ⟨hf, ⟨[], .refl _, fun σ => rfl⟩, fun w => by simp [zFs]⟩
 | n + 1, fs, E, hn, hl, hf, hv => by
  have hne : E ≠ [] := fun e => by rw [e] at hl; cases hl
  have hm := (zK6 pop fs hne).1
  have hA := elim_A (c := c) (S := S) (fs := fs) (fun f h => (hf f h).asc.2) (zBh pop fs E)
  have hpro := elim_pro (S := S) hc hD hf (hv _ hm)
  have hok := zXo (S := S) hc hf (zBh pop fs E)
  have hll := zSy hn hm
  show (∀ f ∈ zFs pop c S n (elim c S (zBh pop fs E) fs) (less E (zBh pop fs E)), _) ∧ _
  generalize hg : zBh pop fs E = v at *
  obtain ⟨h1, ⟨vs, hp, h2⟩, h3⟩ := zFi hc hD n (elim c S v fs) (less E v) (hn.filter _) (by omega) hok (fun w hw => (hA w).2 ⟨hv w (zCf.1 hw).1, (zCf.1 hw).2⟩)
  have e : zFs pop c S (n + 1) fs E = zFs pop c S n (elim c S v fs) (less E v) := by rw [zFs, hg]
  refine ⟨h1, ⟨v :: vs, ?_, fun σ => ?_⟩, fun w => ?_⟩
  ·have h4 : (v :: less E v).Perm E := by
    rw [← zC2 hn v, ← List.erase_eq_eraseIdx_of_idxOf rfl]
    exact (List.perm_cons_erase hm).symm
   exact (List.Perm.cons v hp).trans h4
  ·rw [e, h2]
   exact zB5 vs (fun σ => hpro σ) σ
  ·rw [e, h3, hA, zCf]
   constructor
   ·rintro ⟨⟨h4, h5⟩, h6⟩; exact ⟨h4, fun h => h6 ⟨h, h5⟩⟩
   ·rintro ⟨h4, h5⟩; exact ⟨⟨h4, fun h => h5 (h ▸ hm)⟩, fun h => h5 h.1⟩
theorem zSn (x : Option α) : omul S.mul x (some S.one) = x := by rw [zSp]; cases x <;> simp [omul, S.om]
theorem zSm (x : Option α) : omul S.mul (some S.one) x = x := by cases x <;> simp [omul, S.om]
theorem zEu : FOk c Dm (zAq S) := ⟨⟨List.Pairwise.nil, by simp [zAq]⟩, by simp [zAq, Lens], by simp [zAq, Srt], by simp [zAq]⟩
theorem zRu (σ : Nat → Va) : den (zAq S) σ = some S.one := rfl
theorem zZ0 (hc : Cw c) (hD : Dm.Nodup) {fs : List (Fa α)} {E : List Nat} (hn : E.Nodup) (hf : ∀ f ∈ fs, FOk c Dm f) (hv : ∀ v ∈ E, ∃ f ∈ fs, v ∈ f.A) : FOk c Dm (zPs pop c S fs E) :=
 zJm hc _ _ _ zEu (zFi hc hD _ fs E hn rfl hf hv).1
theorem zW1 (hc : Cw c) (hD : Dm.Nodup) {fs : List (Fa α)} {E : List Nat} (hn : E.Nodup) (hf : ∀ f ∈ fs, FOk c Dm f) (hv : ∀ v ∈ E, ∃ f ∈ fs, v ∈ f.A) (σ : Nat → Va) :
  den (zPs pop c S fs E) σ = zF5 S Dm E (proF S fs) σ := by
 obtain ⟨h1, ⟨vs, hp, h2⟩, _⟩ := zFi (pop := pop) (S := S) hc hD _ fs E hn rfl hf hv
 have h := zKz (S := S) hc σ (zFs pop c S E.length fs E) (zAq S) [] zEu h1 (by simp)
 rw [List.append_nil, zRu, zSm, h2 σ, zG9 hp] at h
 have e : proF S [] σ = some S.one := rfl
 rw [e, zSn] at h
 exact h
theorem zW2 (hc : Cw c) (hD : Dm.Nodup) {fs : List (Fa α)} {E : List Nat} (hn : E.Nodup) (hf : ∀ f ∈ fs, FOk c Dm f) (hv : ∀ v ∈ E, ∃ f ∈ fs, v ∈ f.A) (w : Nat) : w ∈ (zPs pop c S fs E).A ↔ (∃ f ∈ fs, w ∈ f.A) ∧ w ∉ E := by
 obtain ⟨h1, _, h3⟩ := zFi (pop := pop) (S := S) hc hD _ fs E hn rfl hf hv
 unfold zPs
 rw [zNa _ _ _ (by simp [zAq]) (fun f h => (h1 f h).asc.2), ← h3]
 simp [zAq]
theorem zG5 (hc : Cw c) : ∀ (fs : List (Fa α)) (p : Fa α), FOk c Dm p → (∀ f ∈ fs, FOk c Dm f) → FOk c Dm (refP c S p fs)
 | [], p, hp, _ => hp
 | f :: fs, p, hp, hf => zG5 hc fs _ (zHk hc hp (hf f (List.mem_cons_self ..)) []) fun g hg => hf g (List.mem_cons_of_mem _ hg)
theorem zR8 (hc : Cw c) (σ : Nat → Va) : ∀ (fs : List (Fa α)) (p : Fa α), FOk c Dm p → (∀ f ∈ fs, FOk c Dm f) → den (refP c S p fs) σ = omul S.mul (den p σ) (proF S fs σ)
 | [], p, hp, _ => (zSn _).symm
 | f :: fs, p, hp, hf => by
  have h1 := hf f (List.mem_cons_self ..)
  have := zR8 hc σ fs (fmul c S p f []) (zHk hc hp h1 []) fun g hg => hf g (List.mem_cons_of_mem _ hg)
  rw [zS5 hc hp h1] at this
  simp only [List.all_nil, if_true] at this
  show den (refP c S (fmul c S p f []) fs) σ = _
  rw [this, zPh]
  rfl
theorem zR9 : ∀ (fs : List (Fa α)) (p : Fa α), (∀ v ∈ p.A, v < 32) → (∀ f ∈ fs, ∀ v ∈ f.A, v < 32) → ∀ v, v ∈ (refP c S p fs).A ↔ v ∈ p.A ∨ ∃ f ∈ fs, v ∈ f.A
 | [], p, _, _, v => by simp [refP]
 | f :: fs, p, hp, hf, v => by
  have h1 := hf f (List.mem_cons_self ..)
  have ih := zR9 fs (fmul c S p f []) (fun w hw => (zCq.1 hw).1) (fun g hg => hf g (List.mem_cons_of_mem _ hg)) v
  show v ∈ (refP c S (fmul c S p f []) fs).A ↔ _
  rw [ih]
  have : v ∈ (fmul c S p f []).A ↔ v < 32 ∧ (v ∈ p.A ∨ v ∈ f.A) := zCq
  rw [this]
  constructor
  ·rintro (⟨_, h | h⟩ | ⟨g, hg, h⟩)
   ·exact .inl h
   ·exact .inr ⟨f, List.mem_cons_self .., h⟩
   ·exact .inr ⟨g, List.mem_cons_of_mem _ hg, h⟩
  ·rintro (h | ⟨g, hg, h⟩)
   ·exact .inl ⟨hp v h, .inl h⟩
   ·rcases List.mem_cons.1 hg with rfl | hg
    ·exact .inl ⟨h1 v h, .inr h⟩
    ·exact .inr ⟨g, hg, h⟩
theorem zG4 (hc : Cw c) : ∀ (vs : List Nat) (f : Fa α), FOk c Dm f → FOk c Dm (refS c S f vs)
 | [], f, hf => hf
 | v :: vs, f, hf => zG4 hc vs _ (zQ4 hc hf v)
theorem zN8 : ∀ (vs : List Nat) (f : Fa α) (w : Nat), w ∈ (refS c S f vs).A ↔ w ∈ f.A ∧ w ∉ vs
 | [], f, w => by simp [refS]
 | v :: vs, f, w => by
  have ih := zN8 vs (fsum c S v f) w
  show w ∈ (refS c S (fsum c S v f) vs).A ↔ _
  rw [ih]
  have : w ∈ (fsum c S v f).A ↔ w ∈ f.A ∧ w ≠ v := zCf
  rw [this, List.mem_cons, not_or]
  exact ⟨fun h => ⟨h.1.1, h.1.2, h.2⟩, fun h => ⟨⟨h.1, h.2.1⟩, h.2.2⟩⟩
theorem zGj (hc : Cw c) (hD : Dm.Nodup) : ∀ (vs : List Nat) (f : Fa α) (σ : Nat → Va), FOk c Dm f → vs.Nodup → (∀ v ∈ vs, v ∈ f.A) → den (refS c S f vs) σ = zF5 S Dm vs (den f) σ
 | [], f, σ, hf, _, _ => rfl
 | v :: vs, f, σ, hf, hn, hv => by
  rw [List.nodup_cons] at hn
  have ih := zGj hc hD vs (fsum c S v f) σ (zQ4 hc hf v) hn.2 fun w hw => zCf.2 ⟨hv w (List.mem_cons_of_mem _ hw), fun e => hn.1 (e ▸ hw)⟩
  show den (refS c S (fsum c S v f) vs) σ = _
  rw [ih]
  exact zB5 vs (fun σ => zS4 hc hD hf (hv v (List.mem_cons_self ..)) σ) σ
theorem zZz (hc : Cw c) (hD : Dm.Nodup) {fs : List (Fa α)} {E vs : List Nat} (hn : E.Nodup) (hp : vs.Perm E) (hf : ∀ f ∈ fs, FOk c Dm f) (hv : ∀ v ∈ E, ∃ f ∈ fs, v ∈ f.A) : zPs pop c S fs E = refS c S (refP c S (zAq S) fs) vs := by
 have hr := zG5 (S := S) hc fs (zAq S) zEu hf
 have hrA : ∀ v, v ∈ (refP c S (zAq S) fs).A ↔ ∃ f ∈ fs, v ∈ f.A := fun v => by
  rw [zR9 fs (zAq S) (by simp [zAq]) (fun f h => (hf f h).asc.2)]; simp [zAq]
 have hm := zZ0 (pop := pop) (S := S) hc hD hn hf hv
 have hs := zG4 (S := S) hc vs _ hr
 refine FOk.ext hc hm hs (Asc.ext hm.asc hs.asc fun w => ?_) fun σ => ?_
 ·rw [zW2 hc hD hn hf hv, zN8, hrA, hp.mem_iff]
 ·rw [zW1 hc hD hn hf hv, zGj hc hD vs _ σ hr (hp.nodup_iff.2 hn) (fun v h => (hrA v).2 (hv v (hp.mem_iff.1 h))), zG9 hp]
  refine zB5 E (fun σ => ?_) σ
  rw [zR8 hc σ fs (zAq S) zEu hf, zRu, zSm]
end
section
variable {α : Type} {pop : Nat → Nat} {c : Rw → Rw → Int} {S : Sr α} {z : Fa α → Nat} (h1 : ∀ f g os, z (fmul c S f g os) ≤ z f * z g) (h2 : ∀ v f, z (fsum c S v f) ≤ z f)
include h1 h2 in
end
end
section
open Go.RowKit
attribute [local irreducible] seqW awp zAf zAo zAg Weak updS zAw retL Pure Acts rP setP setQ cP nP fr
set_option maxRecDepth 4096
abbrev faAc (f : Fa Nat) : List D := fcC (f.A, f.l)
abbrev faA (f : Fa Nat) : D := fcD f.A f.l
theorem zAm (f : Fa Nat) : (faAc f).length = 3 := rfl
theorem zS6 (f : Fa Nat) : fcR (intL f.A) (f.l.map (·.1)) (f.l.map (·.2)) = faA f := by
 show D.agg [.row ((intL f.A).map fun z => iD z) (intL f.A).length, .row _ (f.l.map (·.1)).length, .row _ (f.l.map (·.2)).length] = _
 have e : (intL f.A).map (fun z => iD z) = nsD f.A := by simp [intL]
 rw [e, List.length_map, List.length_map, List.length_map]
def Okv (Dm : List Va) : Prop := ∀ a ∈ Dm, vok a = true ∧ Vs a
structure Gof (Dm : List Va) (f : Fa Nat) : Prop where
 ok : FOk rcmp Dm f
 r : rz f ≤ 900000
 v : vz f ≤ 4000000000000000000
section
variable {Dm : List Va} (hD : Okv Dm)
theorem chk_ok {n : Int} {f : Fa Nat} (hf : FOk rcmp Dm f) (hD : Okv Dm) (hn : ∀ v ∈ f.A, (v : Int) < n) : chk n (intL f.A) (f.l.map (·.1)) (f.l.map (·.2)).length = 0 := by
 have eA : (intL f.A).length = f.A.length := by simp
 refine chk_0 (zF2 fun j hj => ?_) (by simp) ?_ ?_ (zF2 fun j hj => ?_)
 ·rw [eA] at hj
  have hg : ∀ i, i < f.A.length → (intL f.A).getD i 0 = ((f.A.getD i 0 : Nat) : Int) := fun i hi => by simp [List.getD_eq_getElem?_getD, hi]
  refine zJr (by rw [hg j hj]; omega) (by rw [hg j hj]; exact hn _ (zDk _ _ hj)) ?_
  rcases Nat.eq_zero_or_pos j with h | h
  ·exact .inl h
  ·refine .inr ?_
   rw [hg j hj, hg (j - 1) (by omega)]
   have := List.pairwise_iff_getElem.1 hf.asc.1 (j - 1) j (by omega) hj (by omega)
   rw [List.getD_eq_getElem?_getD, List.getD_eq_getElem?_getD, List.getElem?_eq_getElem hj, List.getElem?_eq_getElem (by omega)]
   simp only [Option.getD_some]
   omega
 ·rw [List.all_eq_true]
  intro x hx
  obtain ⟨p, hp, rfl⟩ := List.mem_map.1 hx
  exact decide_eq_true (by rw [eA]; exact hf.len p hp)
 ·rw [List.all_eq_true]
  intro x hx
  obtain ⟨p, hp, rfl⟩ := List.mem_map.1 hx
  rw [List.all_eq_true]
  exact fun a ha => (hD a (hf.dom p hp a ha)).1
 ·rcases Nat.eq_zero_or_pos j with h | h
  ·subst h; rfl
  ·have hs : (f.l.map (·.1)).Pairwise fun p q => rcmp p q < 0 := List.pairwise_map.2 hf.srt
   have := List.pairwise_iff_getElem.1 hs (j - 1) j (by omega) hj (by omega)
   have e : zJc (f.l.map (·.1)) j = decide (rcmp ((f.l.map (·.1)).getD (j - 1) []) ((f.l.map (·.1)).getD j []) < 0) := by
    unfold zJc
    rw [decide_eq_false (by omega : ¬ j = 0), Bool.false_or]
   rw [e, List.getD_eq_getElem?_getD, List.getD_eq_getElem?_getD, List.getElem?_eq_getElem hj, List.getElem?_eq_getElem (by omega)]
   exact decide_eq_true this
theorem sm_le {f : Fa Nat} (hv : vz f ≤ 4000000000000000000) : ∀ p ∈ f.l, Sm p.2 := fun p hp => Sm.of (by
 have := zLm hp
 unfold vz at hv
 omega)
theorem Gof.fv {f : Fa Nat} (h : Gof Dm f) (hD : Okv Dm) : FV (f.A, f.l) :=
 ⟨h.ok.asc, h.ok.len, fun p hp x hx => (hD x (h.ok.dom p hp x hx)).2, by have := h.r; unfold rz at this; simp only; omega, sm_le h.v, h.ok.ndk rcw⟩
theorem zKi (hD : Okv Dm) (f g : Fa Nat) (os : List (Fa Nat)) (hf : Gof Dm f) (hg : Gof Dm g) (ho : ∀ o ∈ os, Gof Dm o) (hl : os.length ≤ 1000) (hr : rz f * rz g ≤ 900000) :
  Pure Tryd.prog 33 [cntD, faA f, faA g, .row (os.flatMap faAc) os.length] [] (faA (fmul rcmp Sn f g os)) := by
 simp only [rz, Nat.mul_add, Nat.add_mul] at hr
 have h := zT3 (f.A, f.l) (g.A, g.l) (os.map fun o => (o.A, o.l)) (hf.fv hD) (hg.fv hD) (fun o hm => by
  obtain ⟨o', hm', rfl⟩ := List.mem_map.1 hm
  exact (ho o' hm').fv hD) (by simpa using hl) (by simp only; omega)
 have e1 : (os.map fun o => (o.A, o.l)).flatMap fcC = os.flatMap faAc := by rw [List.flatMap_map]
 rw [e1, List.length_map] at h
 have e2 : ((zBb (· * ·) f.A f.l g.A g.l).filter fun p => (os.map fun o => (o.A, o.l)).all fun o => okO (un f.A g.A) p.1 (faN o)) = (zBb Sn.mul f.A f.l g.A g.l).filter fun p => os.all fun o => okO (un f.A g.A) p.1 o := by
  refine List.filter_congr fun p _ => ?_
  rw [List.all_map]
  rfl
 have hn := zGl (f := Sn.mul) hf.ok.asc hg.ok.asc (hf.ok.ndk rcw) (hg.ok.ndk rcw) hf.ok.len hg.ok.len
 have e3 : fmul rcmp Sn f g os = ⟨un f.A g.A, srtL ((zBb Sn.mul f.A f.l g.A g.l).filter fun p => os.all fun o => okO (un f.A g.A) p.1 o)⟩ := by
  unfold fmul
  rw [zRo Sn.add (zG8 (fun s => os.all fun o => okO (un f.A g.A) s o) hn)]
 rw [e3, ← e2]
 exact h
theorem zNu (hD : Okv Dm) (f : Fa Nat) (hf : Gof Dm f) (v : Nat) (hv : v ∈ f.A) : Pure Tryd.prog 43 [cntD, faA f, iD (v : Nat)] [] (faA (fsum rcmp Sn v f)) := by
 have hr := hf.r
 have hv2 := hf.v
 unfold rz at hr
 unfold vz at hv2
 have h := zR1 f.A f.l v (zBn hf.ok.asc) (by omega) hf.ok.len (fun p hp x hx => (hD x (hf.ok.dom p hp x hx)).2) (Sm.of (by omega))
 have e1 : f.A.filter (fun u : Nat => decide ((u : Int) ≠ (v : Int))) = less f.A v := List.filter_congr fun u _ => by
  rw [Bool.eq_iff_iff, decide_eq_true_eq, decide_eq_true_eq]; omega
 rw [zNc, e1] at h
 have e2 : (f.l.map fun p => (zAc p.1 (zB1 (fun u : Nat => decide ((u : Int) ≠ (v : Int))) f.A), p.2)) = zHn f.A v f.l := by
  unfold zHn
  refine List.map_congr_left fun p hp => ?_
  rw [zFg hf.ok.asc.nd, e1]
  congr 1
  conv => rhs; rw [← zHa hf.ok.asc.nd (hf.ok.len p hp), zPt, zC2 hf.ok.asc.nd]
 rw [e2, zN0] at h
 exact h
theorem zV3 (hD : Okv Dm) (f : Fa Nat) (hf : Gof Dm f) (v : Int) (hv : v ∉ intL f.A) : Pure Tryd.prog 43 [cntD, faA f, iD v] [] (faA f) := by
 have hr := hf.r
 have hv2 := hf.v
 unfold rz at hr
 unfold vz at hv2
 have h := zR1 f.A f.l v (zBn hf.ok.asc) (by omega) hf.ok.len (fun p hp x hx => (hD x (hf.ok.dom p hp x hx)).2) (Sm.of (by omega))
 have e1 : f.A.filter (fun u : Nat => decide ((u : Int) ≠ v)) = f.A := List.filter_eq_self.2 fun u hu => decide_eq_true fun e => hv (List.mem_map.2 ⟨u, hu, e⟩)
 rw [zNc, e1] at h
 have e2 : (f.l.map fun p => (zAc p.1 (zB1 (fun u : Nat => decide ((u : Int) ≠ v)) f.A), p.2)) = f.l := by
  conv => rhs; rw [← List.map_id f.l]
  refine List.map_congr_left fun p hp => ?_
  rw [zFg hf.ok.asc.nd, e1, zHa hf.ok.asc.nd (hf.ok.len p hp)]
  rfl
 rw [e2, zN0, acc_self rcw _ hf.ok.srt] at h
 exact h
end
abbrev zeroFc : D := .agg [.row [] 0, .row [] 0, .row [] 0]
section
variable (V : List Int) (R : List Rw) (W : List Nat) (v : Int) (hV : V.length ≤ 1000000) (hR : R.length ≤ 1000000)
include hV hR
theorem zSg (h0 : chk 32 V R W.length = 0) (a b c : List D) (n m k : Nat) (hx : Pure Tryd.prog 43 [cntD, fcR V R W, iD v] [] (.agg [.row a n, .row b m, .row c k])) : Pure Tryd.prog 21 [cntD, fcR V R W, iD v] [] (.agg [.row a n, .row b m, .row c k]) := by
 have hch := zXz 32 V R W hV hR
 rw [h0] at hch
 refine zL Tq_ok mixed Tryd.func21 rfl ?_
 focus
  refine zB (zA rfl (v0s (veT (zB (zB (zA rfl (vr 1 (3 ≤ 3) (vc hch (veT (vf (zG (zC (zD ?_)))))))))))))
  refine zB (zA rfl (vr 3 (3 ≤ 3) (vc hx (ve (false = false ∧ true = true ∧ 3 = 3 ∧ 3 ≤ 3) (zM (vret (3 ≤ 3) (.inr rfl)))))))
variable (V' : List Int) (R' : List Rw) (W' : List Nat) (hV' : V'.length ≤ 1000000) (hR' : R'.length ≤ 1000000)
include hV' hR'
end
end
section
open Go.RowKit
structure Rn where
  V : List Int
  R : List Rw
  W : List Nat
 deriving Inhabited
def chkR (n : Int) (f : Rn) : Int := chk n f.V f.R f.W.length
def errL (n : Int) : List Rn → Int
  | [] => 0
  | f :: fs => if chkR n f ≠ 0 then chkR n f else errL n fs
def covP (n : Nat) (fs : List Rn) : Bool := (List.range n).all fun v => fs.any fun f => decide ((v : Int) ∈ f.V)
def zBt (n : Int) (keep : Nat) (fs : List Rn) : Int := if n < 0 ∨ 32 < n ∨ keep >>> n.toNat ≠ 0 then 3 else if errL n fs ≠ 0 then errL n fs else if covP n.toNat fs then 0 else 22
theorem zRb {n : Int} : ∀ {fs : List Rn} {i : Nat}, (∀ j, j < i → chkR n (fs.getD j default) = 0) → i < fs.length → chkR n (fs.getD i default) ≠ 0 → errL n fs = chkR n (fs.getD i default)
  | [], i, _, h, _ => by simp at h
  | f :: fs, 0, _, _, h => by
    have h : chkR n f ≠ 0 := h
    rw [errL, if_pos h]; rfl
  | f :: fs, i + 1, hb, hi, h => by
    have h0 : chkR n f = 0 := hb 0 (by omega)
    rw [errL, if_neg (by omega)]
    exact zRb (fs := fs) (i := i) (fun j hj => hb (j + 1) (by omega)) (by simpa using hi) h
theorem zXn {n : Int} : ∀ {fs : List Rn}, (∀ j, j < fs.length → chkR n (fs.getD j default) = 0) → errL n fs = 0
  | [], _ => rfl
  | f :: fs, h => by
    have h0 : chkR n f = 0 := h 0 (by simp)
    rw [errL, if_neg (by omega)]
    exact zXn (fs := fs) fun j hj => h (j + 1) (by simpa using hj)
theorem zFo {n : Int} : ∀ {fs : List Rn}, errL n fs = 0 → ∀ f ∈ fs, chkR n f = 0
  | [], _, f, h => by simp at h
  | g :: fs, h, f, hf => by
    rw [errL] at h
    split at h
    · rename_i k; exact absurd h k
    · rename_i k
      rcases List.mem_cons.1 hf with rfl | hf
      · omega
      · exact zFo h f hf
def covM (fs : List Rn) : Nat := fs.foldl (fun m f => m ||| msk (f.V.map Int.toNat)) 0
theorem zS9 : ∀ (fs : List Rn) (m v : Nat), (fs.foldl (fun m f => m ||| msk (f.V.map Int.toNat)) m).testBit v = (m.testBit v || fs.any fun f => decide (v ∈ f.V.map Int.toNat))
  | [], m, v => by simp
  | f :: fs, m, v => by rw [List.foldl_cons, zS9 fs, Nat.testBit_or, zBx, List.any_cons, Bool.or_assoc]
theorem zXw : ∀ (fs : List Rn) (m : Nat), m < 4294967296 → (∀ f ∈ fs, ∀ v ∈ f.V.map Int.toNat, v < 32) → fs.foldl (fun m f => m ||| msk (f.V.map Int.toNat)) m < 4294967296
  | [], m, h, _ => h
  | f :: fs, m, h, hf => zXw fs _ (zT1 h (zDi (hf f (List.mem_cons_self ..)))) fun g hg => hf g (List.mem_cons_of_mem _ hg)
theorem zCx {A : List Nat} {v : Nat} : ((v : Int) ∈ intL A) ↔ v ∈ A := by
  rw [List.mem_map]
  exact ⟨fun ⟨a, h1, h2⟩ => by obtain rfl : a = v := by omega
                               exact h1, fun h => ⟨v, h, rfl⟩⟩
theorem zDs (A : List Nat) : (intL A).map Int.toNat = A := by
  simp [intL, Function.comp_def]
theorem covM_eq (n : Nat) (fs : List Rn) (hf : ∀ f ∈ fs, ∃ A : List Nat, f.V = intL A ∧ ∀ v ∈ A, v < n) : covM fs = 2 ^ n - 1 ↔ covP n fs = true := by
  have hb : ∀ v, (covM fs).testBit v = fs.any fun f => decide ((v : Int) ∈ f.V) := fun v => by
    unfold covM
    rw [zS9, Nat.zero_testBit, Bool.false_or, Bool.eq_iff_iff, List.any_eq_true, List.any_eq_true]
    constructor
    · rintro ⟨f, h1, h2⟩
      obtain ⟨A, hA, _⟩ := hf f h1
      refine ⟨f, h1, ?_⟩
      rw [hA, zDs] at h2
      rw [hA]
      simpa [zCx] using h2
    · rintro ⟨f, h1, h2⟩
      obtain ⟨A, hA, _⟩ := hf f h1
      refine ⟨f, h1, ?_⟩
      rw [hA] at h2
      rw [hA, zDs]
      simpa [zCx] using h2
  unfold covP
  rw [List.all_eq_true]
  constructor
  · intro h v hv
    rw [← hb, h, Nat.testBit_two_pow_sub_one]
    simpa using hv
  · intro h
    refine Nat.eq_of_testBit_eq fun v => ?_
    rw [hb, Nat.testBit_two_pow_sub_one]
    by_cases hv : v < n
    · rw [h v (by simpa using hv)]; simp [hv]
    · rw [decide_eq_false hv, Bool.eq_false_iff]
      intro k
      rw [List.any_eq_true] at k
      obtain ⟨f, h1, h2⟩ := k
      obtain ⟨A, hA, hlt⟩ := hf f h1
      rw [hA] at h2
      have : v ∈ A := by simpa [zCx] using h2
      exact hv (hlt v this)
end
section
open Go.RowKit
attribute [local irreducible] seqW awp zAf zAo zAg Weak updS zAw retL Pure Acts rP setP setQ cP nP fr
set_option maxRecDepth 4096
abbrev rnC (f : Rn) : List D := [.row (f.V.map fun z => iD z) f.V.length, .row (f.R.map rowV) f.R.length, .row (f.W.map natD) f.W.length]
theorem zJ2 (f : Rn) : (rnC f).length = 3 := rfl
structure Rsz (f : Rn) : Prop where
 v : f.V.length ≤ 1000
 r : f.R.length ≤ 1000
set_option maxHeartbeats 4000000 in
theorem zVj (n keep : Nat) (fs : List Rn) (hn : n ≤ 8) (hk : keep < 4294967296) (hl : fs.length ≤ 1000) (hs : ∀ f ∈ fs, Rsz f) : Pure Tryd.prog 29 [iD (n : Nat), u32D keep, .row (fs.flatMap rnC) fs.length] [] (iD (zBt n keep fs)) := by
 have w1 := zEv keep (v := n) (by omega)
 have w2 := zMl (v := n) (by omega)
 have h2n : 2 ^ n ≤ 256 := Nat.pow_le_pow_right (n := 2) (by omega) hn
 have h1n := Nat.one_le_two_pow (n := n)
 have w3 : ((2 ^ n : Nat) : Int) - 1 = ((2 ^ n - 1 : Nat) : Int) := by omega
 have w4 := zCr (n := 2 ^ n - 1) (by omega)
 have ewr : zBt n keep fs = if keep >>> n ≠ 0 then 3 else if errL n fs ≠ 0 then errL n fs else if covP n fs then 0 else 22 := by
  unfold zBt
  rw [Int.toNat_natCast]
  by_cases h : keep >>> n ≠ 0
  ·rw [if_pos (.inr (.inr h)), if_pos h]
  ·rw [if_neg (by intro k; rcases k with k | k | k <;> first | omega | exact h k), if_neg h]
 generalize keep >>> n = kk at *
 refine zL Tq_ok mixed Tryd.func29 rfl ?_
 focus
  refine zB (zA rfl (v0s (veT (zB (zB (zA rfl (vw 10 [] [(2, false), (6, false)] (decide ((↑n : Int) < 0) = false ∧ decide ((↑n : Int) > (32 : Int)) = false ∧ (0 : Int) ≤ (↑n : Int)) (vs 20 (D.val (Value.int IntKind.u32 (Int.fdiv (↑keep : Int) ((2 : Int) ^ min (Int.toNat (↑n : Int)) 32)))) (dig kk) (by simp (disch := omega) only [Int.toNat_natCast, w1]) (veT ?_)))))))))
  refine zR (t := (↑kk : Int) != (0 : Int)) (by kernel_rfl) (fun hc => ?_) (fun hc => ?_)
  simp only [bne_iff_ne] at hc
  refine zB (zA rfl (veT (zM (zJ ?_))))
  refine vre (True) (D.val (Value.int IntKind.i64 3)) (.inr rfl) ?_
  rotate_left
  simp only [bne_eq_false_iff_eq] at hc
  refine zG (zC (zD (zB (zA rfl (veT (zB (zB (zA rfl (veT (zF ?_))))))))))
  rotate_left
 ·rw [ewr, if_pos (by omega)]
 have hcu : ∀ i, covM (fs.take i) < 4294967296 ∨ ¬ ∀ j, j < i → chkR n (fs.getD j default) = 0 := fun i => by
  by_cases h : ∀ j, j < i → chkR n (fs.getD j default) = 0
  ·refine .inl (zXw (fs.take i) 0 (by omega) fun f hf v hv => ?_)
   obtain ⟨j, hj, rfl⟩ := List.mem_iff_getElem.1 hf
   have hj2 : j < i ∧ j < fs.length := by rw [List.length_take] at hj; omega
   have := h j hj2.1
   rw [List.getD_eq_getElem?_getD, List.getElem?_eq_getElem hj2.2, Option.getD_some] at this
   obtain ⟨A, hA, hfit⟩ := zF6 this
   rw [List.getElem_take, hA, show A.map (fun v : Nat => (v : Int)) = intL A from rfl, zDs] at hv
   have := hfit.lt v hv
   omega
  ·exact .inr h
 refine zW (fun (i : Nat) => fr 45 [(0, iD ↑n), (7, u32D (covM (List.take i fs))), (23, D.row (List.flatMap rnC fs) (List.length fs)), (24, iD ↑(List.length fs)), (25, iD ↑i)]) (fun (i : Nat) => []) (fun i => fs.length - i) (fun (i : Nat) => i ≤ fs.length ∧ ∀ j, j < i → chkR n (fs.getD j default) = 0) 0 ?_ ?_ ?_
 ·exact ⟨by omega, fun j h => by omega⟩
 ·refine vk 0
 rintro i ⟨h1, h2⟩
 have hcl := (hcu i).resolve_right (fun h => h h2)
 rcases Nat.lt_or_ge i fs.length with h3 | h3
 ·have hm := zAt fs default i h3
  have hg2 := zFw zJ2 fs i h3
  have hle := zJf zJ2 fs i h3
  have hne := zJe zJ2 (by decide) fs (by omega)
  have hsz := hs _ hm
  have hat := zRb h2 h3
  have htk : covM (fs.take (i + 1)) = covM (fs.take i) ||| msk ((fs.getD i default).V.map Int.toNat) := by
   rw [zCi fs i h3]
   unfold covM
   rw [List.foldl_append]
   rfl
  generalize hff : fs.getD i default = f at *
  obtain ⟨V, R, W⟩ := f
  have hch := zXz n V R W (by have := hsz.v; simp only at this; omega) (by have := hsz.r; simp only at this; omega)
  by_cases e0 : chk n V R W.length = 0
  ·obtain ⟨A, hA, hfit⟩ := zF6 e0
   have hA : V = intL A := hA
   subst hA
   rw [e0] at hch
   have eA : (intL A).map (fun z => iD z) = nsD A := by simp [intL]
   have eL : (intL A).length = A.length := by simp
   have hv32 : ∀ v ∈ A, v < 32 := fun v hv => by have := hfit.lt v hv; omega
   have nA : A.length ≤ 1000 := by have := hsz.v; simp only [eL] at this; exact this
   have sA := zL2 A _ rfl nA hv32 (R.map rowV) (W.map natD) R.length W.length
   rw [zDs] at htk
   have w5 := bv_or hcl (zDi hv32)
   have w6 := zCr (zT1 hcl (zDi hv32))
   simp only [rnC, eA, eL] at hg2
   simp only [fcR, eA, eL] at hch
   focus
    refine zB (zA rfl (v0s (veT (zB (vT ((↑i : Int) < ↑(List.length fs)) (zG (zC (zD (zB (zF (zB (zA rfl (vr 2 (ix ↑i ↑(List.length fs) (List.flatMap rnC fs ≠ []) ∧ 3 ≤ List.length (List.drop (i * 3) (List.flatMap rnC fs))) ?_)))))))))))))
    refine vs 28 (D.agg (List.take 3 (List.drop (i * 3) (List.flatMap rnC fs)))) (D.agg [D.row (nsD A) (List.length A), D.row (List.map rowV R) (List.length R), D.row (List.map natD W) (List.length W)]) (by simp (disch := omega) only [hg2]) (ve (false = false ∧ true = true ∧ 3 = 3 ∧ 3 ≤ 3) (zB (zB (zA rfl (vr 2 (3 ≤ 3) (vc hch (veT (zB (zA rfl (veT (vf (zG (zC ?_)))))))))))))
    refine zD (zA rfl (vr 2 (3 ≤ 3) (vc sA (vrT 1 (vs 38 (D.val (Value.int IntKind.u32 (IntKind.wrap IntKind.u32 (↑(BitVec.toNat (BitVec.ofInt 32 (↑(covM (List.take i fs)) : Int) ||| BitVec.ofInt 32 (↑(msk A) : Int))) : Int)))) (dig (covM (List.take i fs) ||| msk A)) (by simp (disch := omega) only [w6, w5]) (vrT 1 (vnil (zE (zC (zD (zA rfl (vr 2 (i6 (↑i + 1)) (vnil ?_)))))))))))))
    refine zC ?_
    rotate_left
   refine ⟨i + 1, ⟨by omega, fun j hj => ?_⟩, by omega, ?_⟩
   ·rcases Nat.lt_or_ge j i with h | h
    ·exact h2 j h
    ·obtain rfl : j = i := by omega
     rw [hff]; exact e0
   ·rw [htk]
    refine vk 0
  ·have hat' := hat e0
   have hat2 : errL n fs = chk n V R W.length := hat'
   generalize chk n V R W.length = e at *
   focus
    refine zB (zA rfl (v0s (veT (zB (vT ((↑i : Int) < ↑(List.length fs)) (zG (zC (zD (zB (zF (zB (zA rfl (vr 2 (ix ↑i ↑(List.length fs) (List.flatMap rnC fs ≠ []) ∧ 3 ≤ List.length (List.drop (i * 3) (List.flatMap rnC fs))) ?_)))))))))))))
    refine vs 28 (D.agg (List.take 3 (List.drop (i * 3) (List.flatMap rnC fs)))) (D.agg (rnC (Rn.mk V R W))) (by simp (disch := omega) only [hg2]) (ve (false = false ∧ true = true ∧ 3 = 3 ∧ 3 ≤ 3) (zB (zB (zA rfl (vr 2 (3 ≤ 3) (vc hch (veT (zB (zA rfl (veT (zEs (t := e != (0 : Int)) (by kernel_rfl) (by simpa using by omega) (zB (zA rfl ?_)))))))))))))
    refine veT (zM (zJ (zN (zJ (zJ (zN (zJ ?_)))))))
    refine vre (True) (D.val (Value.int IntKind.i64 e)) (.inr rfl) ?_
    rotate_left
   rw [ewr, if_neg (by omega), if_pos (by omega), hat2]
 rw [List.take_of_length_le h3] at hcl ⊢
 have h0 := zXn fun j hj => h2 j (by omega)
 have hce := covM_eq n fs fun f hf => by
  obtain ⟨A, hA, hfit⟩ := zF6 (zFo h0 f hf)
  exact ⟨A, hA, fun v hv => by have := hfit.lt v hv; omega⟩
 focus
  refine zB (zA rfl (v0s (veT (zB (vF ((↑i : Int) < ↑(List.length fs)) (zQ (zH (zH (zP rfl (zC (zD (zB (zB ?_)))))))))))))
  refine zA rfl (vr 3 ((0 : Int) ≤ (↑n : Int)) (vs 42 (D.val (Value.int IntKind.u32 (IntKind.wrap IntKind.u32 ((1 : Int) * (2 : Int) ^ min (Int.toNat (↑n : Int)) 32)))) (dig ((2 : Nat) ^ n)) (by simp (disch := omega) only [Int.toNat_natCast, w2]) (vr 1 (u3 ((↑((2 : Nat) ^ n) : Int) - (1 : Int))) (vs 43 (D.val (Value.int IntKind.u32 ((↑((2 : Nat) ^ n) : Int) - (1 : Int)))) (dig ((2 : Nat) ^ n - 1)) (by simp (disch := omega) only [w3]) (veT ?_)))))
  refine zR (t := (↑(covM fs) : Int) != (↑((2 : Nat) ^ n - 1) : Int)) (by kernel_rfl) (fun hc => ?_) (fun hc => ?_)
  simp only [bne_iff_ne] at hc
  refine zB (zA rfl (veT (zM (zJ ?_))))
  refine vre (True) (D.val (Value.int IntKind.i64 22)) (.inr rfl) ?_
  rotate_left
  simp only [bne_eq_false_iff_eq] at hc
  refine zG (zC (zD (zB (zA rfl (veT (zM ?_))))))
  refine vre (True) (q2_) (.inr rfl) ?_
  rotate_left
 ·rw [ewr, if_neg (by omega), if_neg (by omega), if_neg (fun h => by have := hce.2 h; omega)]
 ·rw [ewr, if_neg (by omega), if_neg (by omega), if_pos (hce.1 (by omega))]
end
section
open Go.RowKit
section
variable {T : Par} {sl : List D} {st : List Bk}
theorem Weak.leC {j i : Nat} {ej : Bk} {d d' : D} (hj : st[j]? = some ej) (hm : ej.kd.isMap = false) (hi : ej.cells[i]? = some d) (hd : LeD d d') : Weak T sl st sl (st.set j { ej with cells := ej.cells.set i d' }) := by
 intro β I w tm h
 have hjl : j < st.length := (List.getElem?_eq_some_iff.1 hj).1
 have hget : ∀ k, (st.set j { ej with cells := ej.cells.set i d' })[k]? = if k = j then some { ej with cells := ej.cells.set i d' } else st[k]? := fun k => by
  rw [List.getElem?_set]
  by_cases hkj : j = k
  ·subst hkj; simp [hjl]
  ·rw [if_neg hkj, if_neg (fun e => hkj e.symm)]
 refine ⟨β, I, ⟨h.rel, fun k b' c hk => ?_, h.inj, fun k b' c o e hk he hi' => ?_, fun k y hk => ?_, h.imb, h.gl⟩, Stp.refl _ _ _, Kp.refl _ _⟩
 ·obtain ⟨e, k1, k2⟩ := h.sr k b' c hk
  rw [hget k]
  by_cases hkj : k = j
  ·subst hkj
   rw [hj] at k1; cases k1
   refine ⟨_, if_pos rfl, ?_⟩
   obtain ⟨cur, c1, c2, c3, c4⟩ := k2.c hm
   refine OwnC.r ⟨cur, c1, by simpa using c2, ?_, c4⟩ hm
   have hn2 : ({ ej with cells := ej.cells.set i d' } : Bk).nob = ej.nob := rfl
   rw [hn2]
   simp only [List.length_set]
   refine c3.putAt fun d0 v hd0 hv hr => ?_
   rw [hi] at hd0; cases hd0
   exact hd _ _ _ _ hr
  ·exact ⟨e, by rw [if_neg hkj]; exact k1, k2⟩
 ·rw [hget k] at he
  by_cases hkj : k = j
  ·subst hkj
   rw [if_pos rfl] at he
   cases he
   have := h.fz k b' c o ej hk hj hi'
   exact ⟨this.1, this.2.imp id (fun h => by simpa using h)⟩
  ·rw [if_neg hkj] at he
   exact h.fz k b' c o e hk he hi'
 ·rw [List.length_set]
  exact h.dom k y hk
theorem LeL.setD : ∀ {sl : List D} {i : Nat} {d d' : D}, sl[i]? = some d → LeD d d' → LeL sl (sl.set i d')
 | [], i, d, d', h, _ => by simp at h
 | e :: sl, 0, d, d', h, hd => by
  simp only [List.getElem?_cons_zero, Option.some.injEq] at h
  subst h
  exact .cons hd (LeL.refl sl)
 | e :: sl, i + 1, d, d', h, hd => .cons (LeD.refl e) (LeL.setD (by simpa using h) hd)
theorem Weak.leS {s : Nat} {d d' : D} (hs : sl[s]? = some d) (hd : LeD d d') : Weak T sl st (sl.set s d') st := Weak.slots (LeL.setD hs hd)
theorem LeD.osr_row (k off n m : Nat) (wh : Bool) (cs : List D) : LeD (.osr k off n m wh cs) (.row cs n) := fun I w β v h => by
 simp only [Rel] at h ⊢
 exact h.2
end
end
section
open Go.RowKit
attribute [local irreducible] seqW awp zAf zAo zAg Weak updS zAw retL Pure Acts rP setP setQ cP nP fr
set_option maxRecDepth 4096
theorem zJk {α : Type} (l : List α) (x : α) : (l ++ [x]).length = l.length + 1 := by simp
theorem rixn_c (A : List Nat) (v : Nat) (hA : A.length ≤ 1000) : Pure Tryd.prog 44 [.row (nsD A) A.length, iD (v : Nat)] [] (iD (if v ∈ A then ((A.idxOf v : Nat) : Int) else -1)) := by
 have h := zMo (intL A) A.length v (by simp) (by omega)
 rw [zW9] at h
 have e : (intL A).map (fun z => iD z) = nsD A := by simp [intL]
 rw [← e]; exact h
abbrev q11_ := Bk.mk [nl, nl, nl] 46 0 false false Kd.plain
set_option maxHeartbeats 8000000 in
theorem rmul_c (A B : List Nat) (la lb : List (Rw × Nat)) (hA : Asc A) (hB : Asc B) (al : ∀ p ∈ la, p.1.length = A.length) (bl : ∀ p ∈ lb, p.1.length = B.length) (sa : la.length ≤ 1000000) (sb : lb.length ≤ 1000000) (hsz : la.length * lb.length ≤ 900000) (hs : (la.map (·.2)).sum * (lb.map (·.2)).sum ≤ 4000000000000000000) :
  Pure Tryd.prog 24 [rfD A la, rfD B lb] [] (rfD (un A B) (acc rcmp (· + ·) [] (zBb (· * ·) A la B lb))) := by
 have nA := zBn hA
 have nB := zBn hB
 have iA := fun v => rixn_c A v (by omega)
 have iB := fun v => rixn_c B v (by omega)
 have hU := zRv A B
 have nU := zBn hU
 refine zL zBo mixed Tryd.func24 rfl ?_
 focus
  refine zB (zA rfl (v0s (veT (zB (zA rfl (vrT 1 (vnil (zC (vnn (fr 138 [(2, D.own 0 0), (3, D.own 1 0), (4, D.own 2 0), (5, D.own 3 0)]) [Bk.mk [(q4_ A), (q7_ la), (q9_ la)] 46 0 false false Kd.plain, Bk.mk [(q4_ B), D.row (rwsD lb) (List.length lb), D.row (isD lb) (List.length lb)] 46 0 false false Kd.plain, q11_, q11_] ?_)))))))))
  rotate_left
 refine zBe (Weak.nilC (j := 3) (i := 0) (intB []) rfl rfl rfl rfl) ?_
 focus
  refine zB (zB (zA rfl (v0s (veT (zF ?_)))))
  rotate_left
 refine zAu (fun (i : Nat) (c : List Nat) => fr 138 [(2, D.own 0 0), (3, D.own 1 0), (4, D.own 2 0), (5, D.own 3 0), (6, iD ↑i)]) (fun (i : Nat) (c : List Nat) => [rB (.row (nsD A) A.length) (.row (rwsD la) la.length) (.row (isD la) la.length), rB (.row (nsD B) B.length) (.row (rwsD lb) lb.length) (.row (isD lb) lb.length), rB nl nl nl, rB (.osl 4 0 c.length c.length true) nl nl, intB (nsD c)]) (fun i c => 32 - i) (fun (i : Nat) (c : List Nat) => i ≤ 32 ∧ c = ((List.range 32).take i).filter fun v => decide (v ∈ A ∨ v ∈ B)) 0 [] ?_ ?_ ?_
 ·exact ⟨by omega, by simp⟩
 ·refine vk 5
 rintro i c ⟨h1, h2⟩
 have hlen : c.length ≤ 32 := by rw [h2]; exact Nat.le_trans (List.length_filter_le _ _) (by simp; omega)
 rcases Nat.lt_or_ge i 32 with h3 | h3
 ·have h4 : ((List.range 32).take (i + 1)).filter (fun v => decide (v ∈ A ∨ v ∈ B)) = c ++ if i ∈ A ∨ i ∈ B then [i] else [] := by
   rw [List.take_succ_eq_append_getElem (by simpa using h3), List.filter_append, ← h2]
   congr 1
   simp [List.filter_cons]
  have jA := iA i
  have jB := iB i
  obtain ⟨x, hx⟩ : ∃ x : Int, x = if i ∈ A then ((A.idxOf i : Nat) : Int) else -1 := ⟨_, rfl⟩
  obtain ⟨y, hy⟩ : ∃ y : Int, y = if i ∈ B then ((B.idxOf i : Nat) : Int) else -1 := ⟨_, rfl⟩
  rw [← hx] at jA
  rw [← hy] at jB
  have xA : 0 ≤ x ↔ i ∈ A := by rw [hx]; split <;> simp [*] <;> omega
  have yB : 0 ≤ y ↔ i ∈ B := by rw [hy]; split <;> simp [*] <;> omega
  clear hx hy
  focus
   refine zB (zB (zA rfl (v0s (veT (vT ((↑i : Int) < (32 : Int)) (zG (zC (zD (zB (zF (zB (zA rfl (vr 3 (True ∧ 0 < 3) ?_)))))))))))))
   refine vc jA (vrT 2 ?_)
   refine vsp 23 (decide (x ≥ (0 : Int))) (fun hc => ?_) (fun hc => ?_)
   simp only [decide_eq_true_eq] at hc
   refine veT (vt (zA rfl (vr 7 (True ∧ 0 < 3 ∧ ((1 = 1 ∧ 1 ≤ 1 ∧ True) ∧ 0 < 1 ∧ 1 = 1 ∧ 1 ≤ 16777216 ∧ 1 ≤ 9223372036854775807) ∧ (Bk.arr (intB (nsD c)) = true ∧ List.length (Bk.cells (intB (nsD c))) = List.length c * 1 ∧ List.length c = List.length c * 1 ∧ Bk.ty (intB (nsD c)) = 3 ∧ Bk.sz (intB (nsD c)) = 1 ∧ 1 = 1 ∧ 0 < 1 ∧ 0 < 8 ∧ 3 = 3 ∧ (List.length c + 1) * 8 ≤ 140737488355328 ∧ 1 = 1 ∧ Kd.isMap (Bk.kd (intB (nsD c))) = false ∧ (false = false ∨ Kd.isSh (Bk.kd (intB (nsD c))) = true)) ∧ True ∧ false = false ∧ true = true ∧ 1 = 1 ∧ 1 ≤ 3) (vb 3 (Bk.mk [D.osl 4 0 (List.length c + 1) ((List.length c + 1) * 1) true, nl, nl] 46 0 false false (Bk.kd (Bk.mk [Uk, nl, nl] 46 0 false false Kd.plain))) (Bk.mk [D.osl 4 0 (List.length c + 1) (List.length c + 1) true, nl, nl] 46 0 false false Kd.plain) (by simp (disch := omega) only [Nat.mul_one]) (vnil (zE (zC (zD (zA rfl (vr 3 (i6 (↑i + 1)) (vnil (zC ?_))))))))))))
   rotate_left
   simp only [decide_eq_false_iff_not] at hc
   refine vr 3 (True ∧ 0 < 3) (vc jB (veT ?_))
   refine zR (t := decide (y ≥ (0 : Int))) (by kernel_rfl) (fun hc => ?_) (fun hc => ?_)
   simp only [decide_eq_true_eq] at hc
   refine zA rfl (vr 7 (True ∧ 0 < 3 ∧ ((1 = 1 ∧ 1 ≤ 1 ∧ True) ∧ 0 < 1 ∧ 1 = 1 ∧ 1 ≤ 16777216 ∧ 1 ≤ 9223372036854775807) ∧ (Bk.arr (intB (nsD c)) = true ∧ List.length (Bk.cells (intB (nsD c))) = List.length c * 1 ∧ List.length c = List.length c * 1 ∧ Bk.ty (intB (nsD c)) = 3 ∧ Bk.sz (intB (nsD c)) = 1 ∧ 1 = 1 ∧ 0 < 1 ∧ 0 < 8 ∧ 3 = 3 ∧ (List.length c + 1) * 8 ≤ 140737488355328 ∧ 1 = 1 ∧ Kd.isMap (Bk.kd (intB (nsD c))) = false ∧ (false = false ∨ Kd.isSh (Bk.kd (intB (nsD c))) = true)) ∧ True ∧ false = false ∧ true = true ∧ 1 = 1 ∧ 1 ≤ 3) (vb 3 (Bk.mk [D.osl 4 0 (List.length c + 1) ((List.length c + 1) * 1) true, nl, nl] 46 0 false false (Bk.kd (Bk.mk [Uk, nl, nl] 46 0 false false Kd.plain))) (Bk.mk [D.osl 4 0 (List.length c + 1) (List.length c + 1) true, nl, nl] 46 0 false false Kd.plain) (by simp (disch := omega) only [Nat.mul_one]) (vnil (zE (zC (zD (zA rfl (vr 3 (i6 (↑i + 1)) (vnil (zC ?_))))))))))
   rotate_left
   simp only [decide_eq_false_iff_not] at hc
   refine zG (zE (zC (zD (zA rfl (vr 3 (i6 (↑i + 1)) (vnil (zC ?_)))))))
   rotate_left
  ·rw [if_pos (.inl (xA.1 hc))] at h4
   refine ⟨i + 1, c ++ [i], ⟨by omega, h4.symm⟩, by omega, ?_⟩
   rw [zKf, List.length_append]
   refine vk 5
  ·rw [if_pos (.inr (yB.1 hc))] at h4
   refine ⟨i + 1, c ++ [i], ⟨by omega, h4.symm⟩, by omega, ?_⟩
   rw [zKf, List.length_append]
   refine vk 5
  ·rw [if_neg (by rw [← xA, ← yB]; omega), List.append_nil] at h4
   refine ⟨i + 1, c, ⟨by omega, h4.symm⟩, by omega, ?_⟩
   refine vk 5
 have ec : c = un A B := by rw [h2, List.take_of_length_le (by simp; omega)]; rfl
 have hmem : ∀ v ∈ c, v ∈ A ∨ v ∈ B := fun v h => by rw [ec] at h; exact (zCq.1 h).2
 have hca := zH3 c c.length rfl
 clear h1 h2
 focus
  refine zB (zB (zA rfl (v0s (veT (vF ((↑i : Int) < (32 : Int)) (zQ (zH (zH (zP rfl (zC (vnn (fr 138 [(2, D.own 0 0), (3, D.own 1 0), (4, D.own 2 0), (5, D.own 3 0), (6, iD ↑i), (15, bD (decide ((↑i : Int) < (32 : Int))))]) [rB ((q4_ A)) ((q7_ la)) ((q9_ la)), rB ((q4_ B)) (D.row (rwsD lb) (List.length lb)) (D.row (isD lb) (List.length lb)), rB nl nl nl, rB (D.osl 4 0 (List.length c) (List.length c) true) nl nl, intB (nsD c)] ?_)))))))))))
  rotate_left
 clear h3
 refine zBe ((Weak.fzCell (j := 3) (i := 0) (d := .osl 4 0 c.length c.length true) (x := .row (nsD c) c.length) (ks := [4]) rfl rfl rfl rfl (by exact (show some (D.row (((nsD c).drop 0).take c.length) c.length, [4]) = _ by rw [List.drop_zero, hca])) (by decide)).trans ((Weak.leC (j := 3) (i := 1) (d' := .row [] 0) rfl rfl rfl LeD.nil_row).trans (Weak.leC (j := 3) (i := 2) (d' := .row [] 0) rfl rfl rfl LeD.nil_row))) ?_
 focus
  refine zB (zB (zA rfl (v0s (veT (zF ?_)))))
  rotate_left
 refine zAu (fun (i : Nat) (O : List (Rw × Nat)) => fr 138 [(2, D.own 0 0), (3, D.own 1 0), (4, D.own 2 0), (5, D.own 3 0), (7, iD ↑i)]) (fun (i : Nat) (O : List (Rw × Nat)) => [rB (.row (nsD A) A.length) (.row (rwsD la) la.length) (.row (isD la) la.length), rB (.row (nsD B) B.length) (.row (rwsD lb) lb.length) (.row (isD lb) lb.length), rB nl nl nl, rB (.row (nsD c) c.length) (.row (rwsD O) O.length) (.row (isD O) O.length), ⟨nsD c, 3, 1, true, true, .plain⟩]) (fun i O => la.length - i) (fun (i : Nat) (O : List (Rw × Nat)) => i ≤ la.length ∧ O = acc rcmp (· + ·) [] (zBq A la B lb i 0)) 0 [] ?_ ?_ ?_
 ·exact ⟨by omega, by rw [zZf]; rfl⟩
 ·refine vk 5
 rintro i O ⟨h1, h1o⟩
 rcases Nat.lt_or_ge i la.length with h2 | h2
 ·have hpm : la.getD i default ∈ la := zAt la default i h2
  have hxA := zFj la h2
  have hvA := zGw la h2
  have hlA := al _ hpm
  have hneA : rwsD la ≠ [] := zY (by simp; omega)
  have hneA2 : isD la ≠ [] := zY (by simp; omega)
  have hks := fun k h => zZd (A := A) (B := B) (la := la) (lb := lb) (i := i) (k := k) h
  have hsm := fun k => zTu (A := A) (B := B) (la := la) (lb := lb) (i := i) (k := k) h2
  have hln := fun k => zTw (A := A) (B := B) (la := la) (lb := lb) (i := i) (k := k) h2
  have hnx := zZe (A := A) (B := B) (la := la) (lb := lb) h2
  focus
   refine zB (zB (zA rfl (v0s (ve (True ∧ 0 < 2) (vT ((↑i : Int) < ↑(List.length la)) (zG (zC (zD (zB (zF (zB (zA rfl (veT ?_)))))))))))))
   refine zF ?_
   rotate_left
  refine zAu (fun (k : Nat) (O : List (Rw × Nat)) => fr 138 [(2, D.own 0 0), (3, D.own 1 0), (4, D.own 2 0), (5, D.own 3 0), (7, iD ↑i), (8, iD ↑k)]) (fun (k : Nat) (O : List (Rw × Nat)) => [rB (.row (nsD A) A.length) (.row (rwsD la) la.length) (.row (isD la) la.length), rB (.row (nsD B) B.length) (.row (rwsD lb) lb.length) (.row (isD lb) lb.length), rB nl nl nl, rB (.row (nsD c) c.length) (.row (rwsD O) O.length) (.row (isD O) O.length), ⟨nsD c, 3, 1, true, true, .plain⟩]) (fun k O => lb.length - k) (fun (k : Nat) (O : List (Rw × Nat)) => k ≤ lb.length ∧ O = acc rcmp (· + ·) [] (zBq A la B lb i k)) 0 O ?_ ?_ ?_
  ·exact ⟨by omega, h1o⟩
  ·refine vk 5
  clear h1o O
  rintro k O ⟨h3, h3o⟩
  rcases Nat.lt_or_ge k lb.length with h4 | h4
  ·have hqm : lb.getD k default ∈ lb := zAt lb default k h4
   have hxB := zFj lb h4
   have hvB := zGw lb h4
   have hlB := bl _ hqm
   have hneB : rwsD lb ≠ [] := zY (by simp; omega)
   have hneB2 : isD lb ≠ [] := zY (by simp; omega)
   have hk1 := hks k h4
   have hsm1 := hsm (k + 1)
   rw [hk1] at hsm1
   have hOl : O.length ≤ 1000000 := by
    have h5 := zLe (c := rcmp) (· + ·) (zBq A la B lb i k) []
    have h6 := hln k
    rw [← h3o, List.length_nil] at h5
    omega
   have hOr : ∀ s ∈ O, s.1.length = c.length := by rw [h3o, ec]; exact zYj zTv
   have hOs : (O.map (·.2)).sum = ((zBq A la B lb i k).map (·.2)).sum := by
    rw [h3o, zLd]; simp
   generalize lb.getD k default = q at *
   generalize la.getD i default = p at *
   obtain ⟨σ, eσ⟩ : ∃ σ, σ = sg A p.1 B q.1 := ⟨_, rfl⟩
   obtain ⟨ag, eag⟩ : ∃ ag : Nat → Bool, ag = fun v => decide (v ∈ A → v ∈ B → asg A p.1 v = asg B q.1 v) := ⟨_, rfl⟩
   have emt : mt A p.1 B q.1 = c.all ag := by rw [eag, ec]; exact mt_un hA p.1 q.1
   have emg : mg A p.1 B q.1 = c.map σ := by rw [eσ, ec]; rfl
   rw [emt, emg] at hk1 hsm1
   focus
    refine zB (zB (zA rfl (v0s (ve (True ∧ 0 < 2) (vT ((↑k : Int) < ↑(List.length lb)) (zG (zC (zD (zB (zF (zB (zA rfl (veT ?_)))))))))))))
    refine zB (zA rfl (veT (zB (zB (zA rfl (veT (zF ?_)))))))
    rotate_left
   refine zAu (fun (j : Nat) (r : Rw) => fr 138 [(2, D.own 0 0), (3, D.own 1 0), (4, D.own 2 0), (5, D.own 3 0), (7, iD ↑i), (8, iD ↑k), (9, D.osl 5 0 (List.length r) (List.length r * 3) true), (10, bD (List.all (List.take j c) ag)), (11, iD ↑j)]) (fun (j : Nat) (r : Rw) => [rB (.row (nsD A) A.length) (.row (rwsD la) la.length) (.row (isD la) la.length), rB (.row (nsD B) B.length) (.row (rwsD lb) lb.length) (.row (isD lb) lb.length), rB nl nl nl, rB (.row (nsD c) c.length) (.row (rwsD O) O.length) (.row (isD O) O.length), ⟨nsD c, 3, 1, true, true, .plain⟩, vaB r]) (fun j r => c.length - j) (fun (j : Nat) (r : Rw) => j ≤ c.length ∧ r = (c.take j).map σ) 0 [] ?_ ?_ ?_
   ·exact ⟨by omega, by simp⟩
   ·refine vk 5
   rintro j r ⟨h5, h6⟩
   rcases Nat.lt_or_ge j c.length with h7 | h7
   ·have hrl : r.length = j := by rw [h6]; simp; omega
    have hv := zDk c j h7
    have hvo := hmem _ hv
    have hz := zAi c j h7
    have hne5 : nsD c ≠ [] := zY (by omega)
    have hag := zNm ag 0 c j h7
    have hmp : (c.take (j + 1)).map σ = r ++ [σ (c.getD j 0)] := by
     rw [List.take_succ_eq_append_getElem h7, List.map_append, ← h6, List.getD_eq_getElem?_getD, List.getElem?_eq_getElem h7]; rfl
    have jA := iA (c.getD j 0)
    have jB := iB (c.getD j 0)
    generalize c.getD j 0 = v at *
    by_cases ha : v ∈ A
    ·rw [if_pos ha] at jA
     have ilA := List.idxOf_lt_length_iff.2 ha
     have sA : σ v = p.1.getD (A.idxOf v) default := by rw [eσ, sg, if_pos ha]; rfl
     rw [sA] at hmp
     by_cases hb : v ∈ B
     ·rw [if_pos hb] at jB
      have ilB := List.idxOf_lt_length_iff.2 hb
      have agv : ag v = decide (p.1.getD (A.idxOf v) default = q.1.getD (B.idxOf v) default) := by rw [eag]; simp only [ha, hb, true_implies]; rfl
      generalize A.idxOf v = x at *
      generalize B.idxOf v = y at *
      focus
       refine zB (zB (zA rfl (v0s (ve (True ∧ 0 < 3) (vT ((↑j : Int) < ↑(List.length c)) (zG (zC (zD (zB (zF (zB (vd [0, 2, 4, 8, 10, 12, 1, 3, 5, 6, 7, 9, 11, 13, 14, 15, 16, 17] (vr 9 (True ∧ True ∧ True ∧ True ∧ 0 < 3 ∧ 0 < 3 ∧ ix ↑j ↑(List.length c) (nsD c ≠ [])) ?_)))))))))))))
       refine vp 62 j (nsD c) (vr 1 (0 < List.length (List.drop j (nsD c))) (vsh 63 hz (vc jA (vr 3 (0 < 3 ∧ 0 < 3 ∧ ix ↑j ↑(List.length c) (nsD c ≠ [])) (vp 70 j (nsD c) (vr 1 (0 < List.length (List.drop j (nsD c))) (vsh 71 hz (vc jB (veT (zB (zB (vd [0, 1, 2, 3, 4, 5, 6, 7, 9, 12, 15, 17, 20, 8, 10, 11, 13, 14, 16, 18, 19, 21, 22, 23, 24] (vw 15 [] [(2, true), (6, true)] (decide ((↑x : Int) ≥ (0 : Int)) = true ∧ decide ((↑y : Int) ≥ (0 : Int)) = true ∧ True ∧ True ∧ 0 < 2 ∧ ix ↑i ↑(List.length la) (rwsD la ≠ [])) ?_)))))))))))))
       refine vp 83 i (rwsD la) (vr 1 (0 < List.length (List.drop i (rwsD la))) (vsh 84 hxA (vr 2 (ix ↑x (↑(List.length (Prod.fst p)) : Int) (zK (Prod.fst p) ≠ []) ∧ 3 ≤ List.length (List.drop (x * 3) (zK (Prod.fst p)))) (vs 87 (D.agg (List.take 3 (List.drop (x * 3) (zK (Prod.fst p))))) (D.agg (vaC (List.getD (Prod.fst p) x default))) (by simp (disch := omega) only [zA9]) (vr 2 (0 < 2 ∧ ix ↑k ↑(List.length lb) (rwsD lb ≠ [])) (vp 91 k (rwsD lb) (vr 1 (0 < List.length (List.drop k (rwsD lb))) (vsh 92 hxB (vr 2 (ix ↑y (↑(List.length (Prod.fst q)) : Int) (zK (Prod.fst q) ≠ []) ∧ 3 ≤ List.length (List.drop (y * 3) (zK (Prod.fst q)))) (vs 95 (D.agg (List.take 3 (List.drop (y * 3) (zK (Prod.fst q))))) (D.agg (vaC (List.getD (Prod.fst q) y default))) (by simp (disch := omega) only [zA9]) (vrT 1 (vs 96 (bD !(Va.kind (List.getD (Prod.fst p) x default) == Va.kind (List.getD (Prod.fst q) y default) && (Va.int (List.getD (Prod.fst p) x default) == Va.int (List.getD (Prod.fst q) y default) && (ByteArray.toList (bs (Va.str (List.getD (Prod.fst p) x default))) == ByteArray.toList (bs (Va.str (List.getD (Prod.fst q) y default))) && true)))) (bD !(Va.kind (List.getD (Prod.fst p) x default) == Va.kind (List.getD (Prod.fst q) y default) && (Va.int (List.getD (Prod.fst p) x default) == Va.int (List.getD (Prod.fst q) y default) && ByteArray.toList (bs (Va.str (List.getD (Prod.fst p) x default))) == ByteArray.toList (bs (Va.str (List.getD (Prod.fst q) y default)))))) (by simp (disch := omega) only [Bool.and_true]) (veT ?_)))) ⟨⟨(by omega), ⟨(by omega), (by exact zDd _ (by omega))⟩⟩, (by exact zB2 _ _ (by omega))⟩)))))) ⟨⟨(by omega), ⟨(by omega), (by exact zDd _ (by omega))⟩⟩, (by exact zB2 _ _ (by omega))⟩)))
       refine zR (t := !(Va.kind (List.getD (Prod.fst p) x default) == Va.kind (List.getD (Prod.fst q) y default) && (Va.int (List.getD (Prod.fst p) x default) == Va.int (List.getD (Prod.fst q) y default) && ByteArray.toList (bs (Va.str (List.getD (Prod.fst p) x default))) == ByteArray.toList (bs (Va.str (List.getD (Prod.fst q) y default)))))) (by kernel_rfl) (fun hc => ?_) (fun hc => ?_)
       simp only [Bool.not_eq_true'] at hc
       refine zA rfl (veT (zB (zA rfl (veT (vT ((↑x : Int) ≥ (0 : Int)) (zA rfl (vr 5 (True ∧ 0 < 2 ∧ ix ↑i ↑(List.length la) (rwsD la ≠ [])) (vp 104 i (rwsD la) (vr 1 (0 < List.length (List.drop i (rwsD la))) (vsh 105 hxA (vr 3 (ix ↑x (↑(List.length (Prod.fst p)) : Int) (zK (Prod.fst p) ≠ []) ∧ 3 ≤ List.length (List.drop (x * 3) (zK (Prod.fst p)))) (vs 108 (D.agg (List.take 3 (List.drop (x * 3) (zK (Prod.fst p))))) (D.agg (vaC (List.getD (Prod.fst p) x default))) (by simp (disch := omega) only [zA9]) ?_) ⟨⟨(by omega), ⟨(by omega), (by exact zDd _ (by omega))⟩⟩, (by exact zB2 _ _ (by omega))⟩)))))))))))
       refine vwh 3 [] [] (((3 = 3 ∧ 3 ≤ 3 ∧ True) ∧ 0 < 3 ∧ 3 = 3 ∧ 3 ≤ 16777216 ∧ 1 ≤ 9223372036854775807) ∧ Bk.arr (vaB r) = true ∧ List.length (Bk.cells (vaB r)) = List.length r * 3 ∧ List.length r * 3 = List.length r * 3 ∧ Bk.ty (vaB r) = 69 ∧ Bk.sz (vaB r) = 3 ∧ 3 = 3 ∧ 0 < 3 ∧ 0 < 32 ∧ 69 = 69 ∧ (List.length r + 1) * 32 ≤ 140737488355328 ∧ 3 = 3 ∧ Kd.isMap (Bk.kd (vaB r)) = false ∧ (false = false ∨ Kd.isSh (Bk.kd (vaB r)) = true)) ⟨⟨⟨(by kernel_rfl), ⟨(by omega), trivial⟩⟩, (by omega)⟩, ?_⟩ ?_
       rotate_left
       refine vnil (zE (zC (zD (zA rfl (vr 3 (i6 (↑j + 1)) (vnil (zC ?_)))))))
       rotate_left
       simp only [Bool.not_eq_false'] at hc
       refine zG (zC (zD (zB (zA rfl (veT (vT ((↑x : Int) ≥ (0 : Int)) (zA rfl (vr 5 (True ∧ 0 < 2 ∧ ix ↑i ↑(List.length la) (rwsD la ≠ [])) (vp 104 i (rwsD la) (vr 1 (0 < List.length (List.drop i (rwsD la))) (vsh 105 hxA (vr 3 (ix ↑x (↑(List.length (Prod.fst p)) : Int) (zK (Prod.fst p) ≠ []) ∧ 3 ≤ List.length (List.drop (x * 3) (zK (Prod.fst p)))) (vs 108 (D.agg (List.take 3 (List.drop (x * 3) (zK (Prod.fst p))))) (D.agg (vaC (List.getD (Prod.fst p) x default))) (by simp (disch := omega) only [zA9]) ?_) ⟨⟨(by omega), ⟨(by omega), (by exact zDd _ (by omega))⟩⟩, (by exact zB2 _ _ (by omega))⟩))))))))))))
       refine vwh 3 [] [] (((3 = 3 ∧ 3 ≤ 3 ∧ True) ∧ 0 < 3 ∧ 3 = 3 ∧ 3 ≤ 16777216 ∧ 1 ≤ 9223372036854775807) ∧ Bk.arr (vaB r) = true ∧ List.length (Bk.cells (vaB r)) = List.length r * 3 ∧ List.length r * 3 = List.length r * 3 ∧ Bk.ty (vaB r) = 69 ∧ Bk.sz (vaB r) = 3 ∧ 3 = 3 ∧ 0 < 3 ∧ 0 < 32 ∧ 69 = 69 ∧ (List.length r + 1) * 32 ≤ 140737488355328 ∧ 3 = 3 ∧ Kd.isMap (Bk.kd (vaB r)) = false ∧ (false = false ∨ Kd.isSh (Bk.kd (vaB r)) = true)) ⟨⟨⟨(by kernel_rfl), ⟨(by omega), trivial⟩⟩, (by omega)⟩, ?_⟩ ?_
       rotate_left
       refine vnil (zE (zC (zD (zA rfl (vr 3 (i6 (↑j + 1)) (vnil (zC ?_)))))))
       rotate_left
      ·exact zGa r _ rfl (by omega)
      ·rw [veq, ← agv] at hc
       rw [hc, Bool.and_false] at hag
       refine ⟨j + 1, r ++ [p.1.getD x default], ⟨by omega, hmp.symm⟩, by omega, ?_⟩
       rw [hag, zCs, zJk]
       refine vk 6
      ·exact zGa r _ rfl (by omega)
      ·rw [veq, ← agv] at hc
       rw [hc, Bool.and_true] at hag
       refine ⟨j + 1, r ++ [p.1.getD x default], ⟨by omega, hmp.symm⟩, by omega, ?_⟩
       rw [hag, zCs, zJk]
       refine vk 6
     ·rw [if_neg hb] at jB
      have agv : ag v = true := by rw [eag]; simp [hb]
      rw [agv, Bool.and_true] at hag
      generalize A.idxOf v = x at *
      focus
       refine zB (zB (zA rfl (v0s (ve (True ∧ 0 < 3) (vT ((↑j : Int) < ↑(List.length c)) (zG (zC (zD (zB (zF (zB (vd [0, 2, 4, 8, 10, 12, 1, 3, 5, 6, 7, 9, 11, 13, 14, 15, 16, 17] (vr 9 (True ∧ True ∧ True ∧ True ∧ 0 < 3 ∧ 0 < 3 ∧ ix ↑j ↑(List.length c) (nsD c ≠ [])) ?_)))))))))))))
       refine vp 62 j (nsD c) (vr 1 (0 < List.length (List.drop j (nsD c))) (vsh 63 hz (vc jA (vr 3 (0 < 3 ∧ 0 < 3 ∧ ix ↑j ↑(List.length c) (nsD c ≠ [])) (vp 70 j (nsD c) (vr 1 (0 < List.length (List.drop j (nsD c))) (vsh 71 hz (vc jB (veT (zB (zB (vd [0, 1, 2, 3, 4, 5, 6, 7, 9, 12, 15, 17, 20, 8, 10, 11, 13, 14, 16, 18, 19, 21, 22, 23, 24] (vew [] [(2, true)] (decide ((↑x : Int) ≥ (0 : Int)) = true) ?_)))))))))))))
       refine vf (zG (zC (zD (zB (zA rfl (veT (vT ((↑x : Int) ≥ (0 : Int)) (zA rfl (vr 5 (True ∧ 0 < 2 ∧ ix ↑i ↑(List.length la) (rwsD la ≠ [])) (vp 104 i (rwsD la) (vr 1 (0 < List.length (List.drop i (rwsD la))) (vsh 105 hxA (vr 3 (ix ↑x (↑(List.length (Prod.fst p)) : Int) (zK (Prod.fst p) ≠ []) ∧ 3 ≤ List.length (List.drop (x * 3) (zK (Prod.fst p)))) ?_ ⟨⟨(by omega), ⟨(by omega), (by exact zDd _ (by omega))⟩⟩, (by exact zB2 _ _ (by omega))⟩)))))))))))))
       refine vs 108 (D.agg (List.take 3 (List.drop (x * 3) (zK (Prod.fst p))))) (D.agg (vaC (List.getD (Prod.fst p) x default))) (by simp (disch := omega) only [zA9]) ?_
       refine vwh 3 [] [] (((3 = 3 ∧ 3 ≤ 3 ∧ True) ∧ 0 < 3 ∧ 3 = 3 ∧ 3 ≤ 16777216 ∧ 1 ≤ 9223372036854775807) ∧ Bk.arr (vaB r) = true ∧ List.length (Bk.cells (vaB r)) = List.length r * 3 ∧ List.length r * 3 = List.length r * 3 ∧ Bk.ty (vaB r) = 69 ∧ Bk.sz (vaB r) = 3 ∧ 3 = 3 ∧ 0 < 3 ∧ 0 < 32 ∧ 69 = 69 ∧ (List.length r + 1) * 32 ≤ 140737488355328 ∧ 3 = 3 ∧ Kd.isMap (Bk.kd (vaB r)) = false ∧ (false = false ∨ Kd.isSh (Bk.kd (vaB r)) = true)) ⟨⟨⟨(by kernel_rfl), ⟨(by omega), trivial⟩⟩, (by omega)⟩, ?_⟩ ?_
       rotate_left
       refine vnil (zE (zC (zD (zA rfl (vr 3 (i6 (↑j + 1)) (vnil (zC ?_)))))))
       rotate_left
      ·exact zGa r _ rfl (by omega)
      ·refine ⟨j + 1, r ++ [p.1.getD x default], ⟨by omega, hmp.symm⟩, by omega, ?_⟩
       rw [hag, zCs, zJk]
       refine vk 6
    ·rw [if_neg ha] at jA
     have hb := hvo.resolve_left ha
     rw [if_pos hb] at jB
     have ilB := List.idxOf_lt_length_iff.2 hb
     have sB : σ v = q.1.getD (B.idxOf v) default := by rw [eσ, sg, if_neg ha]; rfl
     rw [sB] at hmp
     have agv : ag v = true := by rw [eag]; simp [ha]
     rw [agv, Bool.and_true] at hag
     generalize B.idxOf v = y at *
     focus
      refine zB (zB (zA rfl (v0s (ve (True ∧ 0 < 3) (vT ((↑j : Int) < ↑(List.length c)) (zG (zC (zD (zB (zF (zB (vd [0, 2, 4, 8, 10, 12, 1, 3, 5, 6, 7, 9, 11, 13, 14, 15, 16, 17] (vr 9 (True ∧ True ∧ True ∧ True ∧ 0 < 3 ∧ 0 < 3 ∧ ix ↑j ↑(List.length c) (nsD c ≠ [])) ?_)))))))))))))
      refine vp 62 j (nsD c) (vr 1 (0 < List.length (List.drop j (nsD c))) (vsh 63 hz (vc jA (vr 3 (0 < 3 ∧ 0 < 3 ∧ ix ↑j ↑(List.length c) (nsD c ≠ [])) (vp 70 j (nsD c) (vr 1 (0 < List.length (List.drop j (nsD c))) (vsh 71 hz (vc jB (veT (zB (zB (vd [0, 1, 2, 3, 4, 5, 6, 7, 9, 12, 15, 17, 20, 8, 10, 11, 13, 14, 16, 18, 19, 21, 22, 23, 24] (veT ?_)))))))))))))
      refine vf (zG (zC (zD (zB (zA rfl (veT (vf (zA rfl (vr 5 (True ∧ 0 < 2 ∧ ix ↑k ↑(List.length lb) (rwsD lb ≠ [])) (vp 115 k (rwsD lb) (vr 1 (0 < List.length (List.drop k (rwsD lb))) (vsh 116 hxB (vr 3 (ix ↑y (↑(List.length (Prod.fst q)) : Int) (zK (Prod.fst q) ≠ []) ∧ 3 ≤ List.length (List.drop (y * 3) (zK (Prod.fst q)))) ?_ ⟨⟨(by omega), ⟨(by omega), (by exact zDd _ (by omega))⟩⟩, (by exact zB2 _ _ (by omega))⟩)))))))))))))
      refine vs 119 (D.agg (List.take 3 (List.drop (y * 3) (zK (Prod.fst q))))) (D.agg (vaC (List.getD (Prod.fst q) y default))) (by simp (disch := omega) only [zA9]) ?_
      refine vwh 3 [] [] (((3 = 3 ∧ 3 ≤ 3 ∧ True) ∧ 0 < 3 ∧ 3 = 3 ∧ 3 ≤ 16777216 ∧ 1 ≤ 9223372036854775807) ∧ Bk.arr (vaB r) = true ∧ List.length (Bk.cells (vaB r)) = List.length r * 3 ∧ List.length r * 3 = List.length r * 3 ∧ Bk.ty (vaB r) = 69 ∧ Bk.sz (vaB r) = 3 ∧ 3 = 3 ∧ 0 < 3 ∧ 0 < 32 ∧ 69 = 69 ∧ (List.length r + 1) * 32 ≤ 140737488355328 ∧ 3 = 3 ∧ Kd.isMap (Bk.kd (vaB r)) = false ∧ (false = false ∨ Kd.isSh (Bk.kd (vaB r)) = true)) ⟨⟨⟨(by kernel_rfl), ⟨(by omega), trivial⟩⟩, (by omega)⟩, ?_⟩ ?_
      rotate_left
      refine vnil (zE (zC (zD (zA rfl (vr 3 (i6 (↑j + 1)) (vnil (zC ?_)))))))
      rotate_left
     ·exact zGa r _ rfl (by omega)
     ·refine ⟨j + 1, r ++ [q.1.getD y default], ⟨by omega, hmp.symm⟩, by omega, ?_⟩
      rw [hag, zCs, zJk]
      refine vk 6
   ·rw [List.take_of_length_le (by omega)] at h6
    have ht : c.take j = c := List.take_of_length_le (by omega)
    have ht3 := zGe r r.length rfl
    rw [ht]
    cases hok : c.all ag with
    | true =>
     rw [hok, if_pos rfl, ← h6] at hk1 hsm1
     rw [List.map_append, List.sum_append, ← hOs] at hsm1
     simp only [List.map_cons, List.map_nil, List.sum_cons, List.sum_nil, Nat.add_zero] at hsm1
     have hrl : r.length ≤ 32 := by rw [h6, List.length_map, ec]; exact nU
     have hput := rput_c c O r (p.2 * q.2) hOl (fun s hs' => by rw [hOr s hs', ec]; omega) (by omega) (by omega)
     rw [Int.natCast_mul] at hput
     have hpq : (p.2 : Int) * (q.2 : Int) = ((p.2 * q.2 : Nat) : Int) := by rw [Int.natCast_mul]
     focus
      refine zB (zB (zA rfl (v0s (ve (True ∧ 0 < 3) (vF ((↑j : Int) < ↑(List.length c)) (zQ (zH (zH (zP rfl (zC (zD (zB (zA rfl ?_)))))))))))))
      refine veT (vt (vd [1, 2, 4, 7, 9, 0, 3, 5, 6, 8, 10, 11, 12, 13, 14] (vr 8 (True ∧ True ∧ 3 ≤ 3 ∧ 0 < 1 ∧ ix ↑i ↑(List.length la) (isD la ≠ [])) (vp 128 i (isD la) (vr 1 (0 < List.length (List.drop i (isD la))) (vsh 129 hvA (vr 2 (0 < 1 ∧ ix ↑k ↑(List.length lb) (isD lb ≠ [])) (vp 133 k (isD lb) (vr 1 (0 < List.length (List.drop k (isD lb))) (vsh 134 hvB (vr 1 (i6 ((↑(Prod.snd p) : Int) * (↑(Prod.snd q) : Int))) (vcl [D.agg [D.row (nsD c) (List.length c), D.row (rwsD O) (List.length O), D.row (isD O) (List.length O)], D.row (List.take (List.length r * 3) (List.drop 0 (Bk.cells (vaB r)))) (List.length r), iD ((↑(Prod.snd p) : Int) * (↑(Prod.snd q) : Int))] [D.agg [D.row (nsD c) (List.length c), D.row (rwsD O) (List.length O), D.row (isD O) (List.length O)], D.row (zK r) (List.length r), iD ((↑(Prod.snd p) : Int) * (↑(Prod.snd q) : Int))] (LeL.of_eq (by simp (disch := omega) only [List.drop_zero, ht3])) (by exact hput) (vr 1 (Bk.fz (rB (D.row (nsD c) (List.length c)) (D.row (rwsD O) (List.length O)) (D.row (isD O) (List.length O))) = false ∧ true = true ∧ 3 = 3 ∧ 3 ≤ 3) ?_)))))))))))))
      refine vnil (zE (zC (zD (zA rfl (vr 3 (i6 (↑k + 1)) (vnil (zC ?_)))))))
      rotate_left
     refine ⟨k + 1, putP rcmp (· + ·) r (p.2 * q.2) O, ⟨by omega, ?_⟩, by omega, ?_⟩
     ·rw [hk1, zTk, ← h3o]
     ·refine vk 5
    | false =>
     rw [hok, if_neg (by decide), List.append_nil] at hk1
     focus
      refine zB (zB (zA rfl (v0s (ve (True ∧ 0 < 3) (vF ((↑j : Int) < ↑(List.length c)) (zQ (zH (zH (zP rfl (zC (zD (zB (zA rfl ?_)))))))))))))
      refine veT (vf (zG (zE (zC (zD (zA rfl (vr 3 (i6 (↑k + 1)) (vnil (zC ?_)))))))))
      rotate_left
     refine ⟨k + 1, O, ⟨by omega, by rw [hk1]; exact h3o⟩, by omega, ?_⟩
     refine vk 5
  ·have e : k = lb.length := by omega
   subst e
   rw [hnx] at h3o
   focus
    refine zB (zB (zA rfl (v0s (ve (True ∧ 0 < 2) (vF ((↑(List.length lb) : Int) < ↑(List.length lb)) (zQ (zH (zH (zP rfl (zE (zC (zD (zA rfl ?_)))))))))))))
    refine vr 3 (i6 (↑i + 1)) (vnil (zC ?_))
    rotate_left
   refine ⟨i + 1, O, ⟨by omega, h3o⟩, by omega, ?_⟩
   refine vk 5
 ·have e : i = la.length := by omega
  subst e
  rw [zTx] at h1o
  focus
   refine zB (zB (zA rfl (v0s (ve (True ∧ 0 < 2) (vF ((↑(List.length la) : Int) < ↑(List.length la)) (zQ (zH (zH (zP rfl (zC (zD (zB (zA rfl ?_)))))))))))))
   refine ve (3 ≤ 3 ∧ false = false ∧ true = true ∧ 3 = 3 ∧ 3 ≤ 3) (zM ?_)
   refine vre (3 ≤ 3) (D.agg [(q4_ c), (q7_ O), (q9_ O)]) (.inr rfl) ?_
   rotate_left
  rw [← ec, ← h1o]
end
section
open Go.RowKit
attribute [local irreducible] seqW awp zAf zAo zAg Weak updS zAw retL Pure Acts rP setP setQ cP nP fr
set_option maxRecDepth 4096
theorem rixi_c (A : List Nat) (v : Int) (hA : A.length ≤ 1000) : Pure Tryd.prog 44 [.row (nsD A) A.length, iD v] [] (iD (ixI (intL A) v)) := by
 have h := zMo (intL A) A.length v (by simp) (by omega)
 have e : (intL A).map (fun z => iD z) = nsD A := by simp [intL]
 rw [← e]; exact h
theorem cut_map {α : Type} (f : α → D) (l : List α) (x n : Nat) (h : x < l.length) (hn : n = l.length) : (l.map f).take x ++ ((l.map f).drop (x + 1)).take (n - (x + 1)) = (l.eraseIdx x).map f := by
 rw [hn, List.eraseIdx_eq_take_drop_succ, List.map_append, List.map_take, List.map_drop, List.take_of_length_le (l := List.drop (x + 1) (l.map f)) (by simp)]
theorem zXu {α : Type} (l : List α) (x n : Nat) (h : x < l.length) (hn : n = l.length) : x + (n - (x + 1)) = (l.eraseIdx x).length := by
 rw [List.length_eraseIdx, if_pos h]; omega
theorem cut_row (r : Rw) (x n : Nat) (h : x < r.length) (hn : n = r.length) : (zK r).take (x * 3) ++ ((zK r).drop ((x + 1) * 3)).take ((n - (x + 1)) * 3) = zK (r.eraseIdx x) := by
 rw [zK7, zK8, zK7, ← zMa, hn, List.eraseIdx_eq_take_drop_succ, List.take_of_length_le (l := List.drop (x + 1) r) (by simp)]
set_option maxHeartbeats 4000000 in
theorem rsum_c (A : List Nat) (l : List (Rw × Nat)) (v : Nat) (hA : Asc A) (hv : v ∈ A) (al : ∀ p ∈ l, p.1.length = A.length) (sz : l.length ≤ 1000000) (hs : (l.map (·.2)).sum ≤ 4000000000000000000) : Pure Tryd.prog 22 [rfD A l, iD (v : Nat)] [] (rfD (less A v) (acc rcmp (· + ·) [] (zHn A v l))) := by
 have nA := zBn hA
 have ix := rixi_c A v (by omega)
 rw [zW9, if_pos hv] at ix
 have hlt := List.idxOf_lt_length_iff.2 hv
 have hle := zC2 hA.nd v
 unfold zHn
 generalize A.idxOf v = x at *
 rw [← hle]
 refine zL zBo mixed Tryd.func22 rfl ?_
 focus
  refine zB (zA rfl (v0s (veT (zB (zA rfl (vr 3 (True ∧ 0 < 3) (vc ix (veT (zB (zB (zA rfl (veT (vF ((↑x : Int) < 0) ?_)))))))))))))
  refine zG (zC (zD (zB ?_)))
  refine zD1 [1, 3, 6, 8, 9, 0, 2, 4, 7, 10, 13] [(5, [(7, 100000), (10, 100000), (13, 3)], []), (11, [(13, 3)], [12, 14])] (by kernel_rfl) rfl ?_
  refine vr 8 (True ∧ True ∧ i6 (↑x + 1) ∧ (True ∧ 0 < 1 ∧ 1 = 1 ∧ 0 ≤ 16777216 ∧ 0 ≤ 9223372036854775807) ∧ 0 < 3 ∧ True ∧ (0 : Int) ≤ (↑x : Int) ∧ True ∧ 0 < 1 ∧ 0 ≤ Int.toNat (↑x : Int) ∧ Int.toNat (↑x : Int) ≤ List.length A ∧ Int.toNat (↑x : Int) = Int.toNat (↑x : Int)) (vs 19 (D.row (List.take ((Int.toNat (↑x : Int) - 0) * 1) (List.drop 0 (nsD A))) (Int.toNat (↑x : Int) - 0)) (D.row (List.take x (nsD A)) x) (by simp (disch := omega) only [Int.toNat_natCast, Nat.sub_zero, Nat.mul_one, List.drop_zero]) (vr 2 (0 < 3 ∧ (0 : Int) ≤ (↑(x + 1) : Int) ∧ True ∧ True ∧ 0 < 1 ∧ Int.toNat (↑(x + 1) : Int) ≤ List.length A ∧ List.length A ≤ List.length A ∧ List.length A = List.length A) (vs 25 (D.row (List.take ((List.length A - Int.toNat (↑(x + 1) : Int)) * 1) (List.drop (Int.toNat (↑(x + 1) : Int) * 1) (nsD A))) (List.length A - Int.toNat (↑(x + 1) : Int))) (D.row (List.take (List.length A - (x + 1)) (List.drop (x + 1) (nsD A))) (List.length A - (x + 1))) (by simp (disch := omega) only [Int.toNat_natCast, Nat.mul_one]) (vrT 1 (vnil (zD7 rfl rfl (by kernel_rfl) (vr 1 (true = true ∧ 0 = 0 ∧ 0 = 0 ∧ 3 = 3 ∧ 1 = 1 ∧ List.length (List.take x (nsD A)) = x * 1 ∧ 0 < 1 ∧ 0 < 8 ∧ 3 = 3 ∧ (0 + x) * 8 ≤ 140737488355328 ∧ 1 = 1 ∧ false = false ∧ (false = false ∨ false = true)) (vnil ?_))))))))
  refine zD6 (C := 0 < 3 ∧ [Uk, Uk, D.own 0 0, Uk, D.own 1 0, iD ↑x, D.own 3 0, Uk, Uk, Uk, Uk, Uk, Uk, bD (decide ((↑x : Int) < 0)), Uk, Uk, D.own 0 0, D.row (nsD A) (List.length A), iD ↑x, D.row (List.take x (nsD A)) x, D.osl 2 0 (0 + x) ((0 + x) * 1) true, D.own 0 0, D.row (nsD A) (List.length A), iD ↑x, iD ↑(x + 1), D.row (List.take (List.length A - (x + 1)) (List.drop (x + 1) (nsD A))) (List.length A - (x + 1)), Uk, Uk, Uk, Uk, Uk, Uk, Uk, Uk, Uk, Uk, Uk, Uk, Uk, Uk, Uk, Uk, Uk, Uk, Uk, Uk, Uk, Uk, Uk, Uk, Uk, Uk, Uk, Uk, Uk, Uk, Uk, Uk, Uk, Uk, Uk][22]? = some (List.headD [D.row (nsD A) (List.length A), D.row (rwsD l) (List.length l), D.row (isD l) (List.length l)] Uk) ∧ ((0 : Int) ≤ (↑(x + 1) : Int) ∧ True ∧ True ∧ 0 < 1 ∧ Int.toNat (↑(x + 1) : Int) ≤ List.length A ∧ List.length A ≤ List.length A ∧ List.length A = List.length A) ∧ [Uk, Uk, D.own 0 0, Uk, D.own 1 0, iD ↑x, D.own 3 0, Uk, Uk, Uk, Uk, Uk, Uk, bD (decide ((↑x : Int) < 0)), Uk, Uk, D.own 0 0, D.row (nsD A) (List.length A), iD ↑x, D.row (List.take x (nsD A)) x, D.osl 2 0 (0 + x) ((0 + x) * 1) true, D.own 0 0, D.row (nsD A) (List.length A), iD ↑x, iD ↑(x + 1), D.row (List.take (List.length A - (x + 1)) (List.drop (x + 1) (nsD A))) (List.length A - (x + 1)), Uk, Uk, Uk, Uk, Uk, Uk, Uk, Uk, Uk, Uk, Uk, Uk, Uk, Uk, Uk, Uk, Uk, Uk, Uk, Uk, Uk, Uk, Uk, Uk, Uk, Uk, Uk, Uk, Uk, Uk, Uk, Uk, Uk, Uk, Uk][25]? = some (D.row (List.take ((List.length A - Int.toNat (↑(x + 1) : Int)) * 1) (List.drop (Int.toNat (↑(x + 1) : Int) * 1) (nsD A))) (List.length A - Int.toNat (↑(x + 1) : Int))) ∧ True ∧ [Uk, Uk, D.own 0 0, Uk, D.own 1 0, iD ↑x, D.own 3 0, Uk, Uk, Uk, Uk, Uk, Uk, bD (decide ((↑x : Int) < 0)), Uk, Uk, D.own 0 0, D.row (nsD A) (List.length A), iD ↑x, D.row (List.take x (nsD A)) x, D.osl 2 0 (0 + x) ((0 + x) * 1) true, D.own 0 0, D.row (nsD A) (List.length A), iD ↑x, iD ↑(x + 1), D.row (List.take (List.length A - (x + 1)) (List.drop (x + 1) (nsD A))) (List.length A - (x + 1)), Uk, Uk, Uk, Uk, Uk, Uk, Uk, Uk, Uk, Uk, Uk, Uk, Uk, Uk, Uk, Uk, Uk, Uk, Uk, Uk, Uk, Uk, Uk, Uk, Uk, Uk, Uk, Uk, Uk, Uk, Uk, Uk, Uk, Uk, Uk][6]? = some (D.own 3 0) ∧ eqDL [nl, nl, nl] [nl, nl, nl] ∧ 46 = 46 ∧ 0 = 0 ∧ false = false ∧ Bk.kd (Bk.mk [nl, nl, nl] 46 0 false false Kd.plain) = Kd.plain) (by kernel_rfl) ⟨(by omega), (by kernel_rfl), ⟨(by omega), ⟨trivial, ⟨trivial, (by omega)⟩⟩⟩, (by simp), trivial, (by kernel_rfl), rfl, (by kernel_rfl), (by kernel_rfl), (by kernel_rfl), (by kernel_rfl)⟩ (by kernel_rfl) ?_
  refine vnil (zD7 rfl rfl (by kernel_rfl) (vr 1 (Bk.arr (Bk.mk (List.take x (nsD A)) 3 1 true false Kd.plain) = true ∧ List.length (List.take x (nsD A)) = (0 + x) * 1 ∧ (0 + x) * 1 = (0 + x) * 1 ∧ Bk.ty (Bk.mk (List.take x (nsD A)) 3 1 true false Kd.plain) = 3 ∧ Bk.sz (Bk.mk (List.take x (nsD A)) 3 1 true false Kd.plain) = 1 ∧ List.length (List.take (List.length A - (x + 1)) (List.drop (x + 1) (nsD A))) = (List.length A - (x + 1)) * 1 ∧ 0 < 1 ∧ 0 < 8 ∧ 3 = 3 ∧ (0 + x + (List.length A - (x + 1))) * 8 ≤ 140737488355328 ∧ 1 = 1 ∧ Kd.isMap (Bk.kd (Bk.mk (List.take x (nsD A)) 3 1 true false Kd.plain)) = false ∧ (false = false ∨ Kd.isSh (Bk.kd (Bk.mk (List.take x (nsD A)) 3 1 true false Kd.plain)) = true)) (vnil ?_)))
  refine zD6 (C := True ∧ [Uk, Uk, D.own 0 0, Uk, D.own 1 0, iD ↑x, D.own 3 0, Uk, Uk, Uk, Uk, Uk, Uk, bD (decide ((↑x : Int) < 0)), Uk, Uk, D.own 0 0, (q4_ A), iD ↑x, D.row (List.take x (nsD A)) x, Uk, D.own 0 0, (q4_ A), iD ↑x, iD ↑(x + 1), D.row (List.take (List.length A - (x + 1)) (List.drop (x + 1) (nsD A))) (List.length A - (x + 1)), D.osl 2 0 (0 + x + (List.length A - (x + 1))) ((0 + x + (List.length A - (x + 1))) * 1) true, Uk, Uk, Uk, Uk, Uk, Uk, Uk, Uk, Uk, Uk, Uk, Uk, Uk, Uk, Uk, Uk, Uk, Uk, Uk, Uk, Uk, Uk, Uk, Uk, Uk, Uk, Uk, Uk, Uk, Uk, Uk, Uk, Uk, Uk][6]? = some (D.own 3 0) ∧ eqDL [nl, nl, nl] [nl, nl, nl] ∧ 46 = 46 ∧ 0 = 0 ∧ false = false ∧ Bk.kd (q11_) = Kd.plain) (by kernel_rfl) ⟨trivial, (by kernel_rfl), rfl, (by kernel_rfl), (by kernel_rfl), (by kernel_rfl), (by kernel_rfl)⟩ (by kernel_rfl) ?_
  refine vr 1 ((1 = 1 ∧ 1 ≤ 3 ∧ True) ∧ true = true) (vs 27 (D.agg [D.osl 2 0 (0 + x + (List.length A - (x + 1))) ((0 + x + (List.length A - (x + 1))) * 1) true, nl, nl]) (D.agg [D.osl 2 0 (x + (List.length A - (x + 1))) (x + (List.length A - (x + 1))) true, nl, nl]) (by simp (disch := omega) only [Nat.zero_add, Nat.mul_one]) (vr 1 (false = false ∧ true = true ∧ 3 = 3 ∧ 3 ≤ 3) (vnil (zGg (zC (vnn (fr 61 [(2, D.own 0 0), (4, D.own 1 0), (5, iD ↑x), (6, D.own 3 0), (13, bD (decide ((↑x : Int) < 0))), (16, D.own 0 0), (17, D.row (nsD A) (List.length A)), (18, iD ↑x), (19, D.row (List.take x (nsD A)) x), (21, D.own 0 0), (22, D.row (nsD A) (List.length A)), (23, iD ↑x), (24, iD ↑(x + 1)), (25, D.row (List.take (List.length A - (x + 1)) (List.drop (x + 1) (nsD A))) (List.length A - (x + 1))), (26, D.osl 2 0 (0 + x + (List.length A - (x + 1))) ((0 + x + (List.length A - (x + 1))) * 1) true), (27, D.agg [D.osl 2 0 (x + (List.length A - (x + 1))) (x + (List.length A - (x + 1))) true, nl, nl])]) [Bk.mk [D.row (nsD A) (List.length A), D.row (rwsD l) (List.length l), D.row (isD l) (List.length l)] 46 0 false false Kd.plain, Bk.mk [nl, nl, nl] 46 0 false false Kd.plain, Bk.mk (List.take x (nsD A) ++ List.take (List.length A - (x + 1)) (List.drop (x + 1) (nsD A))) 3 1 true false Kd.plain, Bk.mk [D.osl 2 0 (x + (List.length A - (x + 1))) (x + (List.length A - (x + 1))) true, nl, nl] 46 0 false false Kd.plain] ?_))))))
  rotate_left
 have k1 := cut_map (fun c : Nat => iD (c : Nat)) A x _ hlt rfl
 have k2 := zXu A x _ hlt rfl
 have k3 := zH3 (A.eraseIdx x) _ rfl
 refine zBe ((Weak.fzCell (j := 3) (i := 0) (d := .osl 2 0 (x + (A.length - (x + 1))) (x + (A.length - (x + 1))) true) (x := .row (nsD (A.eraseIdx x)) (A.eraseIdx x).length) (ks := [2]) rfl rfl rfl rfl (by exact (show some (D.row (((nsD A).take x ++ ((nsD A).drop (x + 1)).take (A.length - (x + 1))).drop 0 |>.take (x + (A.length - (x + 1)))) (x + (A.length - (x + 1))), [2]) = _ by rw [List.drop_zero, k2, k1, k3])) (by decide)).trans ((Weak.leC (j := 3) (i := 1) (d' := .row [] 0) rfl rfl rfl LeD.nil_row).trans (Weak.leC (j := 3) (i := 2) (d' := .row [] 0) rfl rfl rfl LeD.nil_row))) ?_
 focus
  refine zB (zB (zA rfl (v0s (veT (zF ?_)))))
  rotate_left
 refine zAu (fun (i : Nat) (O : List (Rw × Nat)) => fr 61 [(2, D.own 0 0), (4, D.own 1 0), (5, iD ↑x), (6, D.own 3 0), (7, iD ↑i)]) (fun (i : Nat) (O : List (Rw × Nat)) => [rB (.row (nsD A) A.length) (.row (rwsD l) l.length) (.row (isD l) l.length), rB nl nl nl, ⟨(nsD A).take x ++ ((nsD A).drop (x + 1)).take (A.length - (x + 1)), 3, 1, true, true, .plain⟩, rB (.row (nsD (A.eraseIdx x)) (A.eraseIdx x).length) (.row (rwsD O) O.length) (.row (isD O) O.length)]) (fun i O => l.length - i) (fun (i : Nat) (O : List (Rw × Nat)) => i ≤ l.length ∧ O = acc rcmp (· + ·) [] ((l.take i).map fun p => (p.1.eraseIdx x, p.2))) 0 [] ?_ ?_ ?_
 ·exact ⟨by omega, rfl⟩
 ·refine vk 4
 rintro i O ⟨h1, h1o⟩
 rcases Nat.lt_or_ge i l.length with h2 | h2
 ·have hpm : l.getD i default ∈ l := zAt l default i h2
  have hx := zFj l h2
  have hv := zGw l h2
  have hl1 := al _ hpm
  have hne : rwsD l ≠ [] := zY (by simp; omega)
  have hne2 : isD l ≠ [] := zY (by simp; omega)
  have hOl : O.length ≤ 1000000 := by
   have h5 := zLe (c := rcmp) (· + ·) ((l.take i).map fun p => (p.1.eraseIdx x, p.2)) []
   rw [← h1o, List.length_nil, List.length_map, List.length_take] at h5
   omega
  have hOr : ∀ s ∈ O, s.1.length ≤ 32 := by
   rw [h1o]
   intro s hs'
   have := zYj (n := A.length - 1) (L := (l.take i).map fun p => (p.1.eraseIdx x, p.2)) (fun p hp => by
    obtain ⟨p', hp', rfl⟩ := List.mem_map.1 hp
    show (p'.1.eraseIdx x).length = _
    rw [List.length_eraseIdx, al _ (List.mem_of_mem_take hp'), if_pos hlt]) s hs'
   omega
  have hOs : (O.map (·.2)).sum + (l.getD i default).2 ≤ 4000000000000000000 := by
   rw [h1o, zLd]
   have h5 := zF0 l (i + 1)
   rw [List.take_succ_eq_append_getElem h2, List.map_append, List.sum_append] at h5
   rw [List.getD_eq_getElem?_getD, List.getElem?_eq_getElem h2]
   simp only [List.map_map, Function.comp_def, List.map_nil, List.sum_nil, List.map_cons, List.sum_cons, Option.getD_some] at h5 ⊢
   omega
  have hac : acc rcmp (· + ·) [] ((l.take (i + 1)).map fun p => (p.1.eraseIdx x, p.2)) = putP rcmp (· + ·) ((l.getD i default).1.eraseIdx x) (l.getD i default).2 O := by
   rw [List.take_succ_eq_append_getElem h2, List.map_append, List.map_cons, List.map_nil, zTk, ← h1o, List.getD_eq_getElem?_getD, List.getElem?_eq_getElem h2]; rfl
  generalize l.getD i default = p at *
  have m1 := cut_row p.1 x p.1.length (by omega) rfl
  have m2 := zXu p.1 x p.1.length (by omega) rfl
  have m3 := zGe (p.1.eraseIdx x) _ rfl
  have q1 : ((zK p.1).take (x * 3)).length = x * 3 := by rw [List.length_take, zB8]; omega
  have q2 : (((zK p.1).drop ((x + 1) * 3)).take ((p.1.length - (x + 1)) * 3)).length = (p.1.length - (x + 1)) * 3 := by rw [List.length_take, List.length_drop, zB8]; omega
  have hput := rput_c (A.eraseIdx x) O (p.1.eraseIdx x) p.2 hOl (fun s hs' => by have := hOr s hs'; omega) (by rw [← m2]; omega) (by omega)
  focus
   refine zB (zB (zA rfl (v0s (ve (True ∧ 0 < 2) (vT ((↑i : Int) < ↑(List.length l)) (zG (zC (zD (zB (zF ?_))))))))))
   refine zD1 [2, 4, 7, 10, 12, 15, 16, 19, 21, 0, 1, 3, 5, 6, 8, 11, 13, 14, 17, 20, 22, 23] [(9, [(0, 100000), (11, 100000), (13, 100000), (14, 100000), (17, 100000), (20, 100000), (22, 100000), (23, 100000)], []), (18, [(0, 100000), (20, 100000), (22, 100000), (23, 100000)], [24, 25])] (by kernel_rfl) rfl ?_
   refine vr 13 (True ∧ True ∧ i6 (↑x + 1) ∧ True ∧ 3 ≤ 3 ∧ (True ∧ 0 < 3 ∧ 3 = 3 ∧ 0 ≤ 16777216 ∧ 0 ≤ 9223372036854775807) ∧ 0 < 2 ∧ YtmfamhoopjeaiaaDoor.ix ↑i ↑(List.length l) (rwsD l ≠ [])) (vp 40 i (rwsD l) (vr 1 (0 < List.length (List.drop i (rwsD l))) (vsh 41 hx (vr 3 ((True ∧ (0 : Int) ≤ (↑x : Int) ∧ True ∧ 0 < 3 ∧ 0 ≤ Int.toNat (↑x : Int) ∧ Int.toNat (↑x : Int) ≤ List.length (Prod.fst p) ∧ Int.toNat (↑x : Int) = Int.toNat (↑x : Int)) ∧ 0 < 2 ∧ YtmfamhoopjeaiaaDoor.ix ↑i ↑(List.length l) (rwsD l ≠ [])) (vp 48 i (rwsD l) (vr 1 (0 < List.length (List.drop i (rwsD l))) (vsh 49 hx (vr 3 (((0 : Int) ≤ (↑(x + 1) : Int) ∧ True ∧ True ∧ 0 < 3 ∧ Int.toNat (↑(x + 1) : Int) ≤ List.length (Prod.fst p) ∧ List.length (Prod.fst p) ≤ List.length (Prod.fst p) ∧ List.length (Prod.fst p) = List.length (Prod.fst p)) ∧ 0 < 1 ∧ YtmfamhoopjeaiaaDoor.ix ↑i ↑(List.length l) (isD l ≠ [])) (vp 57 i (isD l) (vr 1 (0 < List.length (List.drop i (isD l))) (vsh 58 hv (vnil (zD7 rfl rfl (by kernel_rfl) ?_)))))))))))))
   refine vr 1 (true = true ∧ 0 = 0 ∧ 0 = 0 ∧ 69 = 69 ∧ 3 = 3 ∧ List.length (List.take (x * 3) (zK (Prod.fst p))) = x * 3 ∧ 0 < 3 ∧ 0 < 32 ∧ 69 = 69 ∧ (0 + x) * 32 ≤ 140737488355328 ∧ 3 = 3 ∧ false = false ∧ (false = false ∨ false = true)) (vnil ?_)
   refine zD6 (C := 3 ≤ 3 ∧ [Uk, Uk, D.own 0 0, Uk, D.own 1 0, iD ↑x, D.own 3 0, iD ↑i, Uk, Uk, Uk, Uk, Uk, Uk, Uk, Uk, Uk, Uk, Uk, Uk, Uk, Uk, Uk, Uk, Uk, Uk, Uk, Uk, Uk, Uk, Uk, Uk, bD (decide ((↑i : Int) < ↑(List.length l))), Uk, Uk, D.agg [D.row (nsD (List.eraseIdx A x)) (List.length (List.eraseIdx A x)), D.row (rwsD O) (List.length O), D.row (isD O) (List.length O)], Uk, D.own 0 1, D.row (rwsD l) (List.length l), iD ↑i, D.ptr (List.drop i (rwsD l)), rowV (Prod.fst p), iD ↑x, D.row (List.take (x * 3) (zK (Prod.fst p))) x, D.osl 4 0 (0 + x) ((0 + x) * 3) true, D.own 0 1, D.row (rwsD l) (List.length l), iD ↑i, D.ptr (List.drop i (rwsD l)), rowV (Prod.fst p), iD ↑x, iD ↑(x + 1), D.row (List.take ((List.length (Prod.fst p) - (x + 1)) * 3) (List.drop ((x + 1) * 3) (zK (Prod.fst p)))) (List.length (Prod.fst p) - (x + 1)), Uk, D.own 0 2, D.row (isD l) (List.length l), iD ↑i, D.ptr (List.drop i (isD l)), iD ↑(Prod.snd p), Uk, Uk][35]? = some (D.agg (List.take 3 [D.row (nsD (List.eraseIdx A x)) (List.length (List.eraseIdx A x)), D.row (rwsD O) (List.length O), D.row (isD O) (List.length O)])) ∧ 0 < 2 ∧ [Uk, Uk, D.own 0 0, Uk, D.own 1 0, iD ↑x, D.own 3 0, iD ↑i, Uk, Uk, Uk, Uk, Uk, Uk, Uk, Uk, Uk, Uk, Uk, Uk, Uk, Uk, Uk, Uk, Uk, Uk, Uk, Uk, Uk, Uk, Uk, Uk, bD (decide ((↑i : Int) < ↑(List.length l))), Uk, Uk, D.agg [D.row (nsD (List.eraseIdx A x)) (List.length (List.eraseIdx A x)), D.row (rwsD O) (List.length O), D.row (isD O) (List.length O)], Uk, D.own 0 1, D.row (rwsD l) (List.length l), iD ↑i, D.ptr (List.drop i (rwsD l)), rowV (Prod.fst p), iD ↑x, D.row (List.take (x * 3) (zK (Prod.fst p))) x, D.osl 4 0 (0 + x) ((0 + x) * 3) true, D.own 0 1, D.row (rwsD l) (List.length l), iD ↑i, D.ptr (List.drop i (rwsD l)), rowV (Prod.fst p), iD ↑x, iD ↑(x + 1), D.row (List.take ((List.length (Prod.fst p) - (x + 1)) * 3) (List.drop ((x + 1) * 3) (zK (Prod.fst p)))) (List.length (Prod.fst p) - (x + 1)), Uk, D.own 0 2, D.row (isD l) (List.length l), iD ↑i, D.ptr (List.drop i (isD l)), iD ↑(Prod.snd p), Uk, Uk][46]? = some (List.headD [D.row (rwsD l) (List.length l), D.row (isD l) (List.length l)] Uk) ∧ YtmfamhoopjeaiaaDoor.ix ↑i ↑(List.length l) (rwsD l ≠ []) ∧ [Uk, Uk, D.own 0 0, Uk, D.own 1 0, iD ↑x, D.own 3 0, iD ↑i, Uk, Uk, Uk, Uk, Uk, Uk, Uk, Uk, Uk, Uk, Uk, Uk, Uk, Uk, Uk, Uk, Uk, Uk, Uk, Uk, Uk, Uk, Uk, Uk, bD (decide ((↑i : Int) < ↑(List.length l))), Uk, Uk, D.agg [D.row (nsD (List.eraseIdx A x)) (List.length (List.eraseIdx A x)), D.row (rwsD O) (List.length O), D.row (isD O) (List.length O)], Uk, D.own 0 1, D.row (rwsD l) (List.length l), iD ↑i, D.ptr (List.drop i (rwsD l)), rowV (Prod.fst p), iD ↑x, D.row (List.take (x * 3) (zK (Prod.fst p))) x, D.osl 4 0 (0 + x) ((0 + x) * 3) true, D.own 0 1, D.row (rwsD l) (List.length l), iD ↑i, D.ptr (List.drop i (rwsD l)), rowV (Prod.fst p), iD ↑x, iD ↑(x + 1), D.row (List.take ((List.length (Prod.fst p) - (x + 1)) * 3) (List.drop ((x + 1) * 3) (zK (Prod.fst p)))) (List.length (Prod.fst p) - (x + 1)), Uk, D.own 0 2, D.row (isD l) (List.length l), iD ↑i, D.ptr (List.drop i (isD l)), iD ↑(Prod.snd p), Uk, Uk][48]? = some (D.ptr (List.drop (Int.toNat (↑i : Int) * 1) (rwsD l))) ∧ 0 < List.length (List.drop i (rwsD l)) ∧ [Uk, Uk, D.own 0 0, Uk, D.own 1 0, iD ↑x, D.own 3 0, iD ↑i, Uk, Uk, Uk, Uk, Uk, Uk, Uk, Uk, Uk, Uk, Uk, Uk, Uk, Uk, Uk, Uk, Uk, Uk, Uk, Uk, Uk, Uk, Uk, Uk, bD (decide ((↑i : Int) < ↑(List.length l))), Uk, Uk, D.agg [D.row (nsD (List.eraseIdx A x)) (List.length (List.eraseIdx A x)), D.row (rwsD O) (List.length O), D.row (isD O) (List.length O)], Uk, D.own 0 1, D.row (rwsD l) (List.length l), iD ↑i, D.ptr (List.drop i (rwsD l)), rowV (Prod.fst p), iD ↑x, D.row (List.take (x * 3) (zK (Prod.fst p))) x, D.osl 4 0 (0 + x) ((0 + x) * 3) true, D.own 0 1, D.row (rwsD l) (List.length l), iD ↑i, D.ptr (List.drop i (rwsD l)), rowV (Prod.fst p), iD ↑x, iD ↑(x + 1), D.row (List.take ((List.length (Prod.fst p) - (x + 1)) * 3) (List.drop ((x + 1) * 3) (zK (Prod.fst p)))) (List.length (Prod.fst p) - (x + 1)), Uk, D.own 0 2, D.row (isD l) (List.length l), iD ↑i, D.ptr (List.drop i (isD l)), iD ↑(Prod.snd p), Uk, Uk][49]? = some (List.headD (List.drop i (rwsD l)) Uk) ∧ ((0 : Int) ≤ (↑(x + 1) : Int) ∧ True ∧ True ∧ 0 < 3 ∧ Int.toNat (↑(x + 1) : Int) ≤ List.length (Prod.fst p) ∧ List.length (Prod.fst p) ≤ List.length (Prod.fst p) ∧ List.length (Prod.fst p) = List.length (Prod.fst p)) ∧ [Uk, Uk, D.own 0 0, Uk, D.own 1 0, iD ↑x, D.own 3 0, iD ↑i, Uk, Uk, Uk, Uk, Uk, Uk, Uk, Uk, Uk, Uk, Uk, Uk, Uk, Uk, Uk, Uk, Uk, Uk, Uk, Uk, Uk, Uk, Uk, Uk, bD (decide ((↑i : Int) < ↑(List.length l))), Uk, Uk, D.agg [D.row (nsD (List.eraseIdx A x)) (List.length (List.eraseIdx A x)), D.row (rwsD O) (List.length O), D.row (isD O) (List.length O)], Uk, D.own 0 1, D.row (rwsD l) (List.length l), iD ↑i, D.ptr (List.drop i (rwsD l)), rowV (Prod.fst p), iD ↑x, D.row (List.take (x * 3) (zK (Prod.fst p))) x, D.osl 4 0 (0 + x) ((0 + x) * 3) true, D.own 0 1, D.row (rwsD l) (List.length l), iD ↑i, D.ptr (List.drop i (rwsD l)), rowV (Prod.fst p), iD ↑x, iD ↑(x + 1), D.row (List.take ((List.length (Prod.fst p) - (x + 1)) * 3) (List.drop ((x + 1) * 3) (zK (Prod.fst p)))) (List.length (Prod.fst p) - (x + 1)), Uk, D.own 0 2, D.row (isD l) (List.length l), iD ↑i, D.ptr (List.drop i (isD l)), iD ↑(Prod.snd p), Uk, Uk][52]? = some (D.row (List.take ((List.length (Prod.fst p) - Int.toNat (↑(x + 1) : Int)) * 3) (List.drop (Int.toNat (↑(x + 1) : Int) * 3) (zK (Prod.fst p)))) (List.length (Prod.fst p) - Int.toNat (↑(x + 1) : Int))) ∧ 0 < 1 ∧ [Uk, Uk, D.own 0 0, Uk, D.own 1 0, iD ↑x, D.own 3 0, iD ↑i, Uk, Uk, Uk, Uk, Uk, Uk, Uk, Uk, Uk, Uk, Uk, Uk, Uk, Uk, Uk, Uk, Uk, Uk, Uk, Uk, Uk, Uk, Uk, Uk, bD (decide ((↑i : Int) < ↑(List.length l))), Uk, Uk, D.agg [D.row (nsD (List.eraseIdx A x)) (List.length (List.eraseIdx A x)), D.row (rwsD O) (List.length O), D.row (isD O) (List.length O)], Uk, D.own 0 1, D.row (rwsD l) (List.length l), iD ↑i, D.ptr (List.drop i (rwsD l)), rowV (Prod.fst p), iD ↑x, D.row (List.take (x * 3) (zK (Prod.fst p))) x, D.osl 4 0 (0 + x) ((0 + x) * 3) true, D.own 0 1, D.row (rwsD l) (List.length l), iD ↑i, D.ptr (List.drop i (rwsD l)), rowV (Prod.fst p), iD ↑x, iD ↑(x + 1), D.row (List.take ((List.length (Prod.fst p) - (x + 1)) * 3) (List.drop ((x + 1) * 3) (zK (Prod.fst p)))) (List.length (Prod.fst p) - (x + 1)), Uk, D.own 0 2, D.row (isD l) (List.length l), iD ↑i, D.ptr (List.drop i (isD l)), iD ↑(Prod.snd p), Uk, Uk][55]? = some (List.headD [D.row (isD l) (List.length l)] Uk) ∧ YtmfamhoopjeaiaaDoor.ix ↑i ↑(List.length l) (isD l ≠ []) ∧ [Uk, Uk, D.own 0 0, Uk, D.own 1 0, iD ↑x, D.own 3 0, iD ↑i, Uk, Uk, Uk, Uk, Uk, Uk, Uk, Uk, Uk, Uk, Uk, Uk, Uk, Uk, Uk, Uk, Uk, Uk, Uk, Uk, Uk, Uk, Uk, Uk, bD (decide ((↑i : Int) < ↑(List.length l))), Uk, Uk, D.agg [D.row (nsD (List.eraseIdx A x)) (List.length (List.eraseIdx A x)), D.row (rwsD O) (List.length O), D.row (isD O) (List.length O)], Uk, D.own 0 1, D.row (rwsD l) (List.length l), iD ↑i, D.ptr (List.drop i (rwsD l)), rowV (Prod.fst p), iD ↑x, D.row (List.take (x * 3) (zK (Prod.fst p))) x, D.osl 4 0 (0 + x) ((0 + x) * 3) true, D.own 0 1, D.row (rwsD l) (List.length l), iD ↑i, D.ptr (List.drop i (rwsD l)), rowV (Prod.fst p), iD ↑x, iD ↑(x + 1), D.row (List.take ((List.length (Prod.fst p) - (x + 1)) * 3) (List.drop ((x + 1) * 3) (zK (Prod.fst p)))) (List.length (Prod.fst p) - (x + 1)), Uk, D.own 0 2, D.row (isD l) (List.length l), iD ↑i, D.ptr (List.drop i (isD l)), iD ↑(Prod.snd p), Uk, Uk][57]? = some (D.ptr (List.drop (Int.toNat (↑i : Int) * 1) (isD l))) ∧ 0 < List.length (List.drop i (isD l)) ∧ [Uk, Uk, D.own 0 0, Uk, D.own 1 0, iD ↑x, D.own 3 0, iD ↑i, Uk, Uk, Uk, Uk, Uk, Uk, Uk, Uk, Uk, Uk, Uk, Uk, Uk, Uk, Uk, Uk, Uk, Uk, Uk, Uk, Uk, Uk, Uk, Uk, bD (decide ((↑i : Int) < ↑(List.length l))), Uk, Uk, D.agg [D.row (nsD (List.eraseIdx A x)) (List.length (List.eraseIdx A x)), D.row (rwsD O) (List.length O), D.row (isD O) (List.length O)], Uk, D.own 0 1, D.row (rwsD l) (List.length l), iD ↑i, D.ptr (List.drop i (rwsD l)), rowV (Prod.fst p), iD ↑x, D.row (List.take (x * 3) (zK (Prod.fst p))) x, D.osl 4 0 (0 + x) ((0 + x) * 3) true, D.own 0 1, D.row (rwsD l) (List.length l), iD ↑i, D.ptr (List.drop i (rwsD l)), rowV (Prod.fst p), iD ↑x, iD ↑(x + 1), D.row (List.take ((List.length (Prod.fst p) - (x + 1)) * 3) (List.drop ((x + 1) * 3) (zK (Prod.fst p)))) (List.length (Prod.fst p) - (x + 1)), Uk, D.own 0 2, D.row (isD l) (List.length l), iD ↑i, D.ptr (List.drop i (isD l)), iD ↑(Prod.snd p), Uk, Uk][58]? = some (List.headD (List.drop i (isD l)) Uk)) (by kernel_rfl) ⟨(by omega), (by kernel_rfl), (by omega), (by kernel_rfl), ⟨(by omega), ⟨(by omega), (by assumption)⟩⟩, (by simp), (by (simp; omega)), ?_, ⟨(by omega), ⟨trivial, ⟨trivial, (by omega)⟩⟩⟩, (by kernel_rfl), (by omega), (by kernel_rfl), ⟨(by omega), ⟨(by omega), (by assumption)⟩⟩, (by simp), (by (simp; omega)), ?_⟩ (by kernel_rfl) ?_
   rotate_left
   rotate_left
   refine vnil (zD7 rfl rfl (by kernel_rfl) (vr 1 (Bk.arr (Bk.mk (List.take (x * 3) (zK (Prod.fst p))) 69 3 true false Kd.plain) = true ∧ List.length (List.take (x * 3) (zK (Prod.fst p))) = (0 + x) * 3 ∧ (0 + x) * 3 = (0 + x) * 3 ∧ Bk.ty (Bk.mk (List.take (x * 3) (zK (Prod.fst p))) 69 3 true false Kd.plain) = 69 ∧ Bk.sz (Bk.mk (List.take (x * 3) (zK (Prod.fst p))) 69 3 true false Kd.plain) = 3 ∧ List.length (List.take ((List.length (Prod.fst p) - (x + 1)) * 3) (List.drop ((x + 1) * 3) (zK (Prod.fst p)))) = (List.length (Prod.fst p) - (x + 1)) * 3 ∧ 0 < 3 ∧ 0 < 32 ∧ 69 = 69 ∧ (0 + x + (List.length (Prod.fst p) - (x + 1))) * 32 ≤ 140737488355328 ∧ 3 = 3 ∧ Kd.isMap (Bk.kd (Bk.mk (List.take (x * 3) (zK (Prod.fst p))) 69 3 true false Kd.plain)) = false ∧ (false = false ∨ Kd.isSh (Bk.kd (Bk.mk (List.take (x * 3) (zK (Prod.fst p))) 69 3 true false Kd.plain)) = true)) (vb 4 (Bk.mk (List.take (x * 3) (zK (Prod.fst p)) ++ List.take ((List.length (Prod.fst p) - (x + 1)) * 3) (List.drop ((x + 1) * 3) (zK (Prod.fst p)))) (Bk.ty (Bk.mk (List.take (x * 3) (zK (Prod.fst p))) 69 3 true false Kd.plain)) (Bk.sz (Bk.mk (List.take (x * 3) (zK (Prod.fst p))) 69 3 true false Kd.plain)) (Bk.arr (Bk.mk (List.take (x * 3) (zK (Prod.fst p))) 69 3 true false Kd.plain)) (Bk.fz (Bk.mk (List.take (x * 3) (zK (Prod.fst p))) 69 3 true false Kd.plain)) (Bk.kd (Bk.mk (List.take (x * 3) (zK (Prod.fst p))) 69 3 true false Kd.plain))) (Bk.mk (zK (List.eraseIdx (Prod.fst p) x)) 69 3 true false Kd.plain) (by simp (disch := omega) only [m1]) (vnil ?_))))
   refine zD6 (C := 3 ≤ 3 ∧ [Uk, Uk, D.own 0 0, Uk, D.own 1 0, iD ↑x, D.own 3 0, iD ↑i, Uk, Uk, Uk, Uk, Uk, Uk, Uk, Uk, Uk, Uk, Uk, Uk, Uk, Uk, Uk, Uk, Uk, Uk, Uk, Uk, Uk, Uk, Uk, Uk, bD (decide ((↑i : Int) < ↑(List.length l))), Uk, Uk, D.agg [D.row (nsD (List.eraseIdx A x)) (List.length (List.eraseIdx A x)), D.row (rwsD O) (List.length O), D.row (isD O) (List.length O)], Uk, D.own 0 1, D.row (rwsD l) (List.length l), iD ↑i, D.ptr (List.drop i (rwsD l)), rowV (Prod.fst p), iD ↑x, D.row (List.take (x * 3) (zK (Prod.fst p))) x, Uk, D.own 0 1, D.row (rwsD l) (List.length l), iD ↑i, D.ptr (List.drop i (rwsD l)), rowV (Prod.fst p), iD ↑x, iD ↑(x + 1), D.row (List.take ((List.length (Prod.fst p) - (x + 1)) * 3) (List.drop ((x + 1) * 3) (zK (Prod.fst p)))) (List.length (Prod.fst p) - (x + 1)), D.osl 4 0 (0 + x + (List.length (Prod.fst p) - (x + 1))) ((0 + x + (List.length (Prod.fst p) - (x + 1))) * 3) true, D.own 0 2, D.row (isD l) (List.length l), iD ↑i, D.ptr (List.drop i (isD l)), iD ↑(Prod.snd p), Uk, Uk][35]? = some (D.agg (List.take 3 [D.row (nsD (List.eraseIdx A x)) (List.length (List.eraseIdx A x)), D.row (rwsD O) (List.length O), D.row (isD O) (List.length O)])) ∧ 0 < 1 ∧ [Uk, Uk, D.own 0 0, Uk, D.own 1 0, iD ↑x, D.own 3 0, iD ↑i, Uk, Uk, Uk, Uk, Uk, Uk, Uk, Uk, Uk, Uk, Uk, Uk, Uk, Uk, Uk, Uk, Uk, Uk, Uk, Uk, Uk, Uk, Uk, Uk, bD (decide ((↑i : Int) < ↑(List.length l))), Uk, Uk, D.agg [D.row (nsD (List.eraseIdx A x)) (List.length (List.eraseIdx A x)), D.row (rwsD O) (List.length O), D.row (isD O) (List.length O)], Uk, D.own 0 1, D.row (rwsD l) (List.length l), iD ↑i, D.ptr (List.drop i (rwsD l)), rowV (Prod.fst p), iD ↑x, D.row (List.take (x * 3) (zK (Prod.fst p))) x, Uk, D.own 0 1, D.row (rwsD l) (List.length l), iD ↑i, D.ptr (List.drop i (rwsD l)), rowV (Prod.fst p), iD ↑x, iD ↑(x + 1), D.row (List.take ((List.length (Prod.fst p) - (x + 1)) * 3) (List.drop ((x + 1) * 3) (zK (Prod.fst p)))) (List.length (Prod.fst p) - (x + 1)), D.osl 4 0 (0 + x + (List.length (Prod.fst p) - (x + 1))) ((0 + x + (List.length (Prod.fst p) - (x + 1))) * 3) true, D.own 0 2, D.row (isD l) (List.length l), iD ↑i, D.ptr (List.drop i (isD l)), iD ↑(Prod.snd p), Uk, Uk][55]? = some (List.headD [D.row (isD l) (List.length l)] Uk) ∧ YtmfamhoopjeaiaaDoor.ix ↑i ↑(List.length l) (isD l ≠ []) ∧ [Uk, Uk, D.own 0 0, Uk, D.own 1 0, iD ↑x, D.own 3 0, iD ↑i, Uk, Uk, Uk, Uk, Uk, Uk, Uk, Uk, Uk, Uk, Uk, Uk, Uk, Uk, Uk, Uk, Uk, Uk, Uk, Uk, Uk, Uk, Uk, Uk, bD (decide ((↑i : Int) < ↑(List.length l))), Uk, Uk, D.agg [D.row (nsD (List.eraseIdx A x)) (List.length (List.eraseIdx A x)), D.row (rwsD O) (List.length O), D.row (isD O) (List.length O)], Uk, D.own 0 1, D.row (rwsD l) (List.length l), iD ↑i, D.ptr (List.drop i (rwsD l)), rowV (Prod.fst p), iD ↑x, D.row (List.take (x * 3) (zK (Prod.fst p))) x, Uk, D.own 0 1, D.row (rwsD l) (List.length l), iD ↑i, D.ptr (List.drop i (rwsD l)), rowV (Prod.fst p), iD ↑x, iD ↑(x + 1), D.row (List.take ((List.length (Prod.fst p) - (x + 1)) * 3) (List.drop ((x + 1) * 3) (zK (Prod.fst p)))) (List.length (Prod.fst p) - (x + 1)), D.osl 4 0 (0 + x + (List.length (Prod.fst p) - (x + 1))) ((0 + x + (List.length (Prod.fst p) - (x + 1))) * 3) true, D.own 0 2, D.row (isD l) (List.length l), iD ↑i, D.ptr (List.drop i (isD l)), iD ↑(Prod.snd p), Uk, Uk][57]? = some (D.ptr (List.drop (Int.toNat (↑i : Int) * 1) (isD l))) ∧ 0 < List.length (List.drop i (isD l)) ∧ [Uk, Uk, D.own 0 0, Uk, D.own 1 0, iD ↑x, D.own 3 0, iD ↑i, Uk, Uk, Uk, Uk, Uk, Uk, Uk, Uk, Uk, Uk, Uk, Uk, Uk, Uk, Uk, Uk, Uk, Uk, Uk, Uk, Uk, Uk, Uk, Uk, bD (decide ((↑i : Int) < ↑(List.length l))), Uk, Uk, D.agg [D.row (nsD (List.eraseIdx A x)) (List.length (List.eraseIdx A x)), D.row (rwsD O) (List.length O), D.row (isD O) (List.length O)], Uk, D.own 0 1, D.row (rwsD l) (List.length l), iD ↑i, D.ptr (List.drop i (rwsD l)), rowV (Prod.fst p), iD ↑x, D.row (List.take (x * 3) (zK (Prod.fst p))) x, Uk, D.own 0 1, D.row (rwsD l) (List.length l), iD ↑i, D.ptr (List.drop i (rwsD l)), rowV (Prod.fst p), iD ↑x, iD ↑(x + 1), D.row (List.take ((List.length (Prod.fst p) - (x + 1)) * 3) (List.drop ((x + 1) * 3) (zK (Prod.fst p)))) (List.length (Prod.fst p) - (x + 1)), D.osl 4 0 (0 + x + (List.length (Prod.fst p) - (x + 1))) ((0 + x + (List.length (Prod.fst p) - (x + 1))) * 3) true, D.own 0 2, D.row (isD l) (List.length l), iD ↑i, D.ptr (List.drop i (isD l)), iD ↑(Prod.snd p), Uk, Uk][58]? = some (List.headD (List.drop i (isD l)) Uk)) (by kernel_rfl) ⟨(by omega), (by kernel_rfl), (by omega), (by kernel_rfl), ⟨(by omega), ⟨(by omega), (by assumption)⟩⟩, (by simp), (by (simp; omega)), ?_⟩ (by kernel_rfl) ?_
   rotate_left
   refine vcl [D.agg [D.row (nsD (List.eraseIdx A x)) (List.length (List.eraseIdx A x)), D.row (rwsD O) (List.length O), D.row (isD O) (List.length O)], D.row (List.take ((0 + x + (List.length (Prod.fst p) - (x + 1))) * 3) (List.drop 0 (zK (List.eraseIdx (Prod.fst p) x)))) (0 + x + (List.length (Prod.fst p) - (x + 1))), iD ↑(Prod.snd p)] [D.agg [D.row (nsD (List.eraseIdx A x)) (List.length (List.eraseIdx A x)), D.row (rwsD O) (List.length O), D.row (isD O) (List.length O)], D.row (zK (List.eraseIdx (Prod.fst p) x)) (List.length (List.eraseIdx (Prod.fst p) x)), iD ↑(Prod.snd p)] (LeL.of_eq (by simp (disch := omega) only [Nat.zero_add, List.drop_zero, m3, m2])) (by exact hput) (vr 1 (Bk.fz (Bk.mk [D.row (nsD (List.eraseIdx A x)) (List.length (List.eraseIdx A x)), D.row (rwsD O) (List.length O), D.row (isD O) (List.length O)] 46 0 false false Kd.plain) = false ∧ true = true ∧ 3 = 3 ∧ 3 ≤ 3) (vnil (zGg (zE (zC (zD (zA rfl (vr 3 (i6 (↑i + 1)) (vnil (zC ?_))))))))))
   rotate_left
  all_goals first | (rw [hx]; rfl) | (rw [hv]; rfl) | skip
  refine ⟨i + 1, putP rcmp (· + ·) (p.1.eraseIdx x) p.2 O, ⟨by omega, hac.symm⟩, by omega, ?_⟩
  refine vk 4
 ·have e : i = l.length := by omega
  subst e
  rw [List.take_length] at h1o
  focus
   refine zB (zB (zA rfl (v0s (ve (True ∧ 0 < 2) (vF ((↑(List.length l) : Int) < ↑(List.length l)) (zQ (zH (zH (zP rfl (zC (zD (zB (zA rfl ?_)))))))))))))
   refine ve (3 ≤ 3 ∧ false = false ∧ true = true ∧ 3 = 3 ∧ 3 ≤ 3) (zM ?_)
   refine vre (3 ≤ 3) (D.agg [D.row (nsD (List.eraseIdx A x)) (List.length (List.eraseIdx A x)), (q7_ O), (q9_ O)]) (.inr rfl) ?_
   rotate_left
  rw [← h1o]
end
section
open Go.RowKit
attribute [local irreducible] seqW awp zAf zAo zAg Weak updS zAw retL Pure Acts rP setP setQ cP nP fr
set_option maxRecDepth 4096
abbrev rfAc (f : Fa Nat) : List D := rfC f.A f.l
abbrev rfA (f : Fa Nat) : D := rfD f.A f.l
theorem zMp (f : Fa Nat) : (rfAc f).length = 3 := rfl
theorem bit_b0 {m : Nat} (hm : m < 4294967296) (v : Nat) : ((((BitVec.ofInt 32 ((m >>> v : Nat) : Int) &&& BitVec.ofInt 32 1).toNat : Nat) : Int) == 0) = !m.testBit v := by
 have h : (((BitVec.ofInt 32 ((m >>> v : Nat) : Int) &&& BitVec.ofInt 32 1).toNat : Nat) : Int) = if m.testBit v then 1 else 0 := zX0 hm v
 rw [h]; cases m.testBit v <;> rfl
theorem bit_w0 {m : Nat} (hm : m < 4294967296) (v : Nat) : (IntKind.u32.wrap (((BitVec.ofInt 32 ((m >>> v : Nat) : Int) &&& BitVec.ofInt 32 1).toNat : Nat) : Int) == 0) = !m.testBit v := by
 have h : (((BitVec.ofInt 32 ((m >>> v : Nat) : Int) &&& BitVec.ofInt 32 1).toNat : Nat) : Int) = if m.testBit v then 1 else 0 := zX0 hm v
 rw [h]; cases m.testBit v <;> rfl
theorem fmul_nil (f g : Fa Nat) : fmul rcmp Sn f g [] = ⟨un f.A g.A, acc rcmp (· + ·) [] (zBb (· * ·) f.A f.l g.A g.l)⟩ := by
 unfold fmul
 have e : (zBb Sn.mul f.A f.l g.A g.l).filter (fun p => ([] : List (Fa Nat)).all fun o => okO (un f.A g.A) p.1 o) = zBb Sn.mul f.A f.l g.A g.l := List.filter_eq_self.2 fun _ _ => rfl
 rw [e]
 rfl
section
variable {Dm : List Va}
theorem rmulF_c (f g : Fa Nat) (hf : FOk rcmp Dm f) (hg : FOk rcmp Dm g) (hr : rz f * rz g ≤ 900000) (hv : vz f * vz g ≤ 4000000000000000000) : Pure Tryd.prog 24 [rfA f, rfA g] [] (rfA (fmul rcmp Sn f g [])) := by
 rw [fmul_nil]
 simp only [rz, vz, Nat.mul_add, Nat.add_mul] at hr hv
 exact rmul_c f.A g.A f.l g.l hf.asc hg.asc hf.len hg.len (by omega) (by omega) (by omega) (by omega)
theorem rsumF_c (f : Fa Nat) (hf : FOk rcmp Dm f) (v : Nat) (hv : v ∈ f.A) (hr : rz f ≤ 900000) (hs : vz f ≤ 4000000000000000000) : Pure Tryd.prog 22 [rfA f, iD (v : Nat)] [] (rfA (fsum rcmp Sn v f)) := by
 unfold rz at hr
 unfold vz at hs
 exact rsum_c f.A f.l v hf.asc hv hf.len (by omega) (by omega)
theorem zWh {α : Type} {c : Rw → Rw → Int} {S : Sr α} (p f : Fa α) (fs : List (Fa α)) : refP c S p (fs ++ [f]) = fmul c S (refP c S p fs) f [] := by simp [refP, List.foldl_append]
theorem zN7 {α : Type} {c : Rw → Rw → Int} {S : Sr α} (f : Fa α) (vs : List Nat) (v : Nat) : refS c S f (vs ++ [v]) = fsum c S v (refS c S f vs) := by simp [refS, List.foldl_append]
theorem zJ6 {α : Type} {c : Rw → Rw → Int} {S : Sr α} {z : Fa α → Nat} (h1 : ∀ f g os, z (fmul c S f g os) ≤ z f * z g) : ∀ (fs : List (Fa α)) (p : Fa α), z (refP c S p fs) ≤ z p * pz z fs
 | [], p => by simp [refP, pz]
 | f :: fs, p => by
  have h2 := zJ6 h1 fs (fmul c S p f [])
  rw [zBv, ← Nat.mul_assoc]
  exact Nat.le_trans h2 (Nat.mul_le_mul_right _ (h1 p f []))
theorem zJ5 {α : Type} {c : Rw → Rw → Int} {S : Sr α} {z : Fa α → Nat} (h2 : ∀ v f, z (fsum c S v f) ≤ z f) : ∀ (vs : List Nat) (f : Fa α), z (refS c S f vs) ≤ z f
 | [], f => Nat.le_refl _
 | v :: vs, f => Nat.le_trans (zJ5 h2 vs (fsum c S v f)) (h2 v f)
theorem zWi {α : Type} {z : α → Nat} (hz : ∀ a, 1 ≤ z a) (l : List α) (i : Nat) : pz z (l.take i) ≤ pz z l := by
 conv => rhs; rw [← List.take_append_drop i l]
 rw [zH2]
 exact Nat.le_mul_of_pos_right _ (zGk hz _)
set_option maxHeartbeats 4000000 in
theorem rmarg_c (n keep : Nat) (fs : List (Fa Nat)) (hn : n ≤ 32) (hk : keep < 4294967296) (hf : ∀ f ∈ fs, FOk rcmp Dm f) (hl : fs.length ≤ 1000) (hr : 2 * pz rz fs ≤ 900000) (hv : 2 * pz vz fs ≤ 4000000000000000000) (hcv : ∀ v, v < n → ∃ f ∈ fs, v ∈ f.A) :
  Pure Tryd.prog 15 [iD (n : Nat), u32D keep, .row (fs.flatMap rfAc) fs.length] [] (rfA (refS rcmp Sn (refP rcmp Sn (zAq Sn) fs) ((List.range n).filter fun v => !keep.testBit v))) := by
 refine zL zBo mixed Tryd.func15 rfl ?_
 focus
  refine zB (zA rfl (v0s (veT (zB (zA rfl (vr 6 ((True ∧ 0 < 3 ∧ 3 = 3 ∧ 0 ≤ 16777216 ∧ 0 ≤ 9223372036854775807) ∧ ((1 = 1 ∧ 1 ≤ 1 ∧ True) ∧ 0 < 1 ∧ 1 = 1 ∧ 1 ≤ 16777216 ∧ 1 ≤ 9223372036854775807) ∧ ((1 = 1 ∧ 1 ≤ 1 ∧ True) ∧ 0 < 1 ∧ 1 = 1 ∧ 1 ≤ 16777216 ∧ 1 ≤ 9223372036854775807) ∧ ((1 = 1 ∧ 2 ≤ 3 ∧ 1 = 1 ∧ 3 ≤ 3 ∧ True) ∧ true = true) ∧ false = false ∧ true = true ∧ 3 = 3 ∧ 3 ≤ 3) (vnil (zC (vnn (fr 41 [(0, iD ↑n), (1, u32D keep), (2, D.row (List.flatMap rfAc fs) (List.length fs)), (6, D.own 0 0), (7, D.own 4 0), (10, D.osl 1 0 0 0 true), (11, D.osl 2 0 1 1 true), (12, D.osl 3 0 1 1 true), (13, D.agg [nl, D.osl 2 0 1 1 true, D.osl 3 0 1 1 true])]) [q11_, Bk.mk [] 69 3 true true Kd.plain, Bk.mk [D.row [] 0] 72 1 true false Kd.plain, Bk.mk [iD 1] 3 1 true false Kd.plain, Bk.mk [nl, D.osl 2 0 1 1 true, D.osl 3 0 1 1 true] 46 0 false false Kd.plain] ?_)))))))))
  rotate_left
 refine zBe ((Weak.fzCell (j := 4) (i := 1) (d := .osl 2 0 1 1 true) (x := .row [.row [] 0] 1) (ks := [2]) rfl rfl rfl rfl (by exact rfl) (by decide)).trans ((Weak.fzCell (j := 4) (i := 2) (d := .osl 3 0 1 1 true) (x := .row [iD 1] 1) (ks := [3]) rfl rfl rfl rfl (by exact rfl) (by decide)).trans (Weak.leC (j := 4) (i := 0) (d' := .row [] 0) rfl rfl rfl LeD.nil_row))) ?_
 focus
  refine zB (zB (zA rfl (v0s (veT (zF ?_)))))
  rotate_left
 have hU : FOk rcmp Dm (zAq Sn) := zEu
 have zr := fun i => zJ6 (S := Sn) (z := rz) (zHj (c := rcmp) Sn) (fs.take i) (zAq Sn)
 have zv := fun i => zJ6 (S := Sn) (z := vz) (zHi (c := rcmp)) (fs.take i) (zAq Sn)
 have hok := fun i => zG5 (S := Sn) rcw (fs.take i) (zAq Sn) hU fun f hf' => hf f (List.mem_of_mem_take hf')
 refine zA4 (fun (i : Nat) (A : List Nat) (l : List (Rw × Nat)) => fr 41 [(0, iD ↑n), (1, u32D keep), (2, D.row (List.flatMap rfAc fs) (List.length fs)), (6, D.own 0 0), (7, D.own 4 0), (8, iD ↑i)]) (fun (i : Nat) (A : List Nat) (l : List (Rw × Nat)) => [rB nl nl nl, ⟨[], 69, 3, true, true, .plain⟩, ⟨[.row [] 0], 72, 1, true, true, .plain⟩, ⟨[iD 1], 3, 1, true, true, .plain⟩, rB (.row (nsD A) A.length) (.row (rwsD l) l.length) (.row (isD l) l.length)]) (fun i A l => fs.length - i) (fun (i : Nat) (A : List Nat) (l : List (Rw × Nat)) => i ≤ fs.length ∧ (⟨A, l⟩ : Fa Nat) = refP rcmp Sn (zAq Sn) (fs.take i)) 0 [] [([], 1)] ?_ ?_ ?_
 ·exact ⟨by omega, rfl⟩
 ·refine vk 5
 rintro i A l ⟨h1, h2⟩
 rcases Nat.lt_or_ge i fs.length with h3 | h3
 ·have hm := zAt fs default i h3
  have hg2 := zFw zMp fs i h3
  have hle := zJf zMp fs i h3
  have hne := zJe zMp (by decide) fs (by omega)
  have hp := hok i
  rw [← h2] at hp
  have e1 := zCi fs i h3
  have e2 := zWh (c := rcmp) (S := Sn) (zAq Sn) (fs.getD i default) (fs.take i)
  rw [← e1, ← h2] at e2
  have b1 : rz (⟨A, l⟩ : Fa Nat) * rz (fs.getD i default) ≤ 900000 := by
   have h5 := Nat.mul_le_mul_right (rz (fs.getD i default)) (zr i)
   have h6 := zWi zHy fs (i + 1)
   rw [e1, zH2] at h6
   simp only [pz, List.foldr_cons, List.foldr_nil, Nat.mul_one] at h6 hr
   rw [← h2, Nat.mul_assoc] at h5
   have h7 := Nat.mul_le_mul_left (rz (zAq Sn)) h6
   have h8 : rz (zAq Sn) = 2 := rfl
   simp only [pz] at h5
   rw [h8] at h5 h7
   omega
  have b2 : vz (⟨A, l⟩ : Fa Nat) * vz (fs.getD i default) ≤ 4000000000000000000 := by
   have h5 := Nat.mul_le_mul_right (vz (fs.getD i default)) (zv i)
   have h6 := zWi zHw fs (i + 1)
   rw [e1, zH2] at h6
   simp only [pz, List.foldr_cons, List.foldr_nil, Nat.mul_one] at h6 hv
   rw [← h2, Nat.mul_assoc] at h5
   have h7 := Nat.mul_le_mul_left (vz (zAq Sn)) h6
   have h8 : vz (zAq Sn) = 2 := rfl
   simp only [pz] at h5
   rw [h8] at h5 h7
   omega
  have hmul := rmulF_c _ _ hp (hf _ hm) b1 b2
  generalize fs.getD i default = g at *
  generalize fmul rcmp Sn ⟨A, l⟩ g [] = q at *
  obtain ⟨A', l'⟩ := q
  focus
   refine zB (zB (zA rfl (v0s (veT (vT ((↑i : Int) < ↑(List.length fs)) (zG (zC (zD (zB (zF (vd [1, 2, 3, 0, 4, 5, 6] (vr 5 (ix ↑i ↑(List.length fs) (List.flatMap rfAc fs ≠ []) ∧ 3 ≤ 3 ∧ 3 ≤ List.length (List.drop (i * 3) (List.flatMap rfAc fs))) (vs 24 (D.agg (List.take 3 (List.drop (i * 3) (List.flatMap rfAc fs)))) (D.agg (rfAc g)) (by simp (disch := omega) only [hg2]) ?_)))))))))))))
   refine vc hmul (vr 1 (Bk.fz (rB ((q4_ A)) ((q7_ l)) ((q9_ l))) = false ∧ true = true ∧ 3 = 3 ∧ 3 ≤ 3) (vnil (zE (zC (zD (zA rfl (vr 3 (i6 (↑i + 1)) (vnil (zC ?_)))))))))
   rotate_left
  refine ⟨i + 1, A', l', ⟨by omega, e2.symm⟩, by omega, ?_⟩
  refine vk 5
 rw [List.take_of_length_le (by omega)] at h2
 have hP := zG5 (S := Sn) rcw fs (zAq Sn) hU hf
 have hPA := zR9 (c := rcmp) (S := Sn) fs (zAq Sn) (by simp [zAq]) (fun f h => (hf f h).asc.2)
 have hz1 := zJ6 (S := Sn) (z := rz) (zHj (c := rcmp) Sn) fs (zAq Sn)
 have hz2 := zJ6 (S := Sn) (z := vz) (zHi (c := rcmp)) fs (zAq Sn)
 have h8 : rz (zAq Sn) = 2 := rfl
 have h9 : vz (zAq Sn) = 2 := rfl
 rw [h8] at hz1
 rw [h9] at hz2
 rw [← h2] at hP hPA hz1 hz2 ⊢
 clear zr zv hok h8 h9
 focus
  refine zB (zB (zA rfl (v0s (veT (vF ((↑i : Int) < ↑(List.length fs)) (zQ (zH (zH (zP rfl (zC (zD (zB (zB ?_)))))))))))))
  refine zA rfl (veT (zF ?_))
  rotate_left
 refine zA4 (fun (v : Nat) (B : List Nat) (m : List (Rw × Nat)) => fr 41 [(0, iD ↑n), (1, u32D keep), (6, D.own 0 0), (7, D.own 4 0), (9, iD ↑v)]) (fun (v : Nat) (B : List Nat) (m : List (Rw × Nat)) => [rB nl nl nl, ⟨[], 69, 3, true, true, .plain⟩, ⟨[.row [] 0], 72, 1, true, true, .plain⟩, ⟨[iD 1], 3, 1, true, true, .plain⟩, rB (.row (nsD B) B.length) (.row (rwsD m) m.length) (.row (isD m) m.length)]) (fun v B m => n - v) (fun (v : Nat) (B : List Nat) (m : List (Rw × Nat)) => v ≤ n ∧ (⟨B, m⟩ : Fa Nat) = refS rcmp Sn ⟨A, l⟩ ((List.range v).filter fun v => !keep.testBit v)) 0 A l ?_ ?_ ?_
 ·exact ⟨by omega, rfl⟩
 ·refine vk 5
 rintro v B m ⟨k1, k2⟩
 rcases Nat.lt_or_ge v n with k3 | k3
 ·have hv32 : v < 32 := by omega
  have hq := zG4 (S := Sn) rcw ((List.range v).filter fun v => !keep.testBit v) _ hP
  have hqA := zN8 (c := rcmp) (S := Sn) ((List.range v).filter fun v => !keep.testBit v) ⟨A, l⟩ v
  have z1 := zJ5 (S := Sn) (z := rz) (zM7 (c := rcmp) Sn) ((List.range v).filter fun v => !keep.testBit v) ⟨A, l⟩
  have z2 := zJ5 (S := Sn) (z := vz) (fun v f => Nat.le_of_eq (zM6 (c := rcmp) v f)) ((List.range v).filter fun v => !keep.testBit v) ⟨A, l⟩
  rw [← k2] at hq hqA z1 z2
  have hvB : v ∈ B := hqA.2 ⟨(hPA v).2 (.inr (hcv v k3)), fun h => by simp at h⟩
  have hsum := rsumF_c _ hq v hvB (by omega) (by omega)
  have e1 : (List.range (v + 1)).filter (fun v => !keep.testBit v) = (List.range v).filter (fun v => !keep.testBit v) ++ if keep.testBit v = false then [v] else [] := by
   rw [List.range_succ, List.filter_append]
   cases hb : keep.testBit v <;> simp [List.filter_cons, hb]
  have e2 := zN7 (c := rcmp) (S := Sn) ⟨A, l⟩ ((List.range v).filter fun v => !keep.testBit v) v
  rw [← k2] at e2
  clear hq hqA z1 z2
  generalize fsum rcmp Sn v ⟨B, m⟩ = q at *
  obtain ⟨B', m'⟩ := q
  have w1 := bit_b0 hk v
  have w2 := bit_w0 hk v
  have w3 := zEv keep hv32
  focus
   refine zB (zB (zA rfl (v0s (veT (vT ((↑v : Int) < ↑n) (zG (zC (zD (zB (zF (zB (zA rfl (vr 4 (u6 (↑v : Int) ∧ (0 : Int) ≤ (↑v : Int)) ?_)))))))))))))
   refine vs 34 (D.val (Value.int IntKind.u32 (Int.fdiv (↑keep : Int) ((2 : Int) ^ min (Int.toNat (↑v : Int)) 32)))) (dig (keep >>> v)) (by simp (disch := omega) only [Int.toNat_natCast, w3]) (vrT 1 (vs 35 (D.val (Value.int IntKind.u32 (IntKind.wrap IntKind.u32 (↑(BitVec.toNat (BitVec.ofInt 32 (↑(keep >>> v) : Int) &&& BitVec.ofInt 32 (1 : Int))) : Int)))) (dig (BitVec.toNat (BitVec.ofInt 32 (↑(keep >>> v) : Int) &&& BitVec.ofInt 32 (1 : Int)))) (by simp (disch := omega) only [zBa]) (vrT 1 (vs 36 (bD ((↑(BitVec.toNat (BitVec.ofInt 32 (↑(keep >>> v) : Int) &&& BitVec.ofInt 32 (1 : Int))) : Int) == (0 : Int))) (bD !Nat.testBit keep v) (by simp (disch := omega) only [w1]) (veT ?_)))))
   refine zR (t := !Nat.testBit keep v) (by kernel_rfl) (fun hc => ?_) (fun hc => ?_)
   simp only [Bool.not_eq_true'] at hc
   refine zA rfl (vr 2 (3 ≤ 3) (vc hsum (vr 1 (Bk.fz (rB ((q4_ B)) ((q7_ m)) ((q9_ m))) = false ∧ true = true ∧ 3 = 3 ∧ 3 ≤ 3) (vnil (zE (zC (zD (zA rfl (vr 3 (i6 (↑v + 1)) (vnil (zC ?_)))))))))))
   rotate_left
   simp only [Bool.not_eq_false'] at hc
   refine zG (zE (zC (zD (zA rfl (vr 3 (i6 (↑v + 1)) (vnil (zC ?_)))))))
   rotate_left
  ·rw [if_pos (by simpa using hc)] at e1
   refine ⟨v + 1, B', m', ⟨by omega, by rw [e1]; exact e2.symm⟩, by omega, ?_⟩
   refine vk 5
  ·rw [if_neg (by simpa using hc), List.append_nil] at e1
   refine ⟨v + 1, B, m, ⟨by omega, by rw [e1]; exact k2⟩, by omega, ?_⟩
   refine vk 5
 ·have e : v = n := by omega
  subst e
  focus
   refine zB (zB (zA rfl (v0s (veT (vF ((↑v : Int) < ↑v) (zQ (zH (zH (zP rfl (zC (zD (zB (zA rfl ?_)))))))))))))
   refine ve (3 ≤ 3 ∧ false = false ∧ true = true ∧ 3 = 3 ∧ 3 ≤ 3) (zM ?_)
   refine vre (3 ≤ 3) (D.agg [(q4_ B), (q7_ m), (q9_ m)]) (.inr rfl) ?_
   rotate_left
  rw [← k2]
end
end
section
open Go.RowKit
attribute [local irreducible] seqW awp zAf zAo zAg Weak updS zAw retL Pure Acts rP setP setQ cP nP fr
set_option maxRecDepth 100000
theorem u8_rng (x : Int) : 0 ≤ IntKind.u8.wrap x ∧ IntKind.u8.wrap x < 256 := by
 unfold IntKind.wrap
 have h : (2 : Int) ^ IntKind.u8.bits = 256 := by decide
 rw [h]
 simp only [IntKind.signed]
 have h1 := Int.emod_nonneg x (b := 256) (by decide)
 have h2 := Int.emod_lt_of_pos x (b := 256) (by decide)
 simp
 omega
theorem zYa (b : BitVec 32) : (0 : Int) ≤ ((b &&& BitVec.ofInt 32 255).toNat : Nat) ∧ (((b &&& BitVec.ofInt 32 255).toNat : Nat) : Int) < ((256 : Nat) : Int) := by
 have h : (b &&& BitVec.ofInt 32 255).toNat ≤ 255 := by
  rw [BitVec.toNat_and]
  exact Nat.le_trans Nat.and_le_right (by decide)
 omega
theorem shr24 (m : Nat) (hm : m < 4294967296) : 0 ≤ Int.fdiv (m : Int) (2 ^ 24) ∧ Int.fdiv (m : Int) (2 ^ 24) < ((256 : Nat) : Int) := by
 have h := zVw m (v := 24) (by omega)
 rw [show (min ((24 : Nat) : Int).toNat 32) = 24 by decide] at h
 rw [h, Nat.shiftRight_eq_div_pow]
 have : m / 2 ^ 24 < 256 := Nat.div_lt_of_lt_mul (by omega)
 omega
def popT : List UInt8 := [0, 1, 1, 2, 1, 2, 2, 3, 1, 2, 2, 3, 2, 3, 3, 4, 1, 2, 2, 3, 2, 3, 3, 4, 2, 3, 3, 4, 3, 4, 4, 5, 1, 2, 2, 3, 2, 3, 3, 4, 2, 3, 3, 4, 3, 4, 4, 5, 2, 3, 3, 4, 3, 4, 4, 5, 3, 4, 4, 5, 4, 5, 5, 6, 1, 2, 2, 3, 2, 3, 3, 4, 2, 3, 3, 4, 3, 4, 4, 5, 2, 3, 3, 4, 3, 4, 4, 5, 3, 4, 4, 5, 4, 5, 5, 6, 2, 3, 3, 4, 3, 4, 4, 5, 3, 4, 4, 5, 4, 5, 5, 6, 3, 4, 4, 5, 4, 5, 5, 6, 4, 5, 5, 6, 5, 6, 6, 7, 1, 2, 2, 3, 2, 3, 3, 4, 2, 3, 3, 4, 3, 4, 4, 5, 2, 3, 3, 4, 3, 4, 4, 5, 3, 4, 4, 5, 4, 5, 5, 6, 2, 3, 3, 4, 3, 4, 4, 5, 3, 4, 4, 5, 4, 5, 5, 6, 3, 4, 4, 5, 4, 5, 5, 6, 4, 5, 5, 6, 5, 6, 6, 7, 2, 3, 3, 4, 3, 4, 4, 5, 3, 4, 4, 5, 4, 5, 5, 6, 3, 4, 4, 5, 4, 5, 5, 6, 4, 5, 5, 6, 5, 6, 6, 7, 3, 4, 4, 5, 4, 5, 5, 6, 4, 5, 5, 6, 5, 6, 6, 7, 4, 5, 5, 6, 5, 6, 6, 7, 5, 6, 6, 7, 6, 7, 7, 8]
def popB (i : Nat) : Int := ((popT.toArray.getD i 0).toNat : Int)
theorem popW_c (m : Nat) (hm : m < 4294967296) : Pure Tryd.prog 49 [u32D m] [] (iD (IntKind.i64.wrap (IntKind.u8.wrap (IntKind.u8.wrap (IntKind.u8.wrap (popB (Int.fdiv (m : Int) (2 ^ 24)).toNat + popB (BitVec.ofInt 32 (Int.fdiv (m : Int) (2 ^ 16)) &&& BitVec.ofInt 32 255).toNat) + popB (BitVec.ofInt 32 (Int.fdiv (m : Int) (2 ^ 8)) &&& BitVec.ofInt 32 255).toNat) + popB (BitVec.ofInt 32 (m : Int) &&& BitVec.ofInt 32 255).toNat)))) := by
 have h1 := shr24 m hm
 have h2 := zYa (BitVec.ofInt 32 (Int.fdiv (m : Int) (2 ^ 16)))
 have h3 := zYa (BitVec.ofInt 32 (Int.fdiv (m : Int) (2 ^ 8)))
 have h4 := zYa (BitVec.ofInt 32 (m : Int))
 refine zL zBo mixed Tryd.func49 rfl ?_
 focus
  refine zB (zA rfl (v0s (veT (zB (vd [0, 1, 2, 3, 4, 5, 6, 7, 8, 9, 10, 11, 12, 13, 14, 15, 16, 17, 18] (vr 6 ((0 : Int) ≤ (24 : Int) ∧ ((0 : Int) ≤ Int.fdiv (↑m : Int) ((2 : Int) ^ 24) ∧ Int.fdiv (↑m : Int) ((2 : Int) ^ 24) < (↑(256 : Nat) : Int)) ∧ (0 : Int) ≤ (16 : Int) ∧ True) (vs 8 (D.val (Value.int IntKind.u32 (IntKind.wrap IntKind.u32 (↑(BitVec.toNat (BitVec.ofInt 32 (Int.fdiv (↑m : Int) ((2 : Int) ^ 16)) &&& BitVec.ofInt 32 (255 : Int))) : Int)))) (dig (BitVec.toNat (BitVec.ofInt 32 (Int.fdiv (↑m : Int) ((2 : Int) ^ 16)) &&& BitVec.ofInt 32 (255 : Int)))) (by simp (disch := omega) only [zBa]) (vw 5 [10] [] (((0 : Int) ≤ (↑(BitVec.toNat (BitVec.ofInt 32 (Int.fdiv (↑m : Int) ((2 : Int) ^ 16)) &&& BitVec.ofInt 32 (255 : Int))) : Int) ∧ (↑(BitVec.toNat (BitVec.ofInt 32 (Int.fdiv (↑m : Int) ((2 : Int) ^ 16)) &&& BitVec.ofInt 32 (255 : Int))) : Int) < (↑(256 : Nat) : Int)) ∧ True ∧ (0 : Int) ≤ (8 : Int) ∧ True) (vs 13 (D.val (Value.int IntKind.u32 (IntKind.wrap IntKind.u32 (↑(BitVec.toNat (BitVec.ofInt 32 (Int.fdiv (↑m : Int) ((2 : Int) ^ 8)) &&& BitVec.ofInt 32 (255 : Int))) : Int)))) (dig (BitVec.toNat (BitVec.ofInt 32 (Int.fdiv (↑m : Int) ((2 : Int) ^ 8)) &&& BitVec.ofInt 32 (255 : Int)))) (by simp (disch := omega) only [zBa]) (vw 4 [15] [] (((0 : Int) ≤ (↑(BitVec.toNat (BitVec.ofInt 32 (Int.fdiv (↑m : Int) ((2 : Int) ^ 8)) &&& BitVec.ofInt 32 (255 : Int))) : Int) ∧ (↑(BitVec.toNat (BitVec.ofInt 32 (Int.fdiv (↑m : Int) ((2 : Int) ^ 8)) &&& BitVec.ofInt 32 (255 : Int))) : Int) < (↑(256 : Nat) : Int)) ∧ True ∧ True) (vs 17 (D.val (Value.int IntKind.u32 (IntKind.wrap IntKind.u32 (↑(BitVec.toNat (BitVec.ofInt 32 (↑m : Int) &&& BitVec.ofInt 32 (255 : Int))) : Int)))) (dig (BitVec.toNat (BitVec.ofInt 32 (↑m : Int) &&& BitVec.ofInt 32 (255 : Int)))) (by simp (disch := omega) only [zBa]) (vew [19, 20] [] (((0 : Int) ≤ (↑(BitVec.toNat (BitVec.ofInt 32 (↑m : Int) &&& BitVec.ofInt 32 (255 : Int))) : Int) ∧ (↑(BitVec.toNat (BitVec.ofInt 32 (↑m : Int) &&& BitVec.ofInt 32 (255 : Int))) : Int) < (↑(256 : Nat) : Int)) ∧ True ∧ True) (zM ?_)))))))))))))
  refine vret (True) (.inr rfl)
theorem popc_c (m : Nat) (hm : m < 4294967296) : ∃ k : Nat, Pure Tryd.prog 49 [u32D m] [] (iD (k : Nat)) := by
 have h := popW_c m hm
 generalize IntKind.u8.wrap (popB (Int.fdiv (m : Int) (2 ^ 24)).toNat + popB (BitVec.ofInt 32 (Int.fdiv (m : Int) (2 ^ 16)) &&& BitVec.ofInt 32 255).toNat) + popB (BitVec.ofInt 32 (Int.fdiv (m : Int) (2 ^ 8)) &&& BitVec.ofInt 32 255).toNat = a at h
 have r := u8_rng (IntKind.u8.wrap a + popB (BitVec.ofInt 32 (m : Int) &&& BitVec.ofInt 32 255).toNat)
 generalize IntKind.u8.wrap (IntKind.u8.wrap a + popB (BitVec.ofInt 32 (m : Int) &&& BitVec.ofInt 32 255).toNat) = b at h r
 rw [zCy (k := .i64) (by simp only [inK]; omega)] at h
 refine ⟨b.toNat, ?_⟩
 rw [Int.toNat_of_nonneg r.1]
 exact h
noncomputable def popN (m : Nat) : Nat := if hm : m < 4294967296 then Classical.choose (popc_c m hm) else 0
theorem popN_c (m : Nat) (hm : m < 4294967296) : Pure Tryd.prog 49 [u32D m] [] (iD (popN m : Nat)) := by
 unfold popN
 rw [dif_pos hm]
 exact Classical.choose_spec (popc_c m hm)
end
section
open Go.RowKit
attribute [local irreducible] seqW awp zAf zAo zAg Weak updS zAw retL Pure Acts rP setP setQ cP nP fr
set_option maxRecDepth 4096
theorem max_nat (a b : Nat) : (if ((b : Nat) : Int) > (a : Nat) then ((b : Nat) : Int) else ((a : Nat) : Int)) = ((max a b : Nat) : Int) := by split <;> omega
theorem zVu {α : Type} (v : Nat) (fs : List (Fa α)) (k : Nat) (h : k < fs.length) : uniM v (fs.take (k + 1)) = if v ∈ (fs.getD k default).A then uniM v (fs.take k) ||| msk (fs.getD k default).A else uniM v (fs.take k) := by
 rw [zCi fs k h]
 unfold uniM
 rw [List.foldl_append]
 rfl
theorem zX1 {α : Type} (v : Nat) (fs : List (Fa α)) (k : Nat) (h : k < fs.length) : bigL v (fs.take (k + 1)) = if v ∈ (fs.getD k default).A then max (bigL v (fs.take k)) (fs.getD k default).A.length else bigL v (fs.take k) := by
 rw [zCi fs k h]
 unfold bigL
 rw [List.foldl_append]
 rfl
theorem zQs {α : Type} (v : Nat) : ∀ (fs : List (Fa α)) (m : Nat), m < 4294967296 → (∀ f ∈ fs, ∀ w ∈ f.A, w < 32) → fs.foldl (fun m f => if v ∈ f.A then m ||| msk f.A else m) m < 4294967296
 | [], m, h, _ => h
 | f :: fs, m, h, hf => by
  rw [List.foldl_cons]
  refine zQs v fs _ ?_ fun g hg => hf g (List.mem_cons_of_mem _ hg)
  split
  ·exact zT1 h (zDi (hf f (List.mem_cons_self ..)))
  ·exact h
theorem ch_succ {α : Type} (fs : List (Fa α)) (E : List Nat) (i : Nat) (h : i < E.length) (s0 : Int × Nat) : (E.take (i + 1)).foldl (zE9 popN fs) s0 = zE9 popN fs ((E.take i).foldl (zE9 popN fs) s0) (E.getD i 0) := by
 rw [List.take_succ_eq_append_getElem h, List.foldl_append, List.getD_eq_getElem?_getD, List.getElem?_eq_getElem h]
 rfl
set_option maxHeartbeats 8000000 in
theorem zVk (fs : List (Fa Nat)) (E : List Nat) (hE : Asc E) (hne : E ≠ []) (hA : ∀ f ∈ fs, Asc f.A) (hl : fs.length ≤ 1000) :
  Pure Tryd.prog 31 [.row (fs.flatMap faAc) fs.length, u32D (msk E)] [] (iD (zBh popN fs E : Nat)) := by
 have hm := zPq (msk E) (zDi hE.2)
 rw [zKl hE] at hm
 have nE := zBn hE
 refine zL zBo mixed Tryd.func31 rfl ?_
 focus
  refine zB (zA rfl (v0s (veT (zB (zA rfl (veT (zB (zB (zA rfl (vrT 1 (vc hm (veT (zF ?_)))))))))))))
  rotate_left
 refine zA4 (fun (i : Nat) (b : Int) (l : Nat) => fr 59 [(0, D.row (List.flatMap faAc fs) (List.length fs)), (4, iD 0), (5, iD b), (6, iD ↑l), (15, (q4_ E)), (16, iD ↑(List.length E)), (17, iD ↑i)]) (fun (i : Nat) (b : Int) (l : Nat) => []) (fun i b l => E.length - i) (fun (i : Nat) (b : Int) (l : Nat) => i ≤ E.length ∧ (b, l) = (E.take i).foldl (zE9 popN fs) (-1, 0)) 0 (-1) 0 ?_ ?_ ?_
 ·exact ⟨by omega, rfl⟩
 ·refine vk 0
 rintro i b l ⟨h1, h2⟩
 rcases Nat.lt_or_ge i E.length with h3 | h3
 ·have hz := zAi E i h3
  have hneE : nsD E ≠ [] := zY (by omega)
  have hst := ch_succ fs E i h3 (-1, 0)
  rw [← h2] at hst
  have hv32 := hE.2 _ (zDk E i h3)
  generalize E.getD i 0 = v at *
  focus
   refine zB (zA rfl (v0s (veT (zB (vT ((↑i : Int) < ↑(List.length E)) (zG (zC (zD (zB (zF (zB (zA rfl (vr 1 (ix ↑i ↑(List.length E) (nsD E ≠ [])) ?_)))))))))))))
   refine vp 19 i (nsD E) (vr 1 (0 < List.length (List.drop i (nsD E))) (vsh 20 hz (veT (zB (zA rfl (veT (zB (zA rfl (veT (zB (zB (zA rfl (veT ?_)))))))))))))
   refine zF ?_
   rotate_left
  refine zW (fun (k : Nat) => fr 59 [(0, D.row (List.flatMap faAc fs) (List.length fs)), (4, iD 0), (5, iD b), (6, iD ↑l), (8, iD ↑v), (9, u32D (uniM v (List.take k fs))), (10, iD (↑(bigL v (List.take k fs)) : Int)), (15, (q4_ E)), (16, iD ↑(List.length E)), (17, iD ↑i), (21, D.row (List.flatMap faAc fs) (List.length fs)), (22, iD ↑(List.length fs)), (23, iD ↑k)]) (fun (k : Nat) => []) (fun k => fs.length - k) (fun (k : Nat) => k ≤ fs.length) 0 ?_ ?_ ?_
  ·omega
  ·refine vk 0
  rintro k k1
  rcases Nat.lt_or_ge k fs.length with k2 | k2
  ·have hmf := zAt fs default k k2
   have hg2 := zFw zAm fs k k2
   have hle := zJf zAm fs k k2
   have hne2 := zJe zAm (by decide) fs (by omega)
   have hAf := hA _ hmf
   have nAf := zBn hAf
   have u1 := zVu v fs k k2
   have u2 := zX1 v fs k k2
   have u3 : uniM v (fs.take k) < 4294967296 := zQs v (fs.take k) 0 (by omega) fun f hf => (hA f (List.mem_of_mem_take hf)).2
   have sA := zL2 (fs.getD k default).A _ rfl (by omega) hAf.2 (rwsD (fs.getD k default).l) (vlsD (fs.getD k default).l) (fs.getD k default).l.length (fs.getD k default).l.length
   have hma := zDi hAf.2
   have w1 := bit_b hma v
   have w2 := bit_w hma v
   rw [zBx] at w1 w2
   have w3 := zEv (msk (fs.getD k default).A) hv32
   have w4 := bv_or u3 hma
   have w5 := zCr (zT1 u3 hma)
   have w6 := max_nat (bigL v (fs.take k)) (fs.getD k default).A.length
   generalize fs.getD k default = f at *
   focus
    refine zB (zA rfl (v0s (veT (zB (vT ((↑k : Int) < ↑(List.length fs)) (zG (zC (zD (zB (zF (zB (zA rfl (vr 2 (ix ↑k ↑(List.length fs) (List.flatMap faAc fs ≠ []) ∧ 3 ≤ List.length (List.drop (k * 3) (List.flatMap faAc fs))) ?_)))))))))))))
    refine vs 26 (D.agg (List.take 3 (List.drop (k * 3) (List.flatMap faAc fs)))) (D.agg (faAc f)) (by simp (disch := omega) only [hg2]) (ve (false = false ∧ true = true ∧ 3 = 3 ∧ 3 ≤ 3) (zB (zA rfl (vr 1 (3 ≤ 3) (vc sA (vr 2 ((0 : Int) ≤ (↑v : Int)) (vs 30 (D.val (Value.int IntKind.u32 (Int.fdiv (↑(msk (Fa.A f)) : Int) ((2 : Int) ^ min (Int.toNat (↑v : Int)) 32)))) (dig (msk (Fa.A f) >>> v)) (by simp (disch := omega) only [Int.toNat_natCast, w3]) (vrT 1 (vs 31 (D.val (Value.int IntKind.u32 (IntKind.wrap IntKind.u32 (↑(BitVec.toNat (BitVec.ofInt 32 (↑(msk (Fa.A f) >>> v) : Int) &&& BitVec.ofInt 32 (1 : Int))) : Int)))) (dig (BitVec.toNat (BitVec.ofInt 32 (↑(msk (Fa.A f) >>> v) : Int) &&& BitVec.ofInt 32 (1 : Int)))) (by simp (disch := omega) only [zBa]) (vrT 1 (vs 32 (bD ((↑(BitVec.toNat (BitVec.ofInt 32 (↑(msk (Fa.A f) >>> v) : Int) &&& BitVec.ofInt 32 (1 : Int))) : Int) == (1 : Int))) (bD (decide (v ∈ Fa.A f))) (by simp (disch := omega) only [w1]) (veT ?_))))))))))))
    refine zR (t := decide (v ∈ Fa.A f)) (by kernel_rfl) (fun hc => ?_) (fun hc => ?_)
    simp only [decide_eq_true_eq] at hc
    refine zB (zA rfl (vr 2 (3 ≤ 3) (vc sA (vrT 1 (vs 36 (D.val (Value.int IntKind.u32 (IntKind.wrap IntKind.u32 (↑(BitVec.toNat (BitVec.ofInt 32 (↑(uniM v (List.take k fs)) : Int) ||| BitVec.ofInt 32 (↑(msk (Fa.A f)) : Int))) : Int)))) (dig (uniM v (List.take k fs) ||| msk (Fa.A f))) (by simp (disch := omega) only [w5, w4]) (veT (zA rfl (vr 5 (True ∧ 0 < 3) (vs 41 (iD (if (↑(List.length (Fa.A f)) : Int) > (↑(bigL v (List.take k fs)) : Int) then (↑(List.length (Fa.A f)) : Int) else (↑(bigL v (List.take k fs)) : Int))) (iD (↑(max (bigL v (List.take k fs)) (List.length (Fa.A f))) : Int)) (by simp (disch := omega) only [w6]) (vrT 1 (vnil (zE (zC ?_)))))))))))))
    refine zD (zA rfl (vr 2 (i6 (↑k + 1)) (vnil (zC ?_))))
    rotate_left
    simp only [decide_eq_false_iff_not] at hc
    refine zG (zE (zC (zD (zA rfl (vr 2 (i6 (↑k + 1)) (vnil (zC ?_)))))))
    rotate_left
   ·rw [if_pos hc] at u1 u2
    refine ⟨k + 1, by omega, by omega, ?_⟩
    rw [u1, u2]
    refine vk 0
   ·rw [if_neg hc] at u1 u2
    refine ⟨k + 1, by omega, by omega, ?_⟩
    rw [u1, u2]
    refine vk 0
  ·obtain rfl : k = fs.length := by omega
   have u3 : uniM v fs < 4294967296 := zQs v fs 0 (by omega) fun f hf => (hA f hf).2
   have hp := popN_c (uniM v fs) u3
   rw [List.take_length]
   have hco : zNb popN fs v = if popN (uniM v fs) = bigL v fs then 0 else popN (uniM v fs) := rfl
   unfold zE9 at hst
   generalize popN (uniM v fs) = q at *
   focus
    refine zB (zA rfl (v0s (veT (zB (vF ((↑(List.length fs) : Int) < ↑(List.length fs)) (zQ (zH (zH (zP rfl (zC (zD (zB (zA rfl ?_)))))))))))))
    refine vrT 1 (vc hp (veT (zB (zB (zA rfl (veT ?_))))))
    refine zR (t := (↑q : Int) == ↑(bigL v fs)) (by kernel_rfl) (fun hc => ?_) (fun hc => ?_)
    simp only [beq_iff_eq] at hc
    refine zA rfl (veT (zB (zA rfl (vrT 3 ?_))))
    refine vsp 50 (decide (b < 0)) (fun hc => ?_) (fun hc => ?_)
    simp only [decide_eq_true_eq] at hc
    refine veT (vt (zA rfl (vrT 4 (vnil (zE (zC (zD (zA rfl (vr 2 (i6 (↑i + 1)) (vnil (zC ?_)))))))))))
    rotate_left
    simp only [decide_eq_false_iff_not] at hc
    refine veT ?_
    refine zR (t := decide ((0 : Int) < (↑l : Int))) (by kernel_rfl) (fun hc => ?_) (fun hc => ?_)
    simp only [decide_eq_true_eq] at hc
    refine zA rfl (vrT 4 (vnil (zE (zC (zD (zA rfl (vr 2 (i6 (↑i + 1)) (vnil (zC ?_)))))))))
    rotate_left
    simp only [decide_eq_false_iff_not] at hc
    refine zG (zE (zC (zD (zA rfl (vr 2 (i6 (↑i + 1)) (vnil (zC ?_)))))))
    rotate_left
    simp only [beq_eq_false_iff_ne] at hc
    refine zG (zC (zD (zB (zA rfl (vrT 3 ?_)))))
    refine vsp 50 (decide (b < 0)) (fun hc => ?_) (fun hc => ?_)
    simp only [decide_eq_true_eq] at hc
    refine veT (vt (zA rfl (vrT 4 (vnil (zE (zC (zD (zA rfl (vr 2 (i6 (↑i + 1)) (vnil (zC ?_)))))))))))
    rotate_left
    simp only [decide_eq_false_iff_not] at hc
    refine veT ?_
    refine zR (t := decide ((↑q : Int) < ↑l)) (by kernel_rfl) (fun hc => ?_) (fun hc => ?_)
    simp only [decide_eq_true_eq] at hc
    refine zA rfl (vrT 4 (vnil (zE (zC (zD (zA rfl (vr 2 (i6 (↑i + 1)) (vnil (zC ?_)))))))))
    rotate_left
    simp only [decide_eq_false_iff_not] at hc
    refine zG (zE (zC (zD (zA rfl (vr 2 (i6 (↑i + 1)) (vnil (zC ?_)))))))
    rotate_left
   ·have e : zNb popN fs v = 0 := by rw [hco, if_pos (by omega)]
    rw [e, if_pos (by simp only; omega)] at hst
    refine ⟨i + 1, (v : Int), 0, ⟨by omega, hst.symm⟩, by omega, ?_⟩
    refine vk 0
   ·have e : zNb popN fs v = 0 := by rw [hco, if_pos (by omega)]
    rw [e, if_pos (by simp only; omega)] at hst
    refine ⟨i + 1, (v : Int), 0, ⟨by omega, hst.symm⟩, by omega, ?_⟩
    refine vk 0
   ·have e : zNb popN fs v = 0 := by rw [hco, if_pos (by omega)]
    rw [e, if_neg (by simp only; omega)] at hst
    refine ⟨i + 1, b, l, ⟨by omega, hst.symm⟩, by omega, ?_⟩
    refine vk 0
   ·have e : zNb popN fs v = q := by rw [hco, if_neg (by omega)]
    rw [e, if_pos (by simp only; omega)] at hst
    refine ⟨i + 1, (v : Int), q, ⟨by omega, hst.symm⟩, by omega, ?_⟩
    refine vk 0
   ·have e : zNb popN fs v = q := by rw [hco, if_neg (by omega)]
    rw [e, if_pos (by simp only; omega)] at hst
    refine ⟨i + 1, (v : Int), q, ⟨by omega, hst.symm⟩, by omega, ?_⟩
    refine vk 0
   ·have e : zNb popN fs v = q := by rw [hco, if_neg (by omega)]
    rw [e, if_neg (by simp only; omega)] at hst
    refine ⟨i + 1, b, l, ⟨by omega, hst.symm⟩, by omega, ?_⟩
    refine vk 0
 ·rw [List.take_of_length_le (by omega)] at h2
  have hcm := (zK6 popN fs hne).2
  rw [← h2] at hcm
  focus
   refine zB (zA rfl (v0s (veT (zB (vF ((↑i : Int) < ↑(List.length E)) (zQ (zH (zH (zP rfl (zC (zD (zB (zA rfl ?_)))))))))))))
   refine veT (zM ?_)
   refine vre (True) (D.val (Value.int IntKind.i64 b)) (.inr rfl) ?_
   rotate_left
  rw [← hcm]
end
section
open Go.RowKit
set_option maxRecDepth 4096
abbrev fsB (l : List D) : Bk := ⟨l, 30, 3, true, false, .plain⟩
theorem grow_c (n : Nat) (hn : 0 < n) (hb : n ≤ 1000000) : Pure Tryd.prog 63 [nl, iD (n : Nat)] [fsB []] (.osl 0 0 0 0 true) := by
 obtain ⟨i0, hi0⟩ : ∃ i0, Tryd.prog.info? 30 = some i0 ∧ i0.size = 3 ∧ i0.bytes = 72 ∧ i0.zero = some (.agg #[.slice none 0 0, .slice none 0 0, .slice none 0 0]) := ⟨(Tryd.prog.info? 30).getD default, by kernel_rfl, by kernel_rfl, by kernel_rfl, by kernel_rfl⟩
 obtain ⟨h1, h2, h3, h4⟩ := hi0
 intro I w vs hr hi hg
 rw [zGi [.slice none 0 0, .int .i64 n] vs hr]
 have hc := Any8.slices_Grow_grow Tryd.grow63 i0 _ h1 h4 (by omega) none 0 0 n [] w (Nat.le_refl _) (by omega) (by rw [h3]; omega) (by omega) (by simp) (fun _ => rfl) (fun a h => by cases h)
 have hge := grownCap_ge w (0 + n) 0 (Tryd.grow63_ren.t 25)
 have hmx := grownCap_le_maxLen w (0 + n) 0 (Tryd.grow63_ren.t 25) (by unfold maxLen; omega)
 generalize grownCap w (0 + n) 0 (Tryd.grow63_ren.t 25) = G at *
 refine hc.mono ?_
 rintro e w' ⟨rfl, rfl⟩
 have key : ∀ {k b c : Nat}, (if k = 0 then some (w.heap.size, G) else none) = some (b, c) → k = 0 ∧ b = w.heap.size ∧ c = G := fun {k b c} h => by
  split at h
  ·rename_i e; cases h; exact ⟨e, rfl, rfl⟩
  ·cases h
 have hext : ∀ o, Ext w (w.drew.alloc o) := fun o => (Ext.drew w).trans (Ext.alloc _ o)
 refine ⟨_, I, fun k => if k = 0 then some (w.heap.size, G) else none, rfl, hext _, fun b o hb => Nat.lt_of_lt_of_le (hi b o hb) (hext _).size, Fix.ext (hext _) fun _ _ h => h, fun _ _ h => .inl h, fun k b c h => ?_, fun k b c h => ?_, fun k k' b c c' h h' => ?_, fun k b c j e h he hij => ?_, fun k y h => ?_, ?_, by simp⟩
 ·exact Nat.le_of_eq (key h).2.1.symm
 ·obtain ⟨rfl, rfl, rfl⟩ := key h
  refine ⟨fsB [], rfl, OwnC.r ⟨(#[] ++ Builtin.zeroCells (Value.agg #[Value.slice none 0 0, Value.slice none 0 0, Value.slice none 0 0]).cells (0 + n - 0) ++ Builtin.zeroCells (Value.agg #[Value.slice none 0 0, Value.slice none 0 0, Value.slice none 0 0]).cells (c - (0 + n))).toList, ?_, Nat.zero_le _, ?_, fun _ => ?_, hmx⟩ rfl⟩
  ·rw [Array.toArray_toList]
   exact heap_alloc_new w.drew _
  ·rfl
  ·rw [Array.length_toList, Array.size_append, Array.size_append, size_zeroCells, size_zeroCells, show (Value.agg #[Value.slice none 0 0, Value.slice none 0 0, Value.slice none 0 0]).cells.size = 3 from rfl]
   simp only [List.size_toArray, List.length_nil]
   show _ = c * 3
   omega
 ·rw [(key h).1, (key h').1]
 ·have := hi b j hij
  have := (key h).2.1
  omega
 ·have := (key h).1
  simp; omega
 ·simp only [Rel]
  exact .inr (.inr ⟨w.heap.size, G, G, rfl, rfl, Nat.zero_le _, hmx, fun _ => by simp⟩)
theorem grow0_c : Pure Tryd.prog 63 [nl, iD ((0 : Nat) : Int)] [] nl :=
 zEe (us := [.slice none 0 0, .int .i64 ((0 : Nat) : Int)]) (fun w => (Any8.slices_Grow_room Tryd.grow63 none 0 0 0 w (by omega) (by omega) (by omega) (by omega)).mono fun e w' h => ⟨h.1, h.2.symm⟩)
end
section
open Go.RowKit
attribute [local irreducible] seqW awp zAf zAo zAg Weak updS zAw retL Pure Acts rP setP setQ cP nP fr
set_option maxRecDepth 4096
set_option maxHeartbeats 2000000 in
theorem concat_c (a b : List D) (n m : Nat) (ha : a.length = n * 3) (hb : b.length = m * 3) (hn : n ≤ 1000) (hm : m ≤ 1000) (n1 : ∀ d ∈ a, True) : Pure Tryd.prog 50 [.row [.row a n, .row b m] 2] [] (.row (a ++ b) (n + m)) := by
 have zadd : (n : Int) + (m : Int) = ((n + m : Nat) : Int) := by omega
 have ht : (a ++ b).take ((n + m) * 3) = a ++ b := List.take_of_length_le (by rw [List.length_append]; omega)
 rcases Nat.eq_zero_or_pos (n + m) with h | h
 ·obtain rfl : n = 0 := by omega
  obtain rfl : m = 0 := by omega
  obtain rfl : a = [] := List.eq_nil_of_length_eq_zero (by omega)
  obtain rfl : b = [] := List.eq_nil_of_length_eq_zero (by omega)
  refine zL zBo mixed Tryd.func50 rfl ?_
  focus
   refine zB (zA rfl (v0s (veT (zB (zA rfl (veT (zB (zB (zA rfl (veT (zF (zAr (zB ?_)))))))))))))
   refine zA rfl (veT (zB (vt (zG (zC (zD (zB (zF (zB (zA rfl (ve (ix (0 : Int) (↑(2 : Nat) : Int) ([D.row [] 0, D.row [] 0] ≠ []) ∧ 0 < 2) (zB (zA rfl ?_)))))))))))))
   refine ve (i6 ((0 : Int) + (↑(0 : Nat) : Int))) (zB (zA rfl (veT (vf (zG (zE (zC (zD (zA rfl (vr 2 (i6 ((0 : Int) + (1 : Int))) (vnil (zC (zAr ?_)))))))))))))
   refine zB (zA rfl (veT (zB (vt (zG (zC (zD (zB (zF (zB (zA rfl (ve (ix (1 : Int) (↑(2 : Nat) : Int) ([D.row [] 0, D.row [] 0] ≠ []) ∧ 0 < 1) (zB ?_)))))))))))))
   refine zA rfl (ve (i6 ((0 : Int) + (↑(0 : Nat) : Int) + (↑(0 : Nat) : Int))) (zB (zA rfl (veT (vf (zG (zE (zC (zD (zA rfl (vr 2 (i6 ((1 : Int) + (1 : Int))) (vnil (zC ?_)))))))))))))
   refine zAr (zB (zA rfl (veT (zB (vf (zQ (zH (zH (zP rfl (zC (zD (zB (zA rfl ?_)))))))))))))
   refine vrT 1 (vc grow0_c (veT (zB (zB (zA rfl (veT (zF (zAr (zB (zA rfl (veT (zB (vt ?_)))))))))))))
   refine zG (zC (zD (zB (zF (zB (zA rfl (ve (ix (0 : Int) (↑(2 : Nat) : Int) ([D.row [] 0, D.row [] 0] ≠ []) ∧ 0 < 2) (zA rfl (vr 4 (0 = 0 ∧ 0 < 3 ∧ 0 < 72 ∧ 30 = 30 ∧ 0 ≤ 140737488355328 ∧ 3 = 3) (vnil (zE (zC (zD ?_)))))))))))))
   refine zA rfl (vr 2 (i6 ((0 : Int) + (1 : Int))) (vnil (zC (zAr (zB (zA rfl (veT (zB (vt (zG (zC (zD (zB ?_)))))))))))))
   refine zF (zB (zA rfl (ve (ix (1 : Int) (↑(2 : Nat) : Int) ([D.row [] 0, D.row [] 0] ≠ []) ∧ 0 < 1) (zA rfl (vr 4 (true = true ∧ 0 = 0 ∧ 0 = 0 ∧ 30 = 30 ∧ 3 = 3 ∧ 0 = 0 ∧ 0 < 3 ∧ 0 < 72 ∧ 30 = 30 ∧ 0 ≤ 140737488355328 ∧ 3 = 3 ∧ false = false ∧ (false = false ∨ false = true)) (vnil (zE (zC (zD (zA rfl (vr 2 (i6 ((1 : Int) + (1 : Int))) (vnil (zC ?_)))))))))))))
   refine zAr (zB (zA rfl (veT (zB (vf (zQ (zH (zH (zP rfl (zC (zD (zB (zA rfl ?_)))))))))))))
   refine veT (zM (vret (True) (.inr rfl)))
 ·have hg := grow_c (n + m) h (by omega)
  refine zL zBo mixed Tryd.func50 rfl ?_
  focus
   refine zB (zA rfl (v0s (veT (zB (zA rfl (veT (zB (zB (zA rfl (veT (zF (zAr (zB ?_)))))))))))))
   refine zA rfl (veT (zB (vt (zG (zC (zD (zB (zF (zB (zA rfl (ve (ix (0 : Int) (↑(2 : Nat) : Int) ([D.row a n, D.row b m] ≠ []) ∧ 0 < 2) (zB (zA rfl ?_)))))))))))))
   refine vr 4 (i6 ((0 : Int) + (↑n : Int))) (vs 18 (iD ((0 : Int) + (↑n : Int))) (iD ↑n) (by simp (disch := omega) only [Int.zero_add]) (veT (zB (zA rfl (veT (vF ((↑n : Int) < 0) (zG (zE (zC (zD (zA rfl (vr 2 (i6 ((0 : Int) + (1 : Int))) (vnil ?_)))))))))))))
   refine zC (zAr (zB (zA rfl (veT (zB (vt (zG (zC (zD (zB (zF (zB (zA rfl ?_)))))))))))))
   refine ve (ix (1 : Int) (↑(2 : Nat) : Int) ([D.row a n, D.row b m] ≠ []) ∧ 0 < 1) (zB (zA rfl (ve (i6 ((↑n : Int) + (↑m : Int))) (zB (zA rfl (veT (vF ((↑(n + m) : Int) < 0) (zG (zE (zC (zD (zA rfl (vr 2 (i6 ((1 : Int) + (1 : Int))) ?_)))))))))))))
   refine vnil (zC (zAr (zB (zA rfl (veT (zB (vf (zQ (zH (zH (zP rfl (zC (zD ?_)))))))))))))
   refine zB (zA rfl (vrT 1 (vn hg (veT (zB (zB (zA rfl (veT (zF (zAr (zB (zA rfl (veT ?_)))))))))))))
   refine zB (vt (zG (zC (zD (zB (zF (zB (zA rfl (ve (ix (0 : Int) (↑(2 : Nat) : Int) ([D.row a n, D.row b m] ≠ []) ∧ 0 < 2) (zA rfl (vr 4 (true = true ∧ 0 = 0 ∧ 0 = 0 ∧ 30 = 30 ∧ 3 = 3 ∧ List.length a = n * 3 ∧ 0 < 3 ∧ 0 < 72 ∧ 30 = 30 ∧ (0 + n) * 72 ≤ 140737488355328 ∧ 3 = 3 ∧ false = false ∧ (false = false ∨ false = true)) (vs 6 (D.osl 0 0 (0 + n) ((0 + n) * 3) true) (D.osl 0 0 n (n * 3) true) (by simp (disch := omega) only [Nat.zero_add]) (vnil ?_)))))))))))))
   refine zE (zC (zD (zA rfl (vr 2 (i6 ((0 : Int) + (1 : Int))) (vnil (zC (zAr (zB (zA rfl (veT (zB (vt (zG ?_)))))))))))))
   refine zC (zD (zB (zF (zB (zA rfl (ve (ix (1 : Int) (↑(2 : Nat) : Int) ([D.row a n, D.row b m] ≠ []) ∧ 0 < 1) (zA rfl (vr 4 (Bk.arr (Bk.mk a 30 3 true false Kd.plain) = true ∧ List.length a = n * 3 ∧ n * 3 = n * 3 ∧ Bk.ty (Bk.mk a 30 3 true false Kd.plain) = 30 ∧ Bk.sz (Bk.mk a 30 3 true false Kd.plain) = 3 ∧ List.length b = m * 3 ∧ 0 < 3 ∧ 0 < 72 ∧ 30 = 30 ∧ (n + m) * 72 ≤ 140737488355328 ∧ 3 = 3 ∧ Kd.isMap (Bk.kd (Bk.mk a 30 3 true false Kd.plain)) = false ∧ (false = false ∨ Kd.isSh (Bk.kd (Bk.mk a 30 3 true false Kd.plain)) = true)) (vnil (zE (zC (zD (zA rfl ?_)))))))))))))
   refine vr 2 (i6 ((1 : Int) + (1 : Int))) (vnil (zC (zAr (zB (zA rfl (veT (zB (vf (zQ (zH (zH (zP rfl (zC ?_)))))))))))))
   refine zD (zB (zA rfl (veT (zM ?_))))
   refine zBm (True) (D.row (List.take ((n + m) * 3) (List.drop 0 (a ++ b))) (n + m)) (D.row (a ++ b) (n + m)) (.inr rfl) (by kernel_rfl) trivial (by simp (disch := omega) only [List.drop_zero, ht]) rfl
theorem zGc {P : Program} {w : World} {ops : Array Oper} {rest : List Oper} {o : Oper} {a : Act} {Q : Exit → Act → World → Prop} (hgd : o.guard = none) (s x : Operand) (t : TypeId)
  (ho : o.op = .call { callee := .builtin .append, args := #[s, x], argTypes := #[t, t] })
  (base : Nat) (e : TypeId) (i : TypeInfo) (z : Value) (size bytes : Nat) (ht : P.underlying t = some (.slice e)) (hi : P.info? e = some i) (hz : i.zero = some z)
  (hsize : i.size = size) (hby : i.bytes = bytes) (hzs : z.cells.size = size) (hsz : 0 < size)
  (v : Value) (n : Nat) (xs : List Value) (hs : a.eval s = v) (hown : w.ownsRow base e size v n xs)
  (ad : Addr) (m c : Nat) (news : List Value) (hx : a.eval x = .slice (some ad) m c) (hl : news.length = m * size) (hnews : ∀ j u, news[j]? = some u → w.cell? (ad.add j) = some u) (h1 : ∀ u ∈ news, u.oneCell' = true)
  (h63 : n + m ≤ maxLen) (hbytes : (n + m) * bytes ≤ 140737488355328) (hbase : base ≤ w.heap.size)
  (h : ∀ v' w', w'.ownsRow base e size v' (n + m) (xs ++ news) → w.grownBy w' v.ownBlock → w.drawn ≤ w'.drawn → wpList P ops Q rest (a.put o.dst v') w') : wpList P ops Q (o :: rest) a w := by
 obtain ⟨v', w', r1, r2, r3, _⟩ := run_append_own w base t o.type e i z size bytes ht hi hz hsize hby hzs hsz v n xs hown ad m c news hl hnews h1 h63 hbytes hbase
 exact Lib.wpList_append_run w hgd s x t t ho _ _ hs hx v' w' r1 (h v' w' r2 r3 (zBu _ _ r1))
theorem zZ5 : (Tryd.prog.info? 30).map (fun i => (i.zero, i.size, i.bytes)) = some (some (.agg #[.slice none 0 0, .slice none 0 0, .slice none 0 0]), 3, 72) := by kernel_rfl
set_option maxHeartbeats 400000 in
theorem clone0_fas : Pure Tryd.prog 30 [.row [] 0] [⟨[], 30, 3, true, false, .plain⟩] (.osl 0 0 0 0 true) := by
 refine zWk fun I w vs hr => ?_
 simp only [RelT, Rel] at hr
 obtain ⟨v, ys, rfl, ⟨a, c, rfl, _, _, hc, _⟩, rfl⟩ := hr
 cases a with
 | none =>
  obtain rfl := hc rfl
  have he := fun (w : World) => Lib.run_eql_slice_nil (P := Tryd.prog) w 38 30 none 0 0 0 0 Tryd.underlying38
  go_enter Tryd.func30, Tryd.ntmps30
  go_wp2
  go_ret
  exact .inl ⟨rfl, Ext.refl _⟩
 | some x =>
  obtain ⟨i0, hi, hz0, hz1, hz2⟩ := info_parts zZ5
  have he := fun (w : World) => Lib.run_eql_slice_nil (P := Tryd.prog) w 38 30 (some x) 0 c 0 0 Tryd.underlying38
  have hS : RowAt (fun _ => True) w (some x) [] := .inl rfl
  go_enter Tryd.func30, Tryd.ntmps30
  go_wp2_with (at_builtin; refine zGc rfl _ _ 38 rfl w.heap.size 30 i0 (.agg #[.slice none 0 0, .slice none 0 0, .slice none 0 0]) 3 72 Tryd.underlying38 hi hz0 hz1 hz2 rfl (by decide) (.slice (some ⟨w.heap.size, 0, none⟩) 0 0) 0 [] rfl (World.ownsRow_made _ #[] 0 (Nat.le_refl _) (Nat.zero_le _) rfl) x 0 c [] rfl (by simp) (by simp) (by simp) (by simp [maxLen]) (by decide) (by simp) ?_; intro v' w' hown hgrow hdr)
  go_ret
  have hext : Ext w w' := ⟨((Below.refl _ _).alloc (Nat.le_refl _) _).grown hgrow (by simp) (by simp [Value.ownBlock]), hdr⟩
  obtain ⟨_, ⟨rfl, _⟩ | ⟨g, cap, cur, rfl, hb, hg, _, hc1, hs, _⟩⟩ := hown
  ·exact .inl ⟨rfl, hext⟩
  ·exact .inr ⟨g, cur.toList, cap, rfl, hb, hext, by rw [Array.toArray_toList]; exact hg, by simpa using hs, hc1⟩
theorem cloneF_c (a : List D) (n : Nat) (ha : a.length = n * 3) (hn : n ≤ 1000) : Pure Tryd.prog 30 [.row a n] [] (.row a n) := by
 by_cases h0 : n = 0
 ·subst h0
  obtain rfl : a = [] := List.eq_nil_of_length_eq_zero (by omega)
  exact clone0_fas.frozen rfl rfl
 have h1 : 0 < n := by omega
 have ht : a.take (n * 3) = a := List.take_of_length_le (by omega)
 refine zL zBo mixed Tryd.func30 rfl ?_
 focus
  refine zB (zA rfl (v0s (veT (zB (zB (zA rfl (ve (0 < n) (vf (zG (zC (zD (zB (zA rfl ?_)))))))))))))
  refine vr 4 ((True ∧ 0 < 3 ∧ 3 = 3 ∧ 0 ≤ 16777216 ∧ 0 ≤ 9223372036854775807) ∧ true = true ∧ 0 = 0 ∧ 0 = 0 ∧ 30 = 30 ∧ 3 = 3 ∧ List.length a = n * 3 ∧ 0 < 3 ∧ 0 < 72 ∧ 30 = 30 ∧ (0 + n) * 72 ≤ 140737488355328 ∧ 3 = 3 ∧ false = false ∧ (false = false ∨ false = true)) (vs 2 (D.osl 0 0 (0 + n) ((0 + n) * 3) true) (D.osl 0 0 n (n * 3) true) (by simp (disch := omega) only [Nat.zero_add]) (veT (zM ?_)))
  refine zBm (True) (D.row (List.take (n * 3) (List.drop 0 a)) n) (D.row a n) (.inr rfl) (by kernel_rfl) trivial (by simp (disch := omega) only [List.drop_zero, ht]) rfl
end
section
open Go.RowKit
attribute [local irreducible] seqW awp zAf zAo zAg Weak updS zAw retL Pure Acts rP setP setQ cP nP fr
set_option maxRecDepth 4096
theorem zL6 (l : List (Fa Nat)) : (l.flatMap faAc).length = l.length * 3 := zP1 zAm l
theorem zVt (v : Nat) (fs : List (Fa Nat)) (k : Nat) (h : k < fs.length) : zFr v (fs.take (k + 1)) = zFr v (fs.take k) ++ (if v ∈ (fs.getD k default).A then [fs.getD k default] else []) ∧ zEb v (fs.take (k + 1)) = zEb v (fs.take k) ++ (if v ∈ (fs.getD k default).A then [] else [fs.getD k default]) := by
 rw [zCi fs k h]
 unfold zFr zEb
 rw [List.filter_append, List.filter_append]
 constructor <;> congr 1 <;> by_cases hc : v ∈ (fs.getD k default).A <;> simp [List.filter_cons, hc]
theorem zKr {α : Type} (l : List α) (x : α) : (l ++ [x]).length = l.length + 1 := by simp
theorem zQ8 (l : List (Fa Nat)) (f : Fa Nat) : (l ++ [f]).flatMap faAc = l.flatMap faAc ++ faAc f := by simp
section
variable {Dm : List Va}
set_option maxHeartbeats 8000000 in
theorem zRc (hD : Okv Dm) (fs : List (Fa Nat)) (v : Nat) (hf : ∀ f ∈ fs, FOk rcmp Dm f) (hl : fs.length ≤ 500) (hr : pz rz fs ≤ 900000) (hz : pz vz fs ≤ 4000000000000000000) (hv : ∃ f ∈ fs, v ∈ f.A) (hv32 : v < 32) :
  Pure Tryd.prog 32 [cntD, .row (fs.flatMap faAc) fs.length, iD (v : Nat)] [] (.row ((elim rcmp Sn v fs).flatMap faAc) (elim rcmp Sn v fs).length) := by
 have hg : ∀ f ∈ fs, Gof Dm f := fun f h => ⟨hf f h, Nat.le_trans (zSb zHy h) hr, Nat.le_trans (zSb zHw h) hz⟩
 refine zL zBo mixed Tryd.func32 rfl ?_
 focus
  refine zB (zA rfl (v0s (veT (zB (zA rfl (veT (zB (zB (zA rfl (veT (zF ?_)))))))))))
  rotate_left
 refine zA4 (fun (k : Nat) (a : List (Fa Nat)) (b : List (Fa Nat)) => fr 65 [(0, cntD), (2, iD ↑v), (6, nl), (7, D.osl 0 0 (List.length a) (List.length a * 3) true), (8, D.osl 1 0 (List.length b) (List.length b * 3) true), (14, D.row (List.flatMap faAc fs) (List.length fs)), (15, iD ↑(List.length fs)), (16, iD ↑k)]) (fun (k : Nat) (a : List (Fa Nat)) (b : List (Fa Nat)) => [fsB (a.flatMap faAc), fsB (b.flatMap faAc)]) (fun k a b => fs.length - k) (fun (k : Nat) (a : List (Fa Nat)) (b : List (Fa Nat)) => k ≤ fs.length ∧ a = zFr v (fs.take k) ∧ b = zEb v (fs.take k)) 0 [] [] ?_ ?_ ?_
 ·exact ⟨by omega, rfl, rfl⟩
 ·refine vk 0
 rintro k a b ⟨h1, ha, hb⟩
 rcases Nat.lt_or_ge k fs.length with h2 | h2
 ·have hmf := zAt fs default k h2
  have hg2 := zFw zAm fs k h2
  have hle := zJf zAm fs k h2
  have hne2 := zJe zAm (by decide) fs (by omega)
  have hAf := (hf _ hmf).asc
  have nAf := zBn hAf
  have sA := zL2 (fs.getD k default).A _ rfl (by omega) hAf.2 (rwsD (fs.getD k default).l) (vlsD (fs.getD k default).l) (fs.getD k default).l.length (fs.getD k default).l.length
  have hma := zDi hAf.2
  have w1 := bit_b hma v
  have w2 := bit_w hma v
  rw [zBx] at w1 w2
  have w3 := zEv (msk (fs.getD k default).A) hv32
  obtain ⟨u1, u2⟩ := zVt v fs k h2
  rw [← ha] at u1
  rw [← hb] at u2
  have la : a.length ≤ 500 := by rw [ha]; exact Nat.le_trans (List.length_filter_le _ _) (by simp; omega)
  have lb : b.length ≤ 500 := by rw [hb]; exact Nat.le_trans (List.length_filter_le _ _) (by simp; omega)
  have ca := zL6 a
  have cb := zL6 b
  generalize fs.getD k default = f at *
  focus
   refine zB (zA rfl (v0s (veT (zB (vT ((↑k : Int) < ↑(List.length fs)) (zG (zC (zD (zB (zF (zB (zA rfl (vr 2 (ix ↑k ↑(List.length fs) (List.flatMap faAc fs ≠ []) ∧ 3 ≤ List.length (List.drop (k * 3) (List.flatMap faAc fs))) ?_)))))))))))))
   refine vs 19 (D.agg (List.take 3 (List.drop (k * 3) (List.flatMap faAc fs)))) (D.agg (faAc f)) (by simp (disch := omega) only [hg2]) (ve (false = false ∧ true = true ∧ 3 = 3 ∧ 3 ≤ 3) (zB (zA rfl (vr 1 (3 ≤ 3) (vc sA (vr 2 ((0 : Int) ≤ (↑v : Int)) (vs 23 (D.val (Value.int IntKind.u32 (Int.fdiv (↑(msk (Fa.A f)) : Int) ((2 : Int) ^ min (Int.toNat (↑v : Int)) 32)))) (dig (msk (Fa.A f) >>> v)) (by simp (disch := omega) only [Int.toNat_natCast, w3]) (vrT 1 (vs 24 (D.val (Value.int IntKind.u32 (IntKind.wrap IntKind.u32 (↑(BitVec.toNat (BitVec.ofInt 32 (↑(msk (Fa.A f) >>> v) : Int) &&& BitVec.ofInt 32 (1 : Int))) : Int)))) (dig (BitVec.toNat (BitVec.ofInt 32 (↑(msk (Fa.A f) >>> v) : Int) &&& BitVec.ofInt 32 (1 : Int)))) (by simp (disch := omega) only [zBa]) (vrT 1 (vs 25 (bD ((↑(BitVec.toNat (BitVec.ofInt 32 (↑(msk (Fa.A f) >>> v) : Int) &&& BitVec.ofInt 32 (1 : Int))) : Int) == (1 : Int))) (bD (decide (v ∈ Fa.A f))) (by simp (disch := omega) only [w1]) (veT ?_))))))))))))
   refine zR (t := decide (v ∈ Fa.A f)) (by kernel_rfl) (fun hc => ?_) (fun hc => ?_)
   simp only [decide_eq_true_eq] at hc
   refine zA rfl (vr 5 (3 ≤ 3 ∧ ((3 = 3 ∧ 3 ≤ 3 ∧ True) ∧ 0 < 3 ∧ 3 = 3 ∧ 3 ≤ 16777216 ∧ 1 ≤ 9223372036854775807) ∧ Bk.arr (fsB (List.flatMap faAc a)) = true ∧ List.length (Bk.cells (fsB (List.flatMap faAc a))) = List.length a * 3 ∧ List.length a * 3 = List.length a * 3 ∧ Bk.ty (fsB (List.flatMap faAc a)) = 30 ∧ Bk.sz (fsB (List.flatMap faAc a)) = 3 ∧ 3 = 3 ∧ 0 < 3 ∧ 0 < 72 ∧ 30 = 30 ∧ (List.length a + 1) * 72 ≤ 140737488355328 ∧ 3 = 3 ∧ Kd.isMap (Bk.kd (fsB (List.flatMap faAc a))) = false ∧ (false = false ∨ Kd.isSh (Bk.kd (fsB (List.flatMap faAc a))) = true)) (vnil (zE (zC (zD (zA rfl (vr 2 (i6 (↑k + 1)) (vnil (zC ?_)))))))))
   rotate_left
   simp only [decide_eq_false_iff_not] at hc
   refine zA rfl (vr 5 (3 ≤ 3 ∧ ((3 = 3 ∧ 3 ≤ 3 ∧ True) ∧ 0 < 3 ∧ 3 = 3 ∧ 3 ≤ 16777216 ∧ 1 ≤ 9223372036854775807) ∧ Bk.arr (fsB (List.flatMap faAc b)) = true ∧ List.length (Bk.cells (fsB (List.flatMap faAc b))) = List.length b * 3 ∧ List.length b * 3 = List.length b * 3 ∧ Bk.ty (fsB (List.flatMap faAc b)) = 30 ∧ Bk.sz (fsB (List.flatMap faAc b)) = 3 ∧ 3 = 3 ∧ 0 < 3 ∧ 0 < 72 ∧ 30 = 30 ∧ (List.length b + 1) * 72 ≤ 140737488355328 ∧ 3 = 3 ∧ Kd.isMap (Bk.kd (fsB (List.flatMap faAc b))) = false ∧ (false = false ∨ Kd.isSh (Bk.kd (fsB (List.flatMap faAc b))) = true)) (vnil (zE (zC (zD (zA rfl (vr 2 (i6 (↑k + 1)) (vnil (zC ?_)))))))))
   rotate_left
  ·rw [if_pos hc] at u1 u2
   rw [List.append_nil] at u2
   refine ⟨k + 1, a ++ [f], b, ⟨by omega, u1.symm, u2.symm⟩, by omega, ?_⟩
   rw [zQ8, zKr]
   refine vk 2
  ·rw [if_neg hc] at u1 u2
   rw [List.append_nil] at u1
   refine ⟨k + 1, a, b ++ [f], ⟨by omega, u1.symm, u2.symm⟩, by omega, ?_⟩
   rw [zQ8, zKr]
   refine vk 2
 rw [List.take_of_length_le (by omega)] at ha hb
 have hperm := zDt v fs
 rw [← ha, ← hb] at hperm
 have hpr := zQz rz hperm
 have hpv := zQz vz hperm
 have hmem := fun f => hperm.mem_iff (a := f)
 have hvin : ∀ f ∈ a, v ∈ f.A := fun f h => by
  rw [ha, zFr, List.mem_filter] at h
  simpa using h.2
 have hlen := hperm.length_eq
 rw [List.length_append] at hlen
 cases a with
 | nil =>
  exfalso
  obtain ⟨f, h5, h6⟩ := hv
  have : f ∈ zFr v fs := List.mem_filter.2 ⟨h5, by simpa using h6⟩
  rw [← ha] at this; simp at this
 | cons p ws =>
  have hel : elim rcmp Sn v fs = b ++ [fsum rcmp Sn v (zCl rcmp Sn p ws b)] := by
   unfold elim
   rw [← ha, ← hb]
  rw [hel]
  clear hel ha hb hv
  have h0 : ((p :: ws).flatMap faAc).take 3 = faAc p := rfl
  have hfa := zKv zAm (p :: ws) (ws.length + 1) rfl
  have hfb := zKv zAm b _ rfl
  focus
   refine zB (zA rfl (v0s (veT (zB (vF ((↑k : Int) < ↑(List.length fs)) (zQ (zH (zH (zP rfl (zC (zD (zB (zA rfl ?_)))))))))))))
   refine vr 5 (((0 : Int) ≤ (0 : Int) ∧ (0 : Int) < (↑(List.length ws + 1) : Int)) ∧ 3 ≤ List.length (List.drop 0 (Bk.cells (fsB (List.flatMap faAc (p :: ws))))) ∧ false = false ∧ true = true ∧ 3 = 3 ∧ 3 ≤ 3) (vnil (zC (vnn (fr 65 [(0, cntD), (2, iD ↑v), (6, nl), (7, D.osl 0 0 (List.length (p :: ws)) (List.length (p :: ws) * 3) true), (8, D.osl 1 0 (List.length b) (List.length b * 3) true), (11, D.own 2 0), (14, D.row (List.flatMap faAc fs) (List.length fs)), (15, iD ↑(List.length fs)), (16, iD ↑k), (17, bD (decide ((↑k : Int) < ↑(List.length fs)))), (35, D.osl 0 0 (List.length ws + 1) ((List.length ws + 1) * 3) true), (36, D.own 0 0), (37, D.agg [D.row (nsD (Fa.A p)) (List.length (Fa.A p)), D.row (rwsD (Fa.l p)) (List.length (Fa.l p)), D.row (vlsD (Fa.l p)) (List.length (Fa.l p))])]) [fsB (List.flatMap faAc (p :: ws)), fsB (List.flatMap faAc b), Bk.mk [D.row (nsD (Fa.A p)) (List.length (Fa.A p)), D.row (rwsD (Fa.l p)) (List.length (Fa.l p)), D.row (vlsD (Fa.l p)) (List.length (Fa.l p))] 30 0 false false Kd.plain] ?_)))
   rotate_left
  clear h1 h2 hperm
  refine zBe (((Weak.osr (s := 7) (k := 0) (off := 0) (n := ws.length + 1) (m := (ws.length + 1) * 3) (wh := true) (cs := (p :: ws).flatMap faAc) (by kernel_rfl) (by exact (show some (D.row ((((p :: ws).flatMap faAc).drop 0).take ((ws.length + 1) * 3)) (ws.length + 1), [0]) = _ by rw [List.drop_zero, hfa]))).trans (Weak.osr (s := 8) (k := 1) (off := 0) (n := b.length) (m := b.length * 3) (wh := true) (cs := b.flatMap faAc) (by kernel_rfl) (by exact (show some (D.row (((b.flatMap faAc).drop 0).take (b.length * 3)) b.length, [1]) = _ by rw [List.drop_zero, hfb])))).trans (Weak.leS (s := 7) (d' := .row ((p :: ws).flatMap faAc) (ws.length + 1)) (by kernel_rfl) (LeD.osr_row 0 0 (ws.length + 1) ((ws.length + 1) * 3) true ((p :: ws).flatMap faAc)))) ?_
  have hs1 : ((p :: ws).flatMap faAc).drop 3 = ws.flatMap faAc := rfl
  have hs2 : (ws.flatMap faAc).take (ws.length * 3) = ws.flatMap faAc := zKv zAm ws _ rfl
  have hwl : ws.length ≤ 500 := by simp only [List.length_cons] at hlen; omega
  focus
   refine zB (zB (zA rfl (v0s (vr 2 ((0 : Int) ≤ (1 : Int) ∧ True ∧ True ∧ 0 < 3 ∧ 1 ≤ List.length ws + 1 ∧ List.length ws + 1 ≤ List.length ws + 1 ∧ List.length ws + 1 = List.length ws + 1) (vs 39 (D.row (List.take ((List.length ws + 1 - 1) * 3) (List.drop 3 (List.flatMap faAc (p :: ws)))) (List.length ws + 1 - 1)) (D.row (List.flatMap faAc ws) (List.length ws)) (by simp (disch := omega) only [Nat.add_sub_cancel, hs2, hs1]) (veT (zF ?_)))))))
   rotate_left
  have hp1 := hf p ((hmem p).1 (by simp))
  have hws : ∀ f ∈ ws, f ∈ fs := fun f h => (hmem f).1 (List.mem_append_left _ (List.mem_cons_of_mem _ h))
  have hbs : ∀ f ∈ b, f ∈ fs := fun f h => (hmem f).1 (List.mem_append_right _ h)
  have b1 : rz p * pz rz ws ≤ 900000 := by
   rw [zH2, zBv] at hpr
   exact Nat.le_trans (Nat.le_mul_of_pos_right _ (zGk zHy b)) (by omega)
  have b2 : vz p * pz vz ws ≤ 4000000000000000000 := by
   rw [zH2, zBv] at hpv
   exact Nat.le_trans (Nat.le_mul_of_pos_right _ (zGk zHw b)) (by omega)
  refine zA4 (fun (t : Nat) (A : List Nat) (l : List (Rw × Nat)) => fr 65 [(0, cntD), (2, iD ↑v), (6, nl), (7, D.row (List.flatMap faAc (p :: ws)) (List.length ws + 1)), (8, D.osr 1 0 (List.length b) (List.length b * 3) true (List.flatMap faAc b)), (11, D.own 2 0), (39, D.row (List.flatMap faAc ws) (List.length ws)), (40, iD ↑(List.length ws)), (41, iD ↑t)]) (fun (t : Nat) (A : List Nat) (l : List (Rw × Nat)) => [⟨(p :: ws).flatMap faAc, 30, 3, true, true, .plain⟩, ⟨b.flatMap faAc, 30, 3, true, true, .plain⟩, fB1 (.row (nsD A) A.length) (.row (rwsD l) l.length) (.row (vlsD l) l.length)]) (fun t A l => ws.length - t) (fun (t : Nat) (A : List Nat) (l : List (Rw × Nat)) => t ≤ ws.length ∧ zCl rcmp Sn ⟨A, l⟩ (ws.drop t) b = zCl rcmp Sn p ws b ∧ FOk rcmp Dm ⟨A, l⟩ ∧ rz (⟨A, l⟩ : Fa Nat) * pz rz (ws.drop t) ≤ 900000 ∧ vz (⟨A, l⟩ : Fa Nat) * pz vz (ws.drop t) ≤ 4000000000000000000 ∧ v ∈ A) 0 p.A p.l ?_ ?_ ?_
  ·exact ⟨by omega, rfl, hp1, b1, b2, hvin p (by simp)⟩
  ·refine vk 3
  rintro t A l ⟨t1, t2, t3, t4, t5, t6⟩
  rcases Nat.lt_or_ge t ws.length with t7 | t7
  ·have hmf := zAt ws default t t7
   have hg2 := zFw zAm ws t t7
   have hle := zJf zAm ws t t7
   have hne2 := zJe zAm (by decide) ws (by omega)
   have hdr : ws.drop t = ws.getD t default :: ws.drop (t + 1) := by
    rw [List.drop_eq_getElem_cons t7, List.getD_eq_getElem?_getD, List.getElem?_eq_getElem t7]; rfl
   rw [hdr] at t2 t4 t5
   rw [zBv, ← Nat.mul_assoc] at t4 t5
   have q1 : rz (⟨A, l⟩ : Fa Nat) * rz (ws.getD t default) ≤ 900000 := Nat.le_trans (Nat.le_mul_of_pos_right _ (zGk zHy _)) t4
   have q2 : vz (⟨A, l⟩ : Fa Nat) * vz (ws.getD t default) ≤ 4000000000000000000 := Nat.le_trans (Nat.le_mul_of_pos_right _ (zGk zHw _)) t5
   have gA : Gof Dm ⟨A, l⟩ := ⟨t3, Nat.le_trans (Nat.le_mul_of_pos_right _ (zHy _)) q1, Nat.le_trans (Nat.le_mul_of_pos_right _ (zHw _)) q2⟩
   have hmul := zKi hD ⟨A, l⟩ (ws.getD t default) (ws.drop (t + 1) ++ b) gA (hg _ (hws _ hmf)) (fun o ho => by
    rcases List.mem_append.1 ho with h | h
    ·exact hg _ (hws _ (List.mem_of_mem_drop h))
    ·exact hg _ (hbs _ h)) (by rw [List.length_append, List.length_drop]; simp only [List.length_cons] at hlen; omega) q1
   have r1 := zHj (c := rcmp) Sn ⟨A, l⟩ (ws.getD t default) (ws.drop (t + 1) ++ b)
   have r2 := zHi (c := rcmp) ⟨A, l⟩ (ws.getD t default) (ws.drop (t + 1) ++ b)
   have r3 := zHk (S := Sn) rcw t3 (hf _ (hws _ hmf)) (ws.drop (t + 1) ++ b)
   have r4 := Nat.le_trans (Nat.mul_le_mul_right (pz rz (ws.drop (t + 1))) r1) t4
   have r5 := Nat.le_trans (Nat.mul_le_mul_right (pz vz (ws.drop (t + 1))) r2) t5
   have r6 : v ∈ (fmul rcmp Sn ⟨A, l⟩ (ws.getD t default) (ws.drop (t + 1) ++ b)).A := zCq.2 ⟨hv32, .inl t6⟩
   rw [zCl] at t2
   have hcc := concat_c ((ws.drop (t + 1)).flatMap faAc) (b.flatMap faAc) (ws.drop (t + 1)).length b.length (zL6 _) (zL6 _) (by rw [List.length_drop]; simp only [List.length_cons] at hlen; omega) (by simp only [List.length_cons] at hlen; omega) (fun _ _ => trivial)
   rw [← List.flatMap_append, ← List.length_append] at hcc
   have hsl : ((p :: ws).flatMap faAc).drop ((t + 2) * 3) = (ws.drop (t + 1)).flatMap faAc := by
    rw [zQ6 zAm]; rfl
   have hsn : ws.length + 1 - (t + 2) = (ws.drop (t + 1)).length := by rw [List.length_drop]; omega
   have hst := zKv zAm (ws.drop (t + 1)) _ rfl
   generalize ws.getD t default = f at *
   generalize fmul rcmp Sn ⟨A, l⟩ f (ws.drop (t + 1) ++ b) = q at *
   obtain ⟨A', l'⟩ := q
   have cast2 : (t : Int) + 2 = ((t + 2 : Nat) : Int) := by omega
   focus
    refine zB (zA rfl (v0s (veT (zB (vT ((↑t : Int) < ↑(List.length ws)) (zG (zC (zD (zB (zF (zB (zA rfl (vr 3 (ix ↑t ↑(List.length ws) (List.flatMap faAc ws ≠ []) ∧ 3 ≤ List.length (List.drop (t * 3) (List.flatMap faAc ws))) ?_)))))))))))))
    refine vs 45 (D.agg (List.take 3 (List.drop (t * 3) (List.flatMap faAc ws)))) (D.agg (faAc f)) (by simp (disch := omega) only [hg2]) (ve (false = false ∧ true = true ∧ 3 = 3 ∧ 3 ≤ 3) (vd [0, 3, 4, 5, 6, 7, 1, 2, 8, 9, 10, 11] (vr 5 (i6 (↑t + 2) ∧ (0 : Int) ≤ (↑(t + 2) : Int) ∧ True ∧ True ∧ 0 < 3 ∧ Int.toNat (↑(t + 2) : Int) ≤ List.length ws + 1 ∧ List.length ws + 1 ≤ List.length ws + 1 ∧ List.length ws + 1 = List.length ws + 1) (vs 52 (D.row (List.take ((List.length ws + 1 - Int.toNat (↑(t + 2) : Int)) * 3) (List.drop (Int.toNat (↑(t + 2) : Int) * 3) (List.flatMap faAc (p :: ws)))) (List.length ws + 1 - Int.toNat (↑(t + 2) : Int))) (D.row (List.flatMap faAc (List.drop (t + 1) ws)) (List.length (List.drop (t + 1) ws))) (by simp (disch := omega) only [Int.toNat_natCast, hsn, hsl, hst]) (vr 4 (3 ≤ 3 ∧ 3 ≤ 3 ∧ (1 = 1 ∧ 1 ≤ 2 ∧ 1 = 1 ∧ 2 ≤ 2 ∧ True) ∧ 0 < 1 ∧ 1 = 1 ∧ 2 ≤ 16777216 ∧ 2 ≤ 9223372036854775807) (vc hcc (vc hmul (vr 1 (Bk.fz (fB1 (D.row (nsD A) (List.length A)) (D.row (rwsD l) (List.length l)) (D.row (vlsD l) (List.length l))) = false ∧ true = true ∧ 3 = 3 ∧ 3 ≤ 3) (vnil (zE (zC (zD (zA rfl ?_)))))))))))))
    refine vr 2 (i6 (↑t + 1)) (vnil (zC ?_))
    rotate_left
   refine ⟨t + 1, A', l', ⟨by omega, t2, r3, r4, r5, r6⟩, by omega, ?_⟩
   refine vk 3
  ·rw [List.drop_of_length_le t7] at t2 t4 t5
   simp only [pz, List.foldr_nil, Nat.mul_one, zCl] at t2 t4 t5
   have hsum := zNu hD ⟨A, l⟩ ⟨t3, t4, t5⟩ v t6
   rw [← t2, zQ8, zKr]
   have cb := zL6 b
   generalize fsum rcmp Sn v ⟨A, l⟩ = q at *
   obtain ⟨A', l'⟩ := q
   have ht : (b.flatMap faAc ++ faAc ⟨A', l'⟩).take ((b.length + 1) * 3) = b.flatMap faAc ++ faAc ⟨A', l'⟩ := List.take_of_length_le (by rw [List.length_append, cb]; show _ + 3 ≤ _; omega)
   focus
    refine zB (zA rfl (v0s (veT (zB (vF ((↑t : Int) < ↑(List.length ws)) (zQ (zH (zH (zP rfl (zC (zD (zB (zA rfl ?_)))))))))))))
    refine vr 4 (3 ≤ 3) (vc hsum (ve (((3 = 3 ∧ 3 ≤ 3 ∧ True) ∧ 0 < 3 ∧ 3 = 3 ∧ 3 ≤ 16777216 ∧ 1 ≤ 9223372036854775807) ∧ Bk.arr (Bk.mk (List.flatMap faAc b) 30 3 true true Kd.plain) = true ∧ List.length (List.flatMap faAc b) = List.length b * 3 ∧ List.length b * 3 = List.length b * 3 ∧ Bk.ty (Bk.mk (List.flatMap faAc b) 30 3 true true Kd.plain) = 30 ∧ Bk.sz (Bk.mk (List.flatMap faAc b) 30 3 true true Kd.plain) = 3 ∧ 3 = 3 ∧ 0 < 3 ∧ 0 < 72 ∧ 30 = 30 ∧ (List.length b + 1) * 72 ≤ 140737488355328 ∧ 3 = 3 ∧ Kd.isMap (Bk.kd (Bk.mk (List.flatMap faAc b) 30 3 true true Kd.plain)) = false ∧ (false = false ∨ Kd.isSh (Bk.kd (Bk.mk (List.flatMap faAc b) 30 3 true true Kd.plain)) = true)) (zM ?_)))
    refine zBm (True) (D.row (List.take ((List.length b + 1) * 3) (List.drop 0 (List.flatMap faAc b ++ [D.row (nsD A') (List.length A'), D.row (rwsD l') (List.length l'), D.row (vlsD l') (List.length l')]))) (List.length b + 1)) (D.row (List.flatMap faAc b ++ faAc (Fa.mk A' l')) (List.length b + 1)) (.inr rfl) (by kernel_rfl) trivial (by simp (disch := omega) only [List.drop_zero, ht]) rfl
end
end
section
open Go.RowKit
theorem an_bit {a b : Nat} (ha : a < 4294967296) (hb : b < 4294967296) (i : Nat) : ((BitVec.ofInt 32 (a : Int) &&& ~~~ BitVec.ofInt 32 (b : Int)).toNat).testBit i = (a.testBit i && !b.testBit i) := by
 have e : ∀ {c : Nat}, c < 4294967296 → (BitVec.ofInt 32 (c : Int)).getLsbD i = c.testBit i := fun {c} hc => by
  rw [← BitVec.testBit_toNat, zH8 hc]
 rw [BitVec.testBit_toNat, BitVec.getLsbD_and, BitVec.getLsbD_not, e ha, e hb]
 by_cases h : i < 32
 ·simp [h]
 ·have := Nat.testBit_lt_two_pow (Nat.lt_of_lt_of_le (show a < 2 ^ 32 from ha) (Nat.pow_le_pow_right (by omega) (Nat.le_of_not_lt h)))
  rw [this]; simp
theorem an_eq {a b d : Nat} (ha : a < 4294967296) (hb : b < 4294967296) (h : ∀ i, d.testBit i = (a.testBit i && !b.testBit i)) : (BitVec.ofInt 32 (a : Int) &&& ~~~ BitVec.ofInt 32 (b : Int)).toNat = d :=
 Nat.eq_of_testBit_eq fun i => by rw [an_bit ha hb, h]
theorem an_keep {n keep : Nat} (hn : n ≤ 32) (hk : keep < 4294967296) : (BitVec.ofInt 32 ((2 ^ n - 1 : Nat) : Int) &&& ~~~ BitVec.ofInt 32 (keep : Int)).toNat = msk ((List.range n).filter fun v => !keep.testBit v) := by
 have h2 : 2 ^ n ≤ 4294967296 := Nat.pow_le_pow_right (n := 2) (by omega) hn
 refine an_eq (by omega) hk fun i => ?_
 rw [zBx, Nat.testBit_two_pow_sub_one, Bool.eq_iff_iff]
 simp
theorem an_less {E : List Nat} (hE : Asc E) {v : Nat} (hv : v < 32) : (BitVec.ofInt 32 ((msk E : Nat) : Int) &&& ~~~ BitVec.ofInt 32 ((2 ^ v : Nat) : Int)).toNat = msk (less E v) := by
 refine an_eq (zDi hE.2) (zSh hv) fun i => ?_
 rw [zBx, zBx, Nat.testBit_two_pow, Bool.eq_iff_iff]
 simp only [Bool.and_eq_true, Bool.not_eq_true', decide_eq_true_eq, decide_eq_false_iff_not, zCf]
 exact ⟨fun h => ⟨h.1, fun e => h.2 e.symm⟩, fun h => ⟨h.1, fun e => h.2 e.symm⟩⟩
theorem msk_ne {E : List Nat} (h : E ≠ []) : msk E ≠ 0 := fun e => by
 cases E with
 | nil => exact h rfl
 | cons v E =>
  have := zBx (v :: E) v
  rw [e, Nat.zero_testBit] at this
  simp at this
theorem elim_len {α : Type} {c : Rw → Rw → Int} {S : Sr α} (v : Nat) (fs : List (Fa α)) : (elim c S v fs).length ≤ fs.length := by
 have hp := (zDt v fs).length_eq
 unfold elim
 split
 ·exact Nat.le_refl _
 ·rename_i p ws e
  rw [e, List.length_append, List.length_cons] at hp
  rw [List.length_append, List.length_cons, List.length_nil]
  omega
end
section
open Go.RowKit
attribute [local irreducible] seqW awp zAf zAo zAg Weak updS zAw retL Pure Acts rP setP setQ cP nP fr
set_option maxRecDepth 4096
section
variable {Dm : List Va}
set_option maxHeartbeats 8000000 in
theorem zT8 (hD : Okv Dm) (hDn : Dm.Nodup) (n keep : Nat) (fs : List (Fa Nat)) (hn : n ≤ 8) (hk : keep < 4294967296) (hf : ∀ f ∈ fs, FOk rcmp Dm f) (hl : fs.length ≤ 500) (hr : 2 * pz rz fs ≤ 900000) (hz : 2 * pz vz fs ≤ 4000000000000000000)
  (hcv : ∀ v, v < n → ∃ f ∈ fs, v ∈ f.A) (hck : Pure Tryd.prog 29 [iD (n : Nat), u32D keep, .row (fs.flatMap faAc) fs.length] [] (iD 0)) :
  Pure Tryd.prog 9 [cntD, iD (n : Nat), u32D keep, .row (fs.flatMap faAc) fs.length] [] (.tup [faA (zPs popN rcmp Sn fs ((List.range n).filter fun v => !keep.testBit v)), iD 0]) := by
 have hcl := cloneF_c (fs.flatMap faAc) fs.length (zL6 fs) (by omega)
 have w2 := zMl (v := n) (by omega)
 have h2n : 2 ^ n ≤ 256 := Nat.pow_le_pow_right (n := 2) (by omega) hn
 have h1n := Nat.one_le_two_pow (n := n)
 have w3 : ((2 ^ n : Nat) : Int) - 1 = ((2 ^ n - 1 : Nat) : Int) := by omega
 have w4 := zCr (n := 2 ^ n - 1) (by omega)
 have w5 := an_keep (n := n) (by omega) hk
 have hEa : Asc ((List.range n).filter fun v => !keep.testBit v) := ⟨(List.pairwise_lt_range (n := n)).filter _, fun v hv => by have := (List.mem_filter.1 hv).1; simp at this; omega⟩
 have hEc : ∀ v ∈ (List.range n).filter (fun v => !keep.testBit v), ∃ f ∈ fs, v ∈ f.A := fun v hv => hcv v (by have := (List.mem_filter.1 hv).1; simpa using this)
 generalize (List.range n).filter (fun v => !keep.testBit v) = E at *
 have w6 := zCr (zDi hEa.2)
 refine zL (T := Tc) (zRp _ _ _) mixed Tryd.func9 rfl ?_
 focus
  refine zB (zA rfl (v0s (veT (zB (zB (zA rfl (vrT 3 (vc hck (veT (zB (zA rfl (veT (vf ?_)))))))))))))
  refine zG (zC (zD (zB (zA rfl (vrT 1 (vc hcl (veT (zB (zB (zA rfl (vr 2 ((0 : Int) ≤ (↑n : Int)) (vs 28 (D.val (Value.int IntKind.u32 (IntKind.wrap IntKind.u32 ((1 : Int) * (2 : Int) ^ min (Int.toNat (↑n : Int)) 32)))) (dig ((2 : Nat) ^ n)) (by simp (disch := omega) only [Int.toNat_natCast, w2]) (vr 1 (u3 ((↑((2 : Nat) ^ n) : Int) - (1 : Int))) ?_)))))))))))))
  refine vs 29 (D.val (Value.int IntKind.u32 ((↑((2 : Nat) ^ n) : Int) - (1 : Int)))) (dig ((2 : Nat) ^ n - 1)) (by simp (disch := omega) only [w3]) (vrT 2 (vs 31 (D.val (Value.int IntKind.u32 (IntKind.wrap IntKind.u32 (↑(BitVec.toNat (BitVec.ofInt 32 (↑((2 : Nat) ^ n - 1) : Int) &&& ~~~BitVec.ofInt 32 (↑keep : Int))) : Int)))) (dig (msk E)) (by simp (disch := omega) only [w6, w5]) (veT (zF ?_))))
  rotate_left
 refine zA4 (fun (i : Nat) (L : List (Fa Nat)) (F : List Nat) => fr 68 [(0, cntD), (8, D.own 0 0), (9, iD 0), (11, D.row (List.flatMap faAc L) (List.length L)), (12, u32D (msk F))]) (fun (i : Nat) (L : List (Fa Nat)) (F : List Nat) => [fB1 nl nl nl]) (fun i L F => i) (fun (i : Nat) (L : List (Fa Nat)) (F : List Nat) => i = F.length ∧ Asc F ∧ (∀ v ∈ F, ∃ f ∈ L, v ∈ f.A) ∧ (∀ f ∈ L, FOk rcmp Dm f) ∧ L.length ≤ 500 ∧ 2 * pz rz L ≤ 900000 ∧ 2 * pz vz L ≤ 4000000000000000000 ∧ zFs popN rcmp Sn F.length L F = zFs popN rcmp Sn E.length fs E) E.length fs E ?_ ?_ ?_
 ·exact ⟨rfl, hEa, hEc, hf, hl, hr, hz, rfl⟩
 ·refine vk 1
 rintro i L F ⟨rfl, f1, f2, f3, f4, f5, f6, f7⟩
 by_cases hF : F = []
 ·subst hF
  have hL : zFs popN rcmp Sn E.length fs E = L := f7.symm
  have hres : zPs popN rcmp Sn fs E = zCl rcmp Sn (zAq Sn) L [] := by unfold zPs; rw [hL]
  rw [hres]
  have m0 : msk [] = 0 := rfl
  rw [m0]
  obtain ⟨o, ho⟩ : ∃ o : Nat, o = 1 := ⟨1, rfl⟩
  focus
   refine zB (zB (zA rfl (v0s (veT (vf (zQ (zH (zH (zP rfl (zC (zD (zB (zA rfl ?_)))))))))))))
   refine vr 3 ((True ∧ 0 < 3 ∧ 3 = 3 ∧ 0 ≤ 16777216 ∧ 0 ≤ 9223372036854775807) ∧ (1 = 1 ∧ 1 ≤ 1 ∧ True) ∧ 0 < 1 ∧ 1 = 1 ∧ 1 ≤ 16777216 ∧ 1 ≤ 9223372036854775807) (vc (cone_c o ho) (vr 4 (((1 = 1 ∧ 1 ≤ 1 ∧ True) ∧ 0 < 1 ∧ 1 = 1 ∧ 1 ≤ 16777216 ∧ 1 ≤ 9223372036854775807) ∧ ((1 = 1 ∧ 2 ≤ 3 ∧ 1 = 1 ∧ 3 ≤ 3 ∧ True) ∧ true = true) ∧ false = false ∧ true = true ∧ 3 = 3 ∧ 3 ≤ 3) (vnil (zC (vnn (fr 68 [(0, cntD), (8, D.own 0 0), (9, iD 0), (11, D.row (List.flatMap faAc L) (List.length L)), (12, u32D 0), (14, D.own 4 0), (33, bD false), (45, D.osl 1 0 0 0 true), (46, D.osl 2 0 1 1 true), (47, D.ifc 37 (D.agg [])), (48, natD o), (49, D.osl 3 0 1 1 true), (50, D.agg [nl, D.osl 2 0 1 1 true, D.osl 3 0 1 1 true])]) [fB1 nl nl nl, Bk.mk [] 69 3 true true Kd.plain, Bk.mk [D.row [] 0] 72 1 true false Kd.plain, Bk.mk [natD o] 35 1 true false Kd.plain, Bk.mk [nl, D.osl 2 0 1 1 true, D.osl 3 0 1 1 true] 30 0 false false Kd.plain] ?_)))))
   rotate_left
  clear hck hcl hcv hEa hEc w5 w6 f1 f2 f7 hL hres
  refine zBe ((Weak.fzCell (j := 4) (i := 1) (d := .osl 2 0 1 1 true) (x := .row [.row [] 0] 1) (ks := [2]) rfl rfl rfl rfl (by exact rfl) (by decide)).trans ((Weak.fzCell (j := 4) (i := 2) (d := .osl 3 0 1 1 true) (x := .row [natD o] 1) (ks := [3]) rfl rfl rfl rfl (by exact rfl) (by decide)).trans (Weak.leC (j := 4) (i := 0) (d' := .row [] 0) rfl rfl rfl LeD.nil_row))) ?_
  focus
   refine zB (zB (zA rfl (v0s (veT (zF ?_)))))
   rotate_left
  have hu : (zAq Sn : Fa Nat) = ⟨[], [([], o)]⟩ := by rw [ho]; rfl
  have hU : FOk rcmp Dm (⟨[], [([], o)]⟩ : Fa Nat) := hu ▸ zEu
  have u1 : rz (⟨[], [([], o)]⟩ : Fa Nat) = 2 := rfl
  have u2 : vz (⟨[], [([], o)]⟩ : Fa Nat) = 2 := by rw [ho]; rfl
  rw [hu]
  refine zA4 (fun (t : Nat) (A : List Nat) (l : List (Rw × Nat)) => fr 68 [(0, cntD), (8, D.own 0 0), (9, iD 0), (11, D.row (List.flatMap faAc L) (List.length L)), (14, D.own 4 0), (51, D.row (List.flatMap faAc L) (List.length L)), (52, iD ↑(List.length L)), (53, iD ↑t)]) (fun (t : Nat) (A : List Nat) (l : List (Rw × Nat)) => [fB1 nl nl nl, ⟨[], 69, 3, true, true, .plain⟩, ⟨[.row [] 0], 72, 1, true, true, .plain⟩, ⟨[natD o], 35, 1, true, true, .plain⟩, fB1 (.row (nsD A) A.length) (.row (rwsD l) l.length) (.row (vlsD l) l.length)]) (fun t A l => L.length - t) (fun (t : Nat) (A : List Nat) (l : List (Rw × Nat)) => t ≤ L.length ∧ zCl rcmp Sn ⟨A, l⟩ (L.drop t) [] = zCl rcmp Sn ⟨[], [([], o)]⟩ L [] ∧ FOk rcmp Dm ⟨A, l⟩ ∧ rz (⟨A, l⟩ : Fa Nat) * pz rz (L.drop t) ≤ 900000 ∧ vz (⟨A, l⟩ : Fa Nat) * pz vz (L.drop t) ≤ 4000000000000000000) 0 [] [([], o)] ?_ ?_ ?_
  ·exact ⟨by omega, rfl, hU, by rw [u1]; exact f5, by rw [u2]; exact f6⟩
  ·refine vk 5
  rintro t A l ⟨t1, t2, t3, t4, t5⟩
  rcases Nat.lt_or_ge t L.length with t7 | t7
  ·have hmf := zAt L default t t7
   have hg2 := zFw zAm L t t7
   have hle := zJf zAm L t t7
   have hne2 := zJe zAm (by decide) L (by omega)
   have hdr : L.drop t = L.getD t default :: L.drop (t + 1) := by
    rw [List.drop_eq_getElem_cons t7, List.getD_eq_getElem?_getD, List.getElem?_eq_getElem t7]; rfl
   rw [hdr] at t2 t4 t5
   rw [zBv, ← Nat.mul_assoc] at t4 t5
   have q1 : rz (⟨A, l⟩ : Fa Nat) * rz (L.getD t default) ≤ 900000 := Nat.le_trans (Nat.le_mul_of_pos_right _ (zGk zHy _)) t4
   have q2 : vz (⟨A, l⟩ : Fa Nat) * vz (L.getD t default) ≤ 4000000000000000000 := Nat.le_trans (Nat.le_mul_of_pos_right _ (zGk zHw _)) t5
   have gA : Gof Dm ⟨A, l⟩ := ⟨t3, Nat.le_trans (Nat.le_mul_of_pos_right _ (zHy _)) q1, Nat.le_trans (Nat.le_mul_of_pos_right _ (zHw _)) q2⟩
   have hg : ∀ f ∈ L, Gof Dm f := fun f h => ⟨f3 f h, Nat.le_trans (zSb zHy h) (by omega), Nat.le_trans (zSb zHw h) (by omega)⟩
   have hmul := zKi hD ⟨A, l⟩ (L.getD t default) (L.drop (t + 1)) gA (hg _ hmf) (fun o ho => hg _ (List.mem_of_mem_drop ho)) (by rw [List.length_drop]; omega) q1
   have r1 := zHj (c := rcmp) Sn ⟨A, l⟩ (L.getD t default) (L.drop (t + 1))
   have r2 := zHi (c := rcmp) ⟨A, l⟩ (L.getD t default) (L.drop (t + 1))
   have r3 := zHk (S := Sn) rcw t3 (f3 _ hmf) (L.drop (t + 1))
   have r4 := Nat.le_trans (Nat.mul_le_mul_right (pz rz (L.drop (t + 1))) r1) t4
   have r5 := Nat.le_trans (Nat.mul_le_mul_right (pz vz (L.drop (t + 1))) r2) t5
   rw [zCl, List.append_nil] at t2
   have hsl : (L.flatMap faAc).drop ((t + 1) * 3) = (L.drop (t + 1)).flatMap faAc := zQ6 zAm L (t + 1)
   have hsn : L.length - (t + 1) = (L.drop (t + 1)).length := by rw [List.length_drop]
   have hst := zKv zAm (L.drop (t + 1)) _ rfl
   generalize L.getD t default = f at *
   generalize fmul rcmp Sn ⟨A, l⟩ f (L.drop (t + 1)) = q at *
   obtain ⟨A', l'⟩ := q
   focus
    refine zB (zA rfl (v0s (veT (zB (vT ((↑t : Int) < ↑(List.length L)) (zG (zC (zD (zB (zF (zB (zA rfl (vr 3 (ix ↑t ↑(List.length L) (List.flatMap faAc L ≠ []) ∧ 3 ≤ List.length (List.drop (t * 3) (List.flatMap faAc L))) ?_)))))))))))))
    refine vs 57 (D.agg (List.take 3 (List.drop (t * 3) (List.flatMap faAc L)))) (D.agg (faAc f)) (by simp (disch := omega) only [hg2]) (ve (false = false ∧ true = true ∧ 3 = 3 ∧ 3 ≤ 3) (vd [0, 3, 4, 5, 6, 1, 2, 7, 8] (vr 5 (i6 (↑t + 1) ∧ (0 : Int) ≤ (↑(t + 1) : Int) ∧ True ∧ True ∧ 0 < 3 ∧ Int.toNat (↑(t + 1) : Int) ≤ List.length L ∧ List.length L ≤ List.length L ∧ List.length L = List.length L) (vs 64 (D.row (List.take ((List.length L - Int.toNat (↑(t + 1) : Int)) * 3) (List.drop (Int.toNat (↑(t + 1) : Int) * 3) (List.flatMap faAc L))) (List.length L - Int.toNat (↑(t + 1) : Int))) (D.row (List.flatMap faAc (List.drop (t + 1) L)) (List.length (List.drop (t + 1) L))) (by simp (disch := omega) only [Int.toNat_natCast, hsn, hsl, hst]) (vr 2 (3 ≤ 3 ∧ 3 ≤ 3) (vc hmul (vr 1 (Bk.fz (fB1 (D.row (nsD A) (List.length A)) (D.row (rwsD l) (List.length l)) (D.row (vlsD l) (List.length l))) = false ∧ true = true ∧ 3 = 3 ∧ 3 ≤ 3) (vnil (zE (zC (zD (zA rfl (vr 2 (i6 (↑t + 1)) ?_)))))))))))))
    refine vnil (zC ?_)
    rotate_left
   refine ⟨t + 1, A', l', ⟨by omega, t2, r3, r4, r5⟩, by omega, ?_⟩
   refine vk 5
  ·rw [List.drop_of_length_le t7] at t2
   simp only [zCl] at t2
   rw [← t2]
   focus
    refine zB (zA rfl (v0s (veT (zB (vF ((↑t : Int) < ↑(List.length L)) (zQ (zH (zH (zP rfl (zC (zD (zB (zA rfl ?_)))))))))))))
    refine ve (3 ≤ 3 ∧ false = false ∧ true = true ∧ 3 = 3 ∧ 3 ≤ 3) (zM (vret (3 ≤ 3) (.inr rfl)))
 ·have hm := zK6 popN L hF
  have hch := zVk L F f1 hF (fun f h => (f3 f h).asc) (by omega)
  have hv32 := f1.2 _ hm.1
  have hel := zRc hD L (zBh popN L F) f3 f4 (by omega) (by omega) (f2 _ hm.1) hv32
  have hmn := msk_ne hF
  have x1 := zMl hv32
  have x2 := an_less f1 hv32
  have x3 := zCr (zDi (zM2 f1 (zBh popN L F)).2)
  have hz1 := elim_z (c := rcmp) (S := Sn) (z := rz) (zHj Sn) (zM7 Sn) (zBh popN L F) L
  have hz2 := elim_z (c := rcmp) (S := Sn) (z := vz) zHi (fun v f => Nat.le_of_eq (zM6 v f)) (zBh popN L F) L
  have hlen := elim_len (c := rcmp) (S := Sn) (zBh popN L F) L
  have hA := elim_A (c := rcmp) (S := Sn) (fs := L) (fun f h => (f3 f h).asc.2) (zBh popN L F)
  have hok := zXo (S := Sn) rcw f3 (zBh popN L F)
  have hll := zSy f1.nd hm.1
  have hla := zM2 f1 (zBh popN L F)
  have hmg : zFs popN rcmp Sn F.length L F = zFs popN rcmp Sn (less F (zBh popN L F)).length (elim rcmp Sn (zBh popN L F) L) (less F (zBh popN L F)) := by
   rw [← hll]; rfl
  have hcm := hm.1
  generalize zBh popN L F = v at *
  generalize elim rcmp Sn v L = L' at *
  focus
   refine zB (zB (zA rfl (v0s (veT (zEs (t := (↑(msk F) : Int) != (0 : Int)) (by kernel_rfl) (by simpa using by omega) (zG (zC (zD (zF (zB (zA rfl (vrT 2 (vc hch ?_)))))))))))))
   refine veT (zB (zA rfl (vrT 3 (vc hel (veT (zA rfl (vr 3 ((0 : Int) ≤ (↑v : Int)) (vs 43 (D.val (Value.int IntKind.u32 (IntKind.wrap IntKind.u32 ((1 : Int) * (2 : Int) ^ min (Int.toNat (↑v : Int)) 32)))) (dig ((2 : Nat) ^ v)) (by simp (disch := omega) only [Int.toNat_natCast, x1]) (vrT 1 (vs 44 (D.val (Value.int IntKind.u32 (IntKind.wrap IntKind.u32 (↑(BitVec.toNat (BitVec.ofInt 32 (↑(msk F) : Int) &&& ~~~BitVec.ofInt 32 (↑((2 : Nat) ^ v) : Int))) : Int)))) (dig (msk (less F v))) (by simp (disch := omega) only [x3, x2]) (vrT 1 (vnil (zE ?_)))))))))))))
   refine zC ?_
   rotate_left
  refine ⟨(less F v).length, L', less F v, ⟨rfl, hla, fun w hw => (hA w).2 ⟨f2 w (zCf.1 hw).1, (zCf.1 hw).2⟩, hok, by omega, by omega, by omega, by rw [← hmg]; exact f7⟩, by omega, ?_⟩
  refine vk 1
end
end
section
open Go.RowKit
attribute [local irreducible] seqW awp zAf zAo zAg Weak updS zAw retL Pure Acts rP setP setQ cP nP fr
set_option maxRecDepth 4096
section
variable (n e : Int) (keep : Nat) (cs : List D) (m : Nat)
theorem zZy (he : e ≠ 0) (hck : Pure Tryd.prog 29 [iD n, u32D keep, .row cs m] [] (iD e)) : Pure Tryd.prog 9 [cntD, iD n, u32D keep, .row cs m] [] (.tup [zeroFc, iD e]) := by
 refine zL (T := Tc) (zRp _ _ _) mixed Tryd.func9 rfl ?_
 focus
  refine zB (zA rfl (v0s (veT (zB (zB (zA rfl (vrT 3 (vc hck (veT (zB (zA rfl (veT (zEs (t := e != (0 : Int)) (by kernel_rfl) (by simpa using by omega) ?_)))))))))))))
  refine zB (zA rfl (ve ((True ∧ true = true) ∧ false = false ∧ true = true ∧ 3 = 3 ∧ 3 ≤ 3) (zM (zJ (vret (3 ≤ 3) (.inr rfl))))))
theorem totalBad_c (he : e ≠ 0) (hm : Pure Tryd.prog 9 [cntD, iD n, u32D 0, .row cs m] [] (.tup [zeroFc, iD e])) : Pure Tryd.prog 11 [cntD, iD n, .row cs m] [] (.tup [.row [] 0, iD e]) := by
 refine zL (T := Tc) (zRp _ _ _) mixed Tryd.func11 rfl ?_
 focus
  refine zB (zA rfl (v0s (veT (zB (zA rfl (vrT 3 (vc hm (ve (0 < 2 ∧ 1 < 2 ∧ false = false ∧ true = true ∧ 3 = 3 ∧ 3 ≤ 3) (zB (zB (zA rfl (veT (zEs (t := e != (0 : Int)) (by kernel_rfl) (by simpa using by omega) ?_)))))))))))))
  refine zB (zA rfl (ve (0 < 1) (zM (zJ (vret (True) (.inr rfl))))))
theorem zVz (f : Fa Nat) (hm : Pure Tryd.prog 9 [cntD, iD n, u32D 0, .row cs m] [] (.tup [faA f, iD 0])) : Pure Tryd.prog 11 [cntD, iD n, .row cs m] [] (.tup [natD ((f.l.map (·.2)).headD 0), iD 0]) := by
 obtain ⟨A, l⟩ := f
 rcases l with _ | ⟨p, l⟩
 ·skip
  obtain ⟨z, hz⟩ : ∃ z : Nat, z = 0 := ⟨0, rfl⟩
  have hr : natD (([] : List (Rw × Nat)).map (·.2) |>.headD 0) = natD z := by rw [hz]; rfl
  simp only [hr]
  refine zL (T := Tc) (zRp _ _ _) mixed Tryd.func11 rfl ?_
  focus
   refine zB (zA rfl (v0s (veT (zB (zA rfl (vrT 3 (vc hm (ve (0 < 2 ∧ 1 < 2 ∧ false = false ∧ true = true ∧ 3 = 3 ∧ 3 ≤ 3) (zB (zB (zA rfl (veT (vf ?_)))))))))))))
   refine zG (zC (zD (zB (zB (zA rfl (ve (True ∧ 0 < 1 ∧ True) (vt (zB (zA rfl (vrT 1 (vc (zXt z hz) (veT (zM ?_)))))))))))))
   refine zJ (vret (True) (.inr rfl))
 ·skip
  show Pure _ _ _ _ (.tup [natD p.2, iD 0])
  have hx : (vlsD (p :: l)).headD .unk = natD p.2 := rfl
  have hne : vlsD (p :: l) ≠ [] := by simp
  refine zL (T := Tc) (zRp _ _ _) mixed Tryd.func11 rfl ?_
  focus
   refine zB (zA rfl (v0s (veT (zB (zA rfl (vrT 3 (vc hm (ve (0 < 2 ∧ 1 < 2 ∧ false = false ∧ true = true ∧ 3 = 3 ∧ 3 ≤ 3) (zB (zB (zA rfl (veT (vf ?_)))))))))))))
   refine zG (zC (zD (zB (zB (zA rfl (ve (True ∧ 0 < 1 ∧ True) (vEf ((↑(List.length l + 1) : Int)) ((0 : Int)) (zG (zC (zD (zB (zA rfl (ve (True ∧ 0 < 1 ∧ ix (0 : Int) (↑(List.length l + 1) : Int) (vlsD (p :: l) ≠ []) ∧ 0 < List.length (vlsD (p :: l))) ?_)))))))))))))
   refine zM (vret (True) (.inr rfl))
end
end
section
open Go.RowKit
attribute [local irreducible] seqW awp zAf zAo zAg Weak updS zAw retL Pure Acts rP setP setQ cP nP fr
set_option maxRecDepth 4096
abbrev natI (W : List Nat) : List Int := W.map fun w : Nat => (w : Int)
abbrev rnR (f : Rn) : Raw := ⟨f.V, f.R, natI f.W⟩
theorem max0 (w : Nat) : (if (0 : Int) > (w : Nat) then 0 else ((w : Nat) : Int)) = (w : Nat) := by split <;> omega
theorem zMf {n : Nat} (h : n < 18446744073709551616) : IntKind.u64.wrap (n : Int) = (n : Int) := zCy (k := .u64) (by simp only [inK]; omega)
theorem zLx (W : List Nat) : (natI W).map (fun z => iD z) = nsD W := by simp [natI]
set_option maxHeartbeats 2000000 in
theorem zRf (f : Rn) (hW : f.W.length ≤ 1000) (hw : ∀ w ∈ f.W, w ≤ 1000000) : Pure Tryd.prog 18 [rawD (rnR f)] [] (.agg (rnC f)) := by
 obtain ⟨V, R, W⟩ := f
 simp only at hW hw
 have e1 : rawD (rnR ⟨V, R, W⟩) = .agg [.row (V.map fun z => iD z) V.length, .row (R.map rowV) R.length, .row (nsD W) W.length] := by
  show D.agg [_, _, .row ((natI W).map fun z => iD z) (natI W).length] = _
  rw [zLx, List.length_map]
 rw [e1]
 refine zL zBo mixed Tryd.func18 rfl ?_
 focus
  refine zB (zA rfl (v0s (veT (zB (zA rfl (vr 7 (True ∧ 0 < 3 ∧ True ∧ 0 < 2 ∧ ((1 = 1 ∧ 1 ≤ 3 ∧ 1 = 1 ∧ 2 ≤ 3 ∧ True) ∧ true = true) ∧ false = false ∧ true = true ∧ 3 = 3 ∧ 3 ≤ 3) (vnil (zC (vnn (fr 31 [(1, D.own 0 0), (2, D.own 1 0), (3, D.own 2 0), (5, D.own 0 0), (6, D.row (List.map (fun (z : Int) => iD z) V) (List.length V)), (7, D.own 0 1), (8, (q5_ R)), (9, D.agg [D.row (List.map (fun (z : Int) => iD z) V) (List.length V), (q5_ R), nl])]) [Bk.mk [D.row (List.map (fun (z : Int) => iD z) V) (List.length V), (q5_ R), (q4_ W)] 46 0 false false Kd.plain, q6_, Bk.mk [D.row (List.map (fun (z : Int) => iD z) V) (List.length V), (q5_ R), nl] 30 0 false false Kd.plain] ?_)))))))))
  rotate_left
 refine zBe (Weak.nilC (j := 2) (i := 2) (natB []) rfl rfl rfl rfl) ?_
 focus
  refine zB (zB (zA rfl (v0s (veT (zF ?_)))))
  rotate_left
 refine zW (fun (i : Nat) => fr 31 [(1, D.own 0 0), (2, D.own 1 0), (3, D.own 2 0), (4, iD ↑i)]) (fun (i : Nat) => [rB (.row (V.map fun z => iD z) V.length) (.row (R.map rowV) R.length) (.row (nsD W) W.length), fB1 nl nl nl, fB1 (.row (V.map fun z => iD z) V.length) (.row (R.map rowV) R.length) (.osl 3 0 i i true), natB ((W.take i).map natD)]) (fun i => W.length - i) (fun (i : Nat) => i ≤ W.length) 0 ?_ ?_ ?_
 ·omega
 ·refine vk 4
 rintro i h1
 rcases Nat.lt_or_ge i W.length with h2 | h2
 ·have hne : nsD W ≠ [] := zY (by omega)
  have hx := zAi W i h2
  have hm := zDk W i h2
  have hb := hw _ hm
  have e0 : (W.take (i + 1)).map natD = (W.take i).map natD ++ [natD (W.getD i 0)] := by
   rw [List.take_succ_eq_append_getElem h2, List.map_append, List.getD_eq_getElem?_getD, List.getElem?_eq_getElem h2]; rfl
  have hl : ((W.take i).map natD).length = i := by simp; omega
  generalize W.getD i 0 = w at *
  have hof := of_c w (by omega)
  have m0 := max0 w
  have m1 := zMf (n := w) (by omega)
  focus
   refine zB (zB (zA rfl (v0s (ve (True ∧ 0 < 1) (vT ((↑i : Int) < ↑(List.length W)) (zG (zC (zD (zB (zF (vd [0, 2, 4, 1, 3, 5, 6, 7, 8, 9, 10, 11, 12, 13] (vr 6 (True ∧ True ∧ 0 < 1 ∧ 0 < 1 ∧ ix ↑i ↑(List.length W) (nsD W ≠ [])) (vp 22 i (nsD W) ?_)))))))))))))
   refine vr 1 (0 < List.length (List.drop i (nsD W))) (vsh 23 hx (vr 2 (u6 (↑w : Int)) (vc hof (vr 4 (((1 = 1 ∧ 1 ≤ 1 ∧ True) ∧ 0 < 1 ∧ 1 = 1 ∧ 1 ≤ 16777216 ∧ 1 ≤ 9223372036854775807) ∧ (Bk.arr (natB (List.map natD (List.take i W))) = true ∧ List.length (Bk.cells (natB (List.map natD (List.take i W)))) = i * 1 ∧ i = i * 1 ∧ Bk.ty (natB (List.map natD (List.take i W))) = 35 ∧ Bk.sz (natB (List.map natD (List.take i W))) = 1 ∧ 1 = 1 ∧ 0 < 1 ∧ 0 < 24 ∧ 35 = 35 ∧ (i + 1) * 24 ≤ 140737488355328 ∧ 1 = 1 ∧ Kd.isMap (Bk.kd (natB (List.map natD (List.take i W)))) = false ∧ (false = false ∨ Kd.isSh (Bk.kd (natB (List.map natD (List.take i W)))) = true)) ∧ True ∧ Bk.fz (Bk.mk [D.row (List.map (fun (z : Int) => iD z) V) (List.length V), D.row (List.map rowV R) (List.length R), Uk] 30 0 false false Kd.plain) = false ∧ true = true ∧ 1 = 1 ∧ 3 ≤ 3) (vb 2 (Bk.mk [D.row (List.map (fun (z : Int) => iD z) V) (List.length V), D.row (List.map rowV R) (List.length R), D.osl 3 0 (i + 1) ((i + 1) * 1) true] (Bk.ty (Bk.mk [D.row (List.map (fun (z : Int) => iD z) V) (List.length V), D.row (List.map rowV R) (List.length R), Uk] 30 0 false false Kd.plain)) (Bk.sz (Bk.mk [D.row (List.map (fun (z : Int) => iD z) V) (List.length V), D.row (List.map rowV R) (List.length R), Uk] 30 0 false false Kd.plain)) (Bk.arr (Bk.mk [D.row (List.map (fun (z : Int) => iD z) V) (List.length V), D.row (List.map rowV R) (List.length R), Uk] 30 0 false false Kd.plain)) (Bk.fz (Bk.mk [D.row (List.map (fun (z : Int) => iD z) V) (List.length V), D.row (List.map rowV R) (List.length R), Uk] 30 0 false false Kd.plain)) (Bk.kd (Bk.mk [D.row (List.map (fun (z : Int) => iD z) V) (List.length V), D.row (List.map rowV R) (List.length R), Uk] 30 0 false false Kd.plain))) (Bk.mk [D.row (List.map (fun (z : Int) => iD z) V) (List.length V), D.row (List.map rowV R) (List.length R), D.osl 3 0 (i + 1) (i + 1) true] 30 0 false false Kd.plain) (by simp (disch := omega) only [Nat.mul_one]) (vnil (zE ?_)))))))
   refine zC (zD (zA rfl (vr 3 (i6 (↑i + 1)) (vnil (zC ?_)))))
   rotate_left
  refine ⟨i + 1, by omega, by omega, ?_⟩
  rw [e0]
  refine vk 4
 ·focus
   refine zB (zB (zA rfl (v0s (ve (True ∧ 0 < 1) (vF ((↑i : Int) < ↑(List.length W)) (zQ (zH (zH (zP rfl (zC (zD (zB (zA rfl ?_)))))))))))))
   refine ve (3 ≤ 3 ∧ false = false ∧ true = true ∧ 3 = 3 ∧ 3 ≤ 3) (zM ?_)
   refine zBm (3 ≤ 3) (D.agg [D.row (List.map (fun (z : Int) => iD z) V) (List.length V), D.row (List.map rowV R) (List.length R), D.row (List.take i (List.drop 0 (Bk.cells (natB (List.map natD (List.take i W)))))) i]) (D.agg [D.row (List.map (fun (z : Int) => iD z) V) (List.length V), D.row (List.map rowV R) (List.length R), D.row (List.take i (List.map natD (List.take i W))) i]) (.inr rfl) (by kernel_rfl) (by omega) (by simp (disch := omega) only [List.drop_zero]) ?_
   rotate_left
  obtain rfl : i = W.length := by omega
  rw [List.take_length, List.take_of_length_le (by simp)]
abbrev rwD (f : Rn) : List D := rawC (rnR f)
theorem zEa (f : Rn) : (rwD f).length = 3 := rfl
theorem rn_snoc (l : List Rn) (f : Rn) : (l ++ [f]).flatMap rnC = l.flatMap rnC ++ rnC f := by simp
theorem len_sn {α : Type} (l : List α) (x : α) : (l ++ [x]).length = l.length + 1 := by simp
structure Rsm (f : Rn) : Prop where
 v : f.V.length ≤ 4
 r : f.R.length ≤ 10
 w : f.W.length ≤ 12
 b : ∀ w ∈ f.W, w ≤ 1000
set_option maxHeartbeats 2000000 in
theorem counts_c (fs : List Rn) (hl : fs.length ≤ 1000) (hs : ∀ f ∈ fs, Rsm f) : Pure Tryd.prog 10 [.row (fs.flatMap rwD) fs.length] [] (.row (fs.flatMap rnC) fs.length) := by
 refine zL zBo mixed Tryd.func10 rfl ?_
 focus
  refine zB (zA rfl (v0s (veT (zB (zA rfl (veT (zB (zB (zA rfl (veT (zF ?_)))))))))))
  rotate_left
 refine zAu (fun (i : Nat) (a : List Rn) => fr 20 [(0, D.row (List.flatMap rwD fs) (List.length fs)), (2, nl), (3, D.osl 0 0 (List.length a) (List.length a * 3) true), (4, iD ↑i)]) (fun (i : Nat) (a : List Rn) => [fsB (a.flatMap rnC)]) (fun i a => fs.length - i) (fun (i : Nat) (a : List Rn) => i ≤ fs.length ∧ a = fs.take i) 0 [] ?_ ?_ ?_
 ·exact ⟨by omega, rfl⟩
 ·refine vk 0
 rintro i a ⟨h1, h2⟩
 have la : a.length ≤ 1000 := by rw [h2]; simp; omega
 have ca : (a.flatMap rnC).length = a.length * 3 := zP1 zJ2 a
 rcases Nat.lt_or_ge i fs.length with h3 | h3
 ·have hm := zAt fs default i h3
  have hg2 := zFw zEa fs i h3
  have hle := zJf zEa fs i h3
  have hne := zJe zEa (by decide) fs (by omega)
  have htk := zCi fs i h3
  rw [← h2] at htk
  have hsm := hs _ hm
  generalize fs.getD i default = f at *
  have hco := zRf f (by have := hsm.w; omega) (fun w h => by have := hsm.b w h; omega)
  focus
   refine zB (zB (zA rfl (v0s (veT (vT ((↑i : Int) < ↑(List.length fs)) (zG (zC (zD (zB (zF (zA rfl (vr 5 (ix ↑i ↑(List.length fs) (List.flatMap rwD fs ≠ []) ∧ 3 ≤ List.length (List.drop (i * 3) (List.flatMap rwD fs))) (vs 15 (D.agg (List.take 3 (List.drop (i * 3) (List.flatMap rwD fs)))) (D.agg (rwD f)) (by simp (disch := omega) only [hg2]) ?_)))))))))))))
   refine vc hco (vr 3 (((3 = 3 ∧ 3 ≤ 3 ∧ True) ∧ 0 < 3 ∧ 3 = 3 ∧ 3 ≤ 16777216 ∧ 1 ≤ 9223372036854775807) ∧ Bk.arr (fsB (List.flatMap rnC a)) = true ∧ List.length (Bk.cells (fsB (List.flatMap rnC a))) = List.length a * 3 ∧ List.length a * 3 = List.length a * 3 ∧ Bk.ty (fsB (List.flatMap rnC a)) = 30 ∧ Bk.sz (fsB (List.flatMap rnC a)) = 3 ∧ 3 = 3 ∧ 0 < 3 ∧ 0 < 72 ∧ 30 = 30 ∧ (List.length a + 1) * 72 ≤ 140737488355328 ∧ 3 = 3 ∧ Kd.isMap (Bk.kd (fsB (List.flatMap rnC a))) = false ∧ (false = false ∨ Kd.isSh (Bk.kd (fsB (List.flatMap rnC a))) = true)) (vnil (zE (zC (zD (zA rfl (vr 3 (i6 (↑i + 1)) (vnil (zC ?_)))))))))
   rotate_left
  refine ⟨i + 1, a ++ [f], ⟨by omega, htk.symm⟩, by omega, ?_⟩
  rw [rn_snoc, len_sn]
  refine vk 1
 ·rw [List.take_of_length_le (by omega)] at h2
  subst h2
  have ht := zKv zJ2 a _ rfl
  focus
   refine zB (zB (zA rfl (v0s (veT (vF ((↑i : Int) < ↑(List.length a)) (zQ (zH (zH (zP rfl (zC (zD (zB (zA rfl ?_)))))))))))))
   refine veT (zM ?_)
   refine zBm (True) (D.row (List.take (List.length a * 3) (List.drop 0 (Bk.cells (fsB (List.flatMap rnC a))))) (List.length a)) (D.row (List.flatMap rnC a) (List.length a)) (.inr rfl) (by kernel_rfl) trivial (by simp (disch := omega) only [List.drop_zero, ht]) rfl
theorem zS3 (l : List (Rw × Nat)) {k : Nat} (h : k < l.length) : ((vlsD l).drop k).headD .unk = natD (l.getD k default).2 := by
 rw [← zPx l h]; exact zB7 (l.map (·.2)) k (by simpa using h)
set_option maxHeartbeats 4000000 in
theorem same_c (A : List Nat) (l : List (Rw × Nat)) (hA : A.length ≤ 1000) (hl : l.length ≤ 1000000) (hr : ∀ p ∈ l, p.1.length ≤ 1000000000) (hv : ∀ p ∈ l, p.2 ≤ 9223372036854775807) : Pure Tryd.prog 14 [fcD A l, rfD A l] [] (bD true) := by
 refine zL zBo mixed Tryd.func14 rfl ?_
 focus
  refine zB (zA rfl (v0s (veT (zB (zB (zA rfl (vew [] [(7, false), (16, false)] (True ∧ 0 < 3 ∧ True ∧ 0 < 3 ∧ True ∧ ((↑(List.length A) : Int) != (↑(List.length A) : Int)) = false ∧ True ∧ 0 < 2 ∧ True ∧ 0 < 2 ∧ True ∧ ((↑(List.length l) : Int) != (↑(List.length l) : Int)) = false ∧ True ∧ 0 < 1 ∧ True ∧ 0 < 1 ∧ True) (zFy (t := (↑(List.length l) : Int) != (↑(List.length l) : Int)) (by kernel_rfl) (by simp) (zG (zC (zD (zB (zB ?_)))))))))))))
  refine zA rfl (veT (zF ?_))
  rotate_left
 refine zW (fun (i : Nat) => fr 85 [(2, D.own 0 0), (3, D.own 1 0), (5, iD ↑i)]) (fun (i : Nat) => [fB1 (.row (nsD A) A.length) (.row (rwsD l) l.length) (.row (vlsD l) l.length), rB (.row (nsD A) A.length) (.row (rwsD l) l.length) (.row (isD l) l.length)]) (fun i => A.length - i) (fun (i : Nat) => i ≤ A.length) 0 ?_ ?_ ?_
 ·omega
 ·refine vk 2
 rintro i h1
 rcases Nat.lt_or_ge i A.length with h2 | h2
 ·have hne : nsD A ≠ [] := zY (by omega)
  have hx := zAi A i h2
  focus
   refine zB (zB (zA rfl (v0s (ve (True ∧ 0 < 3) (vT ((↑i : Int) < ↑(List.length A)) (zG (zC (zD (zB (zF (zB (vd [0, 2, 5, 7, 1, 3, 4, 6, 8, 9, 10] (vr 6 (True ∧ True ∧ 0 < 3 ∧ ix ↑i ↑(List.length A) (nsD A ≠ [])) ?_)))))))))))))
   refine vp 42 i (nsD A) (vr 1 (0 < List.length (List.drop i (nsD A))) (vsh 43 hx (vr 2 (0 < 3 ∧ ix ↑i ↑(List.length A) (nsD A ≠ [])) (vp 47 i (nsD A) (vr 1 (0 < List.length (List.drop i (nsD A))) (vsh 48 hx (veT (zFy (t := (↑(List.getD A i 0) : Int) != (↑(List.getD A i 0) : Int)) (by kernel_rfl) (by simp) (zG (zE (zC (zD (zA rfl ?_)))))))))))))
   refine vr 3 (i6 (↑i + 1)) (vnil (zC ?_))
   rotate_left
  refine ⟨i + 1, by omega, by omega, ?_⟩
  refine vk 2
 focus
  refine zB (zB (zA rfl (v0s (ve (True ∧ 0 < 3) (vF ((↑i : Int) < ↑(List.length A)) (zQ (zH (zH (zP rfl (zC (zD (zB (zB ?_)))))))))))))
  refine zA rfl (veT (zF ?_))
  rotate_left
 refine zW (fun (i : Nat) => fr 85 [(2, D.own 0 0), (3, D.own 1 0), (6, iD ↑i)]) (fun (i : Nat) => [fB1 (.row (nsD A) A.length) (.row (rwsD l) l.length) (.row (vlsD l) l.length), rB (.row (nsD A) A.length) (.row (rwsD l) l.length) (.row (isD l) l.length)]) (fun i => l.length - i) (fun (i : Nat) => i ≤ l.length) 0 ?_ ?_ ?_
 ·omega
 ·refine vk 2
 clear h1 h2 i
 rintro i h1
 rcases Nat.lt_or_ge i l.length with h2 | h2
 ·have hpm := zAt l default i h2
  have hx := zFj l h2
  have hy := zS3 l h2
  have hz := zGw l h2
  have hne : rwsD l ≠ [] := zY (by simp; omega)
  have hne2 : vlsD l ≠ [] := zY (by simp; omega)
  have hne3 : isD l ≠ [] := zY (by simp; omega)
  have hrp := hr _ hpm
  have hvp := hv _ hpm
  generalize l.getD i default = p at *
  have hsa := zWd p.1 _ rfl hrp
  have hof := of_c p.2 (by omega)
  have hcm := zSu p.2 p.2 (Sm.of (by omega)) (Sm.of (by omega))
  have e0 : cmpD (p.2 : Int) (p.2 : Int) = 0 := by rcases zA3 (p.2 : Int) p.2 with h | h | h <;> omega
  rw [e0] at hcm
  have m1 := zMf (n := p.2) (by omega)
  focus
   refine zB (zB (zA rfl (v0s (ve (True ∧ 0 < 2) (vT ((↑i : Int) < ↑(List.length l)) (zG (zC (zD (zB (zF (zB (vd [0, 2, 5, 7, 1, 3, 4, 6, 8, 9, 10, 11, 12, 13, 15, 18, 20, 14, 16, 17, 19, 21, 22, 23, 24, 25, 26, 27] (vr 6 (True ∧ True ∧ 0 < 2 ∧ ix ↑i ↑(List.length l) (rwsD l ≠ [])) ?_)))))))))))))
   refine vp 60 i (rwsD l) (vr 1 (0 < List.length (List.drop i (rwsD l))) (vsh 61 hx (vr 2 (0 < 2 ∧ ix ↑i ↑(List.length l) (rwsD l ≠ [])) (vp 65 i (rwsD l) (vr 1 (0 < List.length (List.drop i (rwsD l))) (vsh 66 hx (vc hsa (vr 8 (True ∧ True ∧ 0 < 1 ∧ ix ↑i ↑(List.length l) (vlsD l ≠ [])) (vp 73 i (vlsD l) (vr 1 (0 < List.length (List.drop i (vlsD l))) (vsh 74 hy (vr 2 (0 < 1 ∧ ix ↑i ↑(List.length l) (isD l ≠ [])) (vp 78 i (isD l) ?_)))))))))))))
   refine vr 1 (0 < List.length (List.drop i (isD l))) (vsh 79 hz (vr 1 (u6 (↑(Prod.snd p) : Int)) (vc hof (vc hcm (veT (vf (zG (zE (zC (zD (zA rfl (vr 3 (i6 (↑i + 1)) (vnil ?_)))))))))))))
   refine zC ?_
   rotate_left
  refine ⟨i + 1, by omega, by omega, ?_⟩
  refine vk 2
 ·focus
   refine zB (zB (zA rfl (v0s (ve (True ∧ 0 < 2) (vF ((↑i : Int) < ↑(List.length l)) (zQ (zH (zH (zP rfl (zC (zD (zB (zA rfl ?_)))))))))))))
   refine veT (zM (vret (True) (.inr rfl)))
set_option maxHeartbeats 4000000 in
theorem equal_c (A : List Nat) (l : List (Rw × Nat)) (hA : A.length ≤ 1000) (hl : l.length ≤ 1000000) (hr : ∀ p ∈ l, p.1.length ≤ 1000000000) (hv : ∀ p ∈ l, Sm p.2) : Pure Tryd.prog 25 [fcD A l, fcD A l] [] (bD true) := by
 refine zL zBo mixed Tryd.func25 rfl ?_
 focus
  refine zB (zA rfl (v0s (veT (zB (zB (zA rfl (vew [] [(7, false), (16, false)] (True ∧ 0 < 3 ∧ True ∧ 0 < 3 ∧ True ∧ ((↑(List.length A) : Int) != (↑(List.length A) : Int)) = false ∧ True ∧ 0 < 2 ∧ True ∧ 0 < 2 ∧ True ∧ ((↑(List.length l) : Int) != (↑(List.length l) : Int)) = false ∧ True ∧ 0 < 1 ∧ True ∧ 0 < 1 ∧ True) (zFy (t := (↑(List.length l) : Int) != (↑(List.length l) : Int)) (by kernel_rfl) (by simp) (zG (zC (zD (zB (zB ?_)))))))))))))
  refine zA rfl (veT (zF ?_))
  rotate_left
 refine zW (fun (i : Nat) => fr 83 [(2, D.own 0 0), (3, D.own 1 0), (5, iD ↑i)]) (fun (i : Nat) => [fB1 (.row (nsD A) A.length) (.row (rwsD l) l.length) (.row (vlsD l) l.length), fB1 (.row (nsD A) A.length) (.row (rwsD l) l.length) (.row (vlsD l) l.length)]) (fun i => A.length - i) (fun (i : Nat) => i ≤ A.length) 0 ?_ ?_ ?_
 ·omega
 ·refine vk 2
 rintro i h1
 rcases Nat.lt_or_ge i A.length with h2 | h2
 ·have hne : nsD A ≠ [] := zY (by omega)
  have hx := zAi A i h2
  focus
   refine zB (zB (zA rfl (v0s (ve (True ∧ 0 < 3) (vT ((↑i : Int) < ↑(List.length A)) (zG (zC (zD (zB (zF (zB (vd [0, 2, 5, 7, 1, 3, 4, 6, 8, 9, 10] (vr 6 (True ∧ True ∧ 0 < 3 ∧ ix ↑i ↑(List.length A) (nsD A ≠ [])) ?_)))))))))))))
   refine vp 42 i (nsD A) (vr 1 (0 < List.length (List.drop i (nsD A))) (vsh 43 hx (vr 2 (0 < 3 ∧ ix ↑i ↑(List.length A) (nsD A ≠ [])) (vp 47 i (nsD A) (vr 1 (0 < List.length (List.drop i (nsD A))) (vsh 48 hx (veT (zFy (t := (↑(List.getD A i 0) : Int) != (↑(List.getD A i 0) : Int)) (by kernel_rfl) (by simp) (zG (zE (zC (zD (zA rfl ?_)))))))))))))
   refine vr 3 (i6 (↑i + 1)) (vnil (zC ?_))
   rotate_left
  refine ⟨i + 1, by omega, by omega, ?_⟩
  refine vk 2
 focus
  refine zB (zB (zA rfl (v0s (ve (True ∧ 0 < 3) (vF ((↑i : Int) < ↑(List.length A)) (zQ (zH (zH (zP rfl (zC (zD (zB (zB ?_)))))))))))))
  refine zA rfl (veT (zF ?_))
  rotate_left
 refine zW (fun (i : Nat) => fr 83 [(2, D.own 0 0), (3, D.own 1 0), (6, iD ↑i)]) (fun (i : Nat) => [fB1 (.row (nsD A) A.length) (.row (rwsD l) l.length) (.row (vlsD l) l.length), fB1 (.row (nsD A) A.length) (.row (rwsD l) l.length) (.row (vlsD l) l.length)]) (fun i => l.length - i) (fun (i : Nat) => i ≤ l.length) 0 ?_ ?_ ?_
 ·omega
 ·refine vk 2
 clear h1 h2 i
 rintro i h1
 rcases Nat.lt_or_ge i l.length with h2 | h2
 ·have hpm := zAt l default i h2
  have hx := zFj l h2
  have hy := zS3 l h2
  have hne : rwsD l ≠ [] := zY (by simp; omega)
  have hne2 : vlsD l ≠ [] := zY (by simp; omega)
  have hrp := hr _ hpm
  have hvp := hv _ hpm
  generalize l.getD i default = p at *
  have hsa := zWd p.1 _ rfl hrp
  have hcm := zSu p.2 p.2 hvp hvp
  have e0 : cmpD (p.2 : Int) (p.2 : Int) = 0 := by rcases zA3 (p.2 : Int) p.2 with h | h | h <;> omega
  rw [e0] at hcm
  focus
   refine zB (zB (zA rfl (v0s (ve (True ∧ 0 < 2) (vT ((↑i : Int) < ↑(List.length l)) (zG (zC (zD (zB (zF (zB (vd [0, 2, 5, 7, 1, 3, 4, 6, 8, 9, 10, 11, 12, 13, 15, 18, 20, 14, 16, 17, 19, 21, 22, 23, 24, 25] (vr 6 (True ∧ True ∧ 0 < 2 ∧ ix ↑i ↑(List.length l) (rwsD l ≠ [])) ?_)))))))))))))
   refine vp 60 i (rwsD l) (vr 1 (0 < List.length (List.drop i (rwsD l))) (vsh 61 hx (vr 2 (0 < 2 ∧ ix ↑i ↑(List.length l) (rwsD l ≠ [])) (vp 65 i (rwsD l) (vr 1 (0 < List.length (List.drop i (rwsD l))) (vsh 66 hx (vc hsa (vr 8 (True ∧ True ∧ 0 < 1 ∧ ix ↑i ↑(List.length l) (vlsD l ≠ [])) (vp 73 i (vlsD l) (vr 1 (0 < List.length (List.drop i (vlsD l))) (vsh 74 hy (vr 2 (0 < 1 ∧ ix ↑i ↑(List.length l) (vlsD l ≠ [])) (vp 78 i (vlsD l) ?_)))))))))))))
   refine vr 1 (0 < List.length (List.drop i (vlsD l))) (vsh 79 hy (vc hcm (veT (vf (zG (zE (zC (zD (zA rfl (vr 3 (i6 (↑i + 1)) (vnil (zC ?_))))))))))))
   rotate_left
  refine ⟨i + 1, by omega, by omega, ?_⟩
  refine vk 2
 ·focus
   refine zB (zB (zA rfl (v0s (ve (True ∧ 0 < 2) (vF ((↑i : Int) < ↑(List.length l)) (zQ (zH (zH (zP rfl (zC (zD (zB (zA rfl ?_)))))))))))))
   refine veT (zM (vret (True) (.inr rfl)))
end
end Go.Proofs.YtmfamhoopjeaiaaDoor

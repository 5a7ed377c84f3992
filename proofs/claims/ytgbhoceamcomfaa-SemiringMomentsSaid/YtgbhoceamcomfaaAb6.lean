/- The operations that only compute: the rest, and all together. -/
import Derived.Test.YtgbhoceamcomfaaAb5
namespace Go.Proofs.Ytgbhoceamcomfaa
open Go.RowKit
set_option linter.unusedVariables false
set_option linter.unusedSimpArgs false
section
variable {P : Program} {T : Par} {I : Im} {w : World} {β : Be} {sl : List D} {st : List Bk} {a : Act}
theorem run_bound {v : Value} {k : IntKind} {i : Int} (hv : v = .int k i) {y : Nat} (h0 : 0 ≤ i) (h1 : i.toNat ≤ y) (code : BoundsCode) (W : World) : (Instr.sliceBound v y code).run P W = .ok i.toNat W := by
  subst hv
  have : i ≤ (y : Int) := by omega
  simp [Instr.sliceBound, asIntOf, Sem.run_bind, h0, this]
/-- what a bound says of its value -/
theorem bound_rel {x : Option D} {u : Option Value} {y : Nat} {p : Prop} {n : Nat} (hn : x.isSome = u.isSome) (hx : ∀ d v, x = some d → u = some v → Rel I w β d v) (h : aBound x y = some (p, n)) (hp : p) :
    (x = none ∧ u = none ∧ n = y) ∨ ∃ k i, u = some (.int k i) ∧ 0 ≤ i ∧ n = i.toNat := by
  unfold aBound at h
  split at h
  · cases u with
    | none => cases h; exact .inl ⟨rfl, rfl, rfl⟩
    | some v => simp at hn
  · rename_i k i
    cases u with
    | none => simp at hn
    | some v =>
      have := hx _ _ rfl rfl
      simp only [Rel] at this
      cases h
      subst this
      exact .inr ⟨k, i, rfl, hp, rfl⟩
  · cases h
/-- the bounds of a slice expression: max, if given, is high -/
theorem run_bounds {b : Bool} {len cap l h c : Nat} {lo hi mx : Option Value} (hlo : (lo = none ∧ l = 0) ∨ ∃ k i, lo = some (.int k i) ∧ 0 ≤ i ∧ l = i.toNat)
    (hhi : (hi = none ∧ h = len ∧ mx = none) ∨ ∃ k i, hi = some (.int k i) ∧ 0 ≤ i ∧ h = i.toNat)
    (hmx : (mx = none ∧ c = cap) ∨ ∃ k i, mx = some (.int k i) ∧ 0 ≤ i ∧ h = i.toNat ∧ c = h) (h1 : l ≤ h) (h2 : h ≤ cap) (W : World) :
    (Instr.sliceBounds b len cap lo hi mx).run P W = .ok (l, h, c) W := by
  rcases hmx with ⟨rfl, rfl⟩ | ⟨km, im, rfl, hm1, hm2, rfl⟩
  · rcases hhi with ⟨rfl, rfl, _⟩ | ⟨kh, ih, rfl, hh1, rfl⟩
    · rcases hlo with ⟨rfl, rfl⟩ | ⟨kl, il, rfl, hl1, rfl⟩
      · simp [Instr.sliceBounds]
      · simp [Instr.sliceBounds, Sem.run_bind, run_bound rfl hl1 h1]
    · rcases hlo with ⟨rfl, rfl⟩ | ⟨kl, il, rfl, hl1, rfl⟩
      · simp [Instr.sliceBounds, Sem.run_bind, run_bound rfl hh1 h2]
      · simp [Instr.sliceBounds, Sem.run_bind, run_bound rfl hh1 h2, run_bound rfl hl1 h1]
  · rcases hhi with ⟨_, _, h3⟩ | ⟨kh, ih, rfl, hh1, rfl⟩
    · cases h3
    · have e1 := fun W => run_bound (P := P) (v := .int km im) rfl hm1 (y := cap) (by omega) (if b then .slice3Acap else .slice3Alen) W
      have e2 := fun W => run_bound (P := P) (v := .int kh ih) rfl hh1 (y := im.toNat) (by omega) .slice3B W
      rcases hlo with ⟨rfl, rfl⟩ | ⟨kl, il, rfl, hl1, rfl⟩
      · simp [Instr.sliceBounds, Sem.run_bind, e1, e2, hm2]
      · have e3 := fun W => run_bound (P := P) (v := .int kl il) rfl hl1 (y := im.toNat) (by omega) .slice3C W
        simp [Instr.sliceBounds, Sem.run_bind, e1, e2, e3, hm2]
theorem yl_slice {t : TypeId} {x : D} {u : Value} {lo hi mx : Option D} {lv hv mv : Option Value} {p : Prop} {d : D} (hx : Rel I w β x u)
    (n1 : lo.isSome = lv.isSome) (n2 : hi.isSome = hv.isSome) (n3 : mx.isSome = mv.isSome)
    (r1 : ∀ d v, lo = some d → lv = some v → Rel I w β d v) (r2 : ∀ d v, hi = some d → hv = some v → Rel I w β d v) (r3 : ∀ d v, mx = some d → mv = some v → Rel I w β d v)
    (hnm : mx.isSome = true → hi.isSome = true) (he : aSlice P t x lo hi mx = .lit p d) (hp : p) : Yl P I w β (Instr.sliceAt t u lv hv mv) d := by
  unfold aSlice at he
  split at he
  · cases he
  · rename_i pl l hlo
    have L := fun hpl => bound_rel n1 r1 hlo hpl
    have L' : pl → (lv = none ∧ l = 0) ∨ ∃ k i, lv = some (.int k i) ∧ 0 ≤ i ∧ l = i.toNat := fun hpl => (L hpl).imp (fun h => ⟨h.2.1, h.2.2⟩) id
    split at he
    · rename_i s hu
      simp only [Rel] at hx; subst hx
      split at he
      · rename_i ph h hhi
        simp only [Eff.lit.injEq] at he
        obtain ⟨rfl, rfl⟩ := he
        obtain ⟨hp1, hp2, hp3, hp4⟩ := hp
        have hm : mv = none := by cases mv <;> simp_all
        subst hm
        have H := bound_rel n2 r2 hhi hp2
        have H' : (hv = none ∧ h = s.size ∧ (none : Option Value) = none) ∨ ∃ k i, hv = some (.int k i) ∧ 0 ≤ i ∧ h = i.toNat := H.imp (fun h => ⟨h.2.1, h.2.2, rfl⟩) id
        refine Yl.mk (fun W => ?_) (Rel.valI _)
        have hb := run_bounds (P := P) (b := false) (cap := s.size) (L' hp1) H' (.inl ⟨rfl, rfl⟩) hp3 hp4 W
        simp [Instr.sliceAt, Instr.slice, Sem.run_bind, run_underlying hu, hb]
      · cases he
    · rename_i e k off n m wh hu
      split at he
      · rename_i ph h sz hhi hs
        split at he
        · rename_i pm c hmx
          simp only [Eff.lit.injEq] at he
          obtain ⟨rfl, rfl⟩ := he
          obtain ⟨hp1, hp2, hp3, hp4, hp5, hp6, rfl⟩ := hp
          have H := bound_rel n2 r2 hhi hp2
          have M := bound_rel n3 r3 hmx hp3
          have key : ∀ (ad : Option Addr) (cap : Nat) (W : World), n ≤ cap → ∃ c', (Instr.sliceAt t (.slice ad n cap) lv hv mv).run P W = .ok (.slice (if c' = l then ad else ad.map (·.add (l * sz))) (c - l) (c' - l)) W ∧ c ≤ c' ∧ c' ≤ cap ∧ (mx = none → c' = cap) := by
            intro ad cap W hcap
            have H' : (hv = none ∧ c = n ∧ mv = none) ∨ ∃ k i, hv = some (.int k i) ∧ 0 ≤ i ∧ c = i.toNat := by
              rcases H with ⟨h1, h2, h3⟩ | h
              · left
                refine ⟨h2, h3, ?_⟩
                cases hm : mx with
                | none => rw [hm] at n3; cases mv <;> simp_all
                | some z => have := hnm (by rw [hm]; rfl); rw [h1] at this; simp at this
              · exact .inr h
            rcases M with ⟨m1, m2, m3⟩ | ⟨km, im, m1, m2, m3⟩
            · have hb := run_bounds (P := P) (b := true) (cap := cap) (c := cap) (L' hp1) H' (.inl ⟨m2, rfl⟩) hp5 (by omega) W
              exact ⟨cap, by simp [Instr.sliceAt, Instr.slice, Sem.run_bind, run_underlying hu, hb, run_sz hs], by omega, by omega, fun _ => rfl⟩
            · have hb := run_bounds (P := P) (b := true) (cap := cap) (c := c) (L' hp1) H' (.inr ⟨km, im, m1, m2, m3, rfl⟩) hp5 (by omega) W
              refine ⟨c, by simp [Instr.sliceAt, Instr.slice, Sem.run_bind, run_underlying hu, hb, run_sz hs], by omega, by omega, fun hm => ?_⟩
              rw [hm, m1] at n3; simp at n3
          have key2 : ∀ (ad : Option Addr) (cap : Nat), n ≤ cap → ∃ c', (∀ W, (Instr.sliceAt t (.slice ad n cap) lv hv mv).run P W = .ok (.slice (if c' = l then ad else ad.map (·.add (l * sz))) (c - l) (c' - l)) W) ∧ c ≤ c' ∧ c' ≤ cap ∧ (mx = none → c' = cap) := by
            intro ad cap hcap
            obtain ⟨c1, _, h2, h3, h4⟩ := key ad cap w hcap
            rcases M with ⟨m1, m2, m3⟩ | ⟨km, im, m1, m2, m3⟩
            · refine ⟨cap, fun W => ?_, by omega, by omega, fun _ => rfl⟩
              obtain ⟨c2, k1, _, _, k4⟩ := key ad cap W hcap
              rw [k1, k4 m1]
            · refine ⟨c, fun W => ?_, by omega, by omega, fun hm => ?_⟩
              · have H' : (hv = none ∧ c = n ∧ mv = none) ∨ ∃ k i, hv = some (.int k i) ∧ 0 ≤ i ∧ c = i.toNat := by
                  rcases H with ⟨h1, h2, h3⟩ | h
                  · have := hnm (by rw [n3, m1]; rfl); rw [h1] at this; simp at this
                  · exact .inr h
                have hb := run_bounds (P := P) (b := true) (cap := cap) (c := c) (L' hp1) H' (.inr ⟨km, im, m1, m2, m3, rfl⟩) hp5 (by omega) W
                simp [Instr.sliceAt, Instr.slice, Sem.run_bind, run_underlying hu, hb, run_sz hs]
              · rw [hm, m1] at n3; simp at n3
          simp only [Rel] at hx
          rcases hx with ⟨rfl, _, rfl⟩ | ⟨rfl, _, rfl, ad, cc, rfl, hc1, hc2⟩ | ⟨b, c0, cap, hb, rfl, h1, h2, h3⟩
          · obtain ⟨c', k1, k2, k3, k4⟩ := key2 none 0 (by omega)
            have e1 : c = 0 := by omega
            have e2 : l = 0 := by omega
            have e3 : c' = 0 := by omega
            subst e1; subst e2; subst e3
            exact Yl.mk k1 (by simp only [Rel]; exact .inl (by simp))
          · obtain ⟨c', k1, k2, k3, k4⟩ := key2 ad cc (by omega)
            have e1 : c = 0 := by omega
            have e2 : l = 0 := by omega
            subst e1; subst e2
            refine Yl.mk k1 ?_
            simp only [Rel]
            refine .inr (.inl ⟨by simp, by simp, by simp, _, _, rfl, by omega, fun h => ?_⟩)
            rcases Nat.eq_zero_or_pos c' with h0 | h0
            · omega
            · rw [if_neg (by omega)] at h
              cases ad with
              | none => have := hc2 rfl; omega
              | some _ => simp at h
          · obtain ⟨c', k1, k2, k3, k4⟩ := key2 (some ⟨b, off, none⟩) cap h1
            refine Yl.mk k1 ?_
            simp only [Rel]
            by_cases hcl : c' = l
            · have e1 : c = l := by omega
              rw [if_pos hcl]
              by_cases hwh : (wh && mx.isNone && lo.isNone) = true
              · simp only [Bool.and_eq_true, Option.isNone_iff_eq_none] at hwh
                obtain ⟨⟨w1, w2⟩, w3⟩ := hwh
                obtain ⟨rfl, rfl⟩ := h3 w1
                have e2 : l = 0 := by
                  rcases L hp1 with ⟨_, _, h⟩ | ⟨k, i, h, _⟩
                  · exact h
                  · rw [w3, h] at n1; simp at n1
                refine .inr (.inr ⟨b, cap, c' - l, hb, by simp [e2], by omega, by omega, fun _ => ⟨by simp [e2], ?_⟩⟩)
                have := k4 w2
                omega
              · refine .inr (.inl ⟨by omega, by rw [show c - l = 0 by omega]; simp, by cases hz : (wh && mx.isNone && lo.isNone) <;> simp_all, some ⟨b, off, none⟩, c' - l, ?_, by omega, fun h => by cases h⟩)
                rw [show c - l = 0 by omega]
            · rw [if_neg hcl]
              refine .inr (.inr ⟨b, c0, c' - l, hb, by simp [Addr.add_mid], by omega, by omega, fun hwh => ?_⟩)
              simp only [Bool.and_eq_true, Option.isNone_iff_eq_none] at hwh
              obtain ⟨⟨w1, w2⟩, w3⟩ := hwh
              obtain ⟨rfl, rfl⟩ := h3 w1
              have e2 : l = 0 := by
                rcases L hp1 with ⟨_, _, h⟩ | ⟨k, i, h, _⟩
                · exact h
                · rw [w3, h] at n1; simp at n1
              have := k4 w2
              exact ⟨by simp [e2], by omega⟩
        · cases he
      · cases he
    · rename_i e x hu hnos
      split at he
      · rename_i cs n sz hrow hs
        split at he
        · rename_i ph h hhi
          split at he
          · rename_i pm c hmx
            simp only [Eff.lit.injEq] at he
            obtain ⟨rfl, rfl⟩ := he
            obtain ⟨hp1, hp2, hp3, hp4, hp5, hp6, rfl⟩ := hp
            have H := bound_rel n2 r2 hhi hp2
            have M := bound_rel n3 r3 hmx hp3
            have hx' : ∃ ad cap, u = .slice ad n cap ∧ n ≤ cap ∧ cap ≤ maxLen ∧ (ad = none → cap = 0) ∧ (cs = [] ∨ ∃ b o, ad = some ⟨b, o, none⟩ ∧ RelC I w cs b o) := by
              unfold asRow at hrow
              split at hrow
              · cases hrow; simpa only [Rel] using hx
              · cases hrow
                simp only [Rel] at hx
                subst hx
                exact ⟨none, 0, rfl, by omega, by simp [maxLen], fun _ => rfl, .inl rfl⟩
              · cases hrow
            obtain ⟨ad, cap, rfl, h1, h2, h3, h4⟩ := hx'
            have H' : (hv = none ∧ c = n ∧ mv = none) ∨ ∃ k i, hv = some (.int k i) ∧ 0 ≤ i ∧ c = i.toNat := by
              rcases H with ⟨h1, h2, h3⟩ | h
              · left
                refine ⟨h2, h3, ?_⟩
                cases hm : mx with
                | none => rw [hm] at n3; cases mv <;> simp_all
                | some z => have := hnm (by rw [hm]; rfl); rw [h1] at this; simp at this
              · exact .inr h
            have fin : ∀ c', c ≤ c' → c' ≤ cap → Rel I w β (.row ((cs.drop (l * sz)).take ((c - l) * sz)) (c - l)) (.slice (if c' = l then ad else ad.map (·.add (l * sz))) (c - l) (c' - l)) := by
              intro c' k2 k3
              simp only [Rel]
              refine ⟨_, _, rfl, by omega, by omega, fun h => ?_, ?_⟩
              · by_cases hcl : c' = l
                · omega
                · rw [if_neg hcl] at h
                  cases ad with
                  | none => have := h3 rfl; omega
                  | some _ => simp at h
              · by_cases hcl : c' = l
                · left
                  have : c - l = 0 := by omega
                  simp [this]
                · rw [if_neg hcl]
                  rcases h4 with h4 | ⟨b, o, rfl, h4⟩
                  · left; simp [h4]
                  · exact .inr ⟨b, o + l * sz, by simp [Addr.add_mid], (h4.drop _).take _⟩
            rcases M with ⟨m1, m2, m3⟩ | ⟨km, im, m1, m2, m3⟩
            · refine Yl.mk (fun W => ?_) (fin cap (by omega) (Nat.le_refl _))
              have hb := run_bounds (P := P) (b := true) (cap := cap) (c := cap) (L' hp1) H' (.inl ⟨m2, rfl⟩) hp5 (by omega) W
              simp [Instr.sliceAt, Instr.slice, Sem.run_bind, run_underlying hu, hb, run_sz hs]
            · refine Yl.mk (fun W => ?_) (fin c (Nat.le_refl _) (by omega))
              have hb := run_bounds (P := P) (b := true) (cap := cap) (c := c) (L' hp1) H' (.inr ⟨km, im, m1, m2, m3, rfl⟩) hp5 (by omega) W
              simp [Instr.sliceAt, Instr.slice, Sem.run_bind, run_underlying hu, hb, run_sz hs]
          · cases he
        · cases he
      · cases he
    · cases he
end
end Go.Proofs.Ytgbhoceamcomfaa

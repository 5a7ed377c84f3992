/- Texts of this claim, joined: Ab19 Ab20 Ab32 Ab21 Ab22 Ab23 Ab24 Ab27 -/
import Derived.Test.YtmfamhoopjeaiaaDoorK02
set_option linter.unusedVariables false
set_option linter.unusedSimpArgs false
namespace Go.Proofs.YtmfamhoopjeaiaaDoor
section
open Go.RowKit
section
variable {P : Program} {T : Par} {ops : Array Oper} {ord : List Nat} {W : Nat → Nat → Bool} {Lt : Nat → List Nat} {S : Nat → List D} {R : Nat → List Bk} {Q : Exit → Act → World → Prop}
def LateAt (P : Program) (T : Par) (ops : Array Oper) (W : Nat → Nat → Bool) (S : Nat → List D) (R : Nat → List Bk) (s i : Nat) : Prop := ∃ o n, ops[i]? = some o ∧ isE T o.op = false ∧ zC6 o.op = false ∧ o.guard = none ∧ (∀ d, o.dst = some d → d ∉ o.looksAt ops) ∧
 (∀ (j : Nat) (oj : Oper) (d : Nat), ops[j]? = some oj → i ≠ j → oj.dst = some d → d ∈ o.looksAt ops → W i j = true) ∧ zGt P T ops o n (S s) (R s)
structure Inv (P : Program) (T : Par) (ops : Array Oper) (ord : List Nat) (W : Nat → Nat → Bool) (S : Nat → List D) (R : Nat → List Bk) (β0 : Be) (I0 : Im) (w0 : World) (df : List Deferred) (s t : Nat) (listed : Array Bool) (a : Act) (w : World) : Prop where
 size : listed.size = ops.size
 cl : Closed .any ops listed
 tn : t ≤ ops.size
 seg : Seg P T ops ord S R s t
 lo : ∀ p i, p < s → ord[p]? = some i → ¬ Ls listed i → LateAt P T ops W S R s i
 hi : ∀ p i, t ≤ p → ord[p]? = some i → ¬ Ls listed i
 atT : t = ops.size ∨ ∃ i o, ord[t]? = some i ∧ ops[i]? = some o ∧ isE T o.op = true
 df : a.defers = df
 mo : ∀ p i, p < s → ord[p]? = some i → ¬ Ls listed i → ∀ q, p ≤ q → q < s → (R q).length ≤ (R (q + 1)).length
 ex : ∃ β I SL, RelT I w β SL a.tmps.toList ∧ SL.length = (S s).length ∧
  (∀ x, (∀ p i o, s ≤ p → p < t → ord[p]? = some i → Ls listed i → ops[i]? = some o → o.dst ≠ some x) → (∀ p i o, p < s → ord[p]? = some i → ¬ Ls listed i → ops[i]? = some o → o.dst ≠ some x) → SL[x]? = (S s)[x]?) ∧
  (∀ p i o x, s ≤ p → p < t → ord[p]? = some i → Ls listed i → ops[i]? = some o → o.dst = some x → SL[x]? = (S (p + 1))[x]?) ∧
  (∀ k b c, β k = some (b, c) → ∃ e, (R t)[k]? = some e ∧ OwnRel I w β b c e) ∧ Inj β ∧ FZ β I (R t) ∧ ImB I w ∧ (Stp β0 I0 w0 β I w ∧ Kp T β0 β) ∧
  (∀ k x, β k = some x → k < (R s).length ∨ ∃ p i, s ≤ p ∧ p < t ∧ ord[p]? = some i ∧ Ls listed i ∧ (R p).length ≤ k ∧ k < (R (p + 1)).length) ∧
  (∀ p i, p < s → ord[p]? = some i → ¬ Ls listed i → ∀ k, (R p).length ≤ k → k < (R (p + 1)).length → β k = none)
variable {β0 : Be} {I0 : Im} {w0 : World} {df : List Deferred} {s t : Nat} {listed : Array Bool} {a : Act} {w : World}
theorem zT2 (F : RegF T ops ord W Lt) {i : Nat} {o : Oper} (ho : ops[i]? = some o) : ord[pos ord i]? = some i ∧ pos ord i < ops.size := by
 have hi : i ∈ ord := (F.mem i).1 (Array.getElem?_eq_some_iff.1 ho).1
 have := zKb hi
 rw [F.len] at this
 exact this
theorem Inv.place (F : RegF T ops ord W Lt) (h : Inv P T ops ord W S R β0 I0 w0 df s t listed a w) {i : Nat} (hr : i ∈ Region.ready .any ops listed) : ∃ o, ops[i]? = some o ∧ ord[pos ord i]? = some i ∧ (pos ord i < t ∨ pos ord i = t) := by
 obtain ⟨hn, o, ho, hd⟩ := (zAj h.size).1 hr
 obtain ⟨hp, hlt⟩ := zT2 F ho
 refine ⟨o, ho, hp, ?_⟩
 ·rcases Nat.lt_trichotomy (pos ord i) t with h1 | h1 | h1
  ·exact .inl h1
  ·exact .inr h1
  ·exfalso
   rcases h.atT with h2 | ⟨j, oj, j1, j2, j3⟩
   ·omega
   ·have hpj : pos ord j = t := zAa F.nodup j1
    have hne : j ≠ i := fun e => by rw [e] at hpj; omega
    obtain ⟨d, d1, d2⟩ := F.eff2 j i oj o j2 ho hne j3 (by omega)
    have hod : d < ops.size := (F.dep i o ho d d1).1
    have hpd := zKb ((F.mem d).1 hod)
    exact h.hi _ d (by omega) hpd.1 (hd d d1)
theorem Inv.look (F : RegF T ops ord W Lt) (h : Inv P T ops ord W S R β0 I0 w0 df s t listed a w) {i : Nat} {o : Oper} (ho : ops[i]? = some o) (hn : ¬ Ls listed i) (hd : ∀ d ∈ deps o, Ls listed d) (h1 : s ≤ pos ord i) (h2 : pos ord i < t) {SL : List D}
  (k1 : SL.length = (S s).length) (k2 : ∀ x, (∀ p i o, s ≤ p → p < t → ord[p]? = some i → Ls listed i → ops[i]? = some o → o.dst ≠ some x) → (∀ p i o, p < s → ord[p]? = some i → ¬ Ls listed i → ops[i]? = some o → o.dst ≠ some x) → SL[x]? = (S s)[x]?)
  (k3 : ∀ p i o x, s ≤ p → p < t → ord[p]? = some i → Ls listed i → ops[i]? = some o → o.dst = some x → SL[x]? = (S (p + 1))[x]?) :
  ∀ x ∈ o.looksAt ops, SL.getD x .unk = (S (pos ord i)).getD x .unk := by
 intro x hx
 have goal : SL[x]? = (S (pos ord i))[x]? := by
  by_cases hw : ∃ p j oj, s ≤ p ∧ p < t ∧ ord[p]? = some j ∧ Ls listed j ∧ ops[j]? = some oj ∧ oj.dst = some x
  ·obtain ⟨p, j, oj, a1, a2, a3, a4, a5, a6⟩ := hw
   rw [k3 p j oj x a1 a2 a3 a4 a5 a6]
   have hpj : pos ord j = p := zAa F.nodup a3
   have hne : i ≠ j := fun e => hn (e ▸ a4)
   have hlt : p < pos ord i := by
    rcases F.haz i j o oj x ho a5 hne a6 hx with hz | hz
    ·rcases Nat.lt_or_ge p (pos ord i) with h3 | h3
     ·exact h3
     ·exfalso
      -- an ancestor lies before
      have := zLc F i o j ho (Array.getElem?_eq_some_iff.1 a5).1 hz
      omega
    ·exact absurd (zCa F h.cl j oj i a5 (Array.getElem?_eq_some_iff.1 ho).1 (zC9 h.cl a5 a4) hz) hn
   refine ((h.seg.slot' (by omega) (show p + 1 ≤ pos ord i by omega) (by omega)).2 x fun r k ok b1 b2 b3 b4 b5 => ?_).symm
   have hpk : pos ord k = r := zAa F.nodup b3
   have hkj : k ≠ j := fun e => by rw [e, hpj] at hpk; omega
   exact F.dst k j ok oj x b4 a5 hkj b5 a6
  ·rw [k2 x (fun p j oj a1 a2 a3 a4 a5 a6 => hw ⟨p, j, oj, a1, a2, a3, a4, a5, a6⟩) (fun p j oj a1 a2 a3 a4 a5 => by
    have hpj : pos ord j = p := zAa F.nodup a2
    have hne : i ≠ j := fun e => by rw [← e] at hpj; omega
    rcases F.haz i j o oj x ho a4 hne a5 hx with hz | hz
    ·exact a3 (zCa F h.cl i o j ho (Array.getElem?_eq_some_iff.1 a4).1 hd hz)
    ·have := zLc F j oj i a4 (Array.getElem?_eq_some_iff.1 ho).1 hz
     omega)]
   refine ((h.seg.slot' (Nat.le_refl _) h1 (by omega)).2 x fun r k ok b1 b2 b3 b4 b5 => ?_).symm
   have hpk : pos ord k = r := zAa F.nodup b3
   have hne : i ≠ k := fun e => by rw [← e] at hpk; omega
   rcases F.haz i k o ok x ho b4 hne b5 hx with hz | hz
   ·have : Ls listed k := zCa F h.cl i o k ho (Array.getElem?_eq_some_iff.1 b4).1 hd hz
    exact hw ⟨r, k, ok, b1, by omega, b3, this, b4, b5⟩
   ·have := zLc F k ok i b4 (Array.getElem?_eq_some_iff.1 ho).1 hz
    omega
 rw [List.getD_eq_getElem?_getD, List.getD_eq_getElem?_getD, goal]
theorem Inv.lookL (F : RegF T ops ord W Lt) (h : Inv P T ops ord W S R β0 I0 w0 df s t listed a w) {i : Nat} {o : Oper} (ho : ops[i]? = some o) (hn : ¬ Ls listed i) (hd : ∀ d ∈ deps o, Ls listed d) (h1 : pos ord i < s) (hself : ∀ d, o.dst = some d → d ∉ o.looksAt ops)
  (hlate : ∀ (j : Nat) (oj : Oper) (d : Nat), ops[j]? = some oj → i ≠ j → oj.dst = some d → d ∈ o.looksAt ops → W i j = true) {SL : List D}
  (k2 : ∀ x, (∀ p i o, s ≤ p → p < t → ord[p]? = some i → Ls listed i → ops[i]? = some o → o.dst ≠ some x) → (∀ p i o, p < s → ord[p]? = some i → ¬ Ls listed i → ops[i]? = some o → o.dst ≠ some x) → SL[x]? = (S s)[x]?) :
  ∀ x ∈ o.looksAt ops, SL.getD x .unk = (S s).getD x .unk := by
 intro x hx
 rw [List.getD_eq_getElem?_getD, List.getD_eq_getElem?_getD, k2 x (fun p j oj a1 a2 a3 a4 a5 a6 => ?_) (fun p j oj a1 a2 a3 a4 a5 => ?_)]
 ·have hpj : pos ord j = p := zAa F.nodup a3
  have hne : i ≠ j := fun e => by rw [← e] at hpj; omega
  have := zLc F i o j ho (Array.getElem?_eq_some_iff.1 a5).1 (hlate j oj x a5 hne a6 hx)
  omega
 ·by_cases hne : i = j
  ·subst hne
   rw [ho] at a4; cases a4
   exact hself x a5 hx
  ·exact a3 (zCa F h.cl i o j ho (Array.getElem?_eq_some_iff.1 a4).1 hd (hlate j oj x a4 hne a5 hx))
theorem Inv.grow (h : Inv P T ops ord W S R β0 I0 w0 df s t listed a w) {p i : Nat} (hp : p < s) (hi : ord[p]? = some i) (hn : ¬ Ls listed i) : ∀ m q, p ≤ q → q + m ≤ s → (R q).length ≤ (R (q + m)).length := by
 intro m
 induction m with
 | zero => intro q _ _; exact Nat.le_refl _
 | succ m ih =>
  intro q hq hm
  have h1 := ih q hq (by omega)
  have h2 := h.mo p i hp hi hn (q + m) (by omega) (by omega)
  rw [show q + (m + 1) = q + m + 1 by omega]
  omega
theorem Inv.grow' (h : Inv P T ops ord W S R β0 I0 w0 df s t listed a w) {p i q r : Nat} (hp : p < s) (hi : ord[p]? = some i) (hn : ¬ Ls listed i) (h1 : p ≤ q) (h2 : q ≤ r) (h3 : r ≤ s) : (R q).length ≤ (R r).length := by
 have := h.grow hp hi hn (r - q) q h1 (by omega)
 rwa [show q + (r - q) = r by omega] at this
theorem Inv.next (F : RegF T ops ord W Lt) (h : Inv P T ops ord W S R β0 I0 w0 df s t listed a w) {i : Nat} {o : Oper} (hr : i ∈ Region.ready .any ops listed) (ho : ops[i]? = some o) (h1 : s ≤ pos ord i) (h2 : pos ord i < t) {β : Be} {I : Im} {SL : List D}
  (k0 : RelT I w β SL a.tmps.toList) (k1 : SL.length = (S s).length) (k2 : ∀ x, (∀ p i o, s ≤ p → p < t → ord[p]? = some i → Ls listed i → ops[i]? = some o → o.dst ≠ some x) → (∀ p i o, p < s → ord[p]? = some i → ¬ Ls listed i → ops[i]? = some o → o.dst ≠ some x) → SL[x]? = (S s)[x]?)
  (k3 : ∀ p i o x, s ≤ p → p < t → ord[p]? = some i → Ls listed i → ops[i]? = some o → o.dst = some x → SL[x]? = (S (p + 1))[x]?)
  (k4 : ∀ k b c, β k = some (b, c) → ∃ e, (R t)[k]? = some e ∧ OwnRel I w β b c e) (k5 : Inj β) (k6 : FZ β I (R t)) (k7 : ImB I w) (k8 : Stp β0 I0 w0 β I w ∧ Kp T β0 β)
  (k9 : ∀ k x, β k = some x → k < (R s).length ∨ ∃ p i, s ≤ p ∧ p < t ∧ ord[p]? = some i ∧ Ls listed i ∧ (R p).length ≤ k ∧ k < (R (p + 1)).length)
  (k10 : ∀ p i, p < s → ord[p]? = some i → ¬ Ls listed i → ∀ k, (R p).length ≤ k → k < (R (p + 1)).length → β k = none)
  {d : D} {fz : List Nat} {news : List Bk} {β' : Be} {I' : Im} {w' : World} {v : Value} (e1 : S (pos ord i + 1) = putD (S (pos ord i)) o.dst d) (e2 : R (pos ord i + 1) = zAe (R (pos ord i)) fz ++ news)
  (hout : OutN β I w (R (pos ord i)) news fz β' I' w') (hd : Rel I' w' β' d v) : Inv P T ops ord W S R β0 I0 w0 df s t (listed.setIfInBounds i true) (a.put o.dst v) w' := by
 have hisz : i < listed.size := by rw [h.size]; exact (Array.getElem?_eq_some_iff.1 ho).1
 have hls : ∀ j, Ls (listed.setIfInBounds i true) j ↔ j = i ∨ Ls listed j := fun j => zKn hisz
 have hpi : ord[pos ord i]? = some i := (zT2 F ho).1
 have hnl : ¬ Ls listed i := ((zAj h.size).1 hr).1
 -- ids of the new blocks are not taken yet
 have hfr : ∀ k, (R (pos ord i)).length ≤ k → k < (R (pos ord i + 1)).length → β k = none := by
  intro k hk1 hk2
  cases hb : β k with
  | none => rfl
  | some x =>
   exfalso
   rcases k9 k x hb with h3 | ⟨p, j, a1, a2, a3, a4, a5, a6⟩
   ·have := (h.seg.store' (Nat.le_refl _) h1 (by omega)).1
    omega
   ·rcases Nat.lt_trichotomy p (pos ord i) with h3 | h3 | h3
    ·have := (h.seg.store' (show s ≤ p + 1 by omega) (show p + 1 ≤ pos ord i by omega) (by omega)).1
     omega
    ·subst h3
     rw [hpi] at a3; cases a3
     exact hnl a4
    ·have := (h.seg.store' (show s ≤ pos ord i + 1 by omega) (show pos ord i + 1 ≤ p by omega) (by omega)).1
     omega
 have hlen : (R (pos ord i + 1)).length = (R (pos ord i)).length + news.length := by rw [e2, List.length_append, zS]
 have hle : BeLe β β' := fun k x hk => by
  rw [hout.be k ?_]
  ·exact hk
  ·rcases Nat.lt_or_ge k (R (pos ord i)).length with h3 | h3
   ·exact .inl h3
   ·rcases Nat.lt_or_ge k (R (pos ord i + 1)).length with h4 | h4
    ·rw [hfr k h3 h4] at hk; cases hk
    ·exact .inr (by omega)
 have oldlt : ∀ k b c, β k = some (b, c) → b < w.heap.size := fun k b c hk => by
  obtain ⟨e, _, h2⟩ := k4 k b c hk
  exact h2.lt
 -- an id is old, or new
 have cs : ∀ k b c, β' k = some (b, c) → β k = some (b, c) ∨ ((R (pos ord i)).length ≤ k ∧ k < (R (pos ord i)).length + news.length) := by
  intro k b c hk
  rcases Nat.lt_or_ge k (R (pos ord i)).length with h3 | h3
  ·left; rw [← hout.be k (.inl h3)]; exact hk
  ·rcases Nat.lt_or_ge k ((R (pos ord i)).length + news.length) with h4 | h4
   ·exact .inr ⟨h3, h4⟩
   ·left; rw [← hout.be k (.inr h4)]; exact hk
 have newE : ∀ k e, (R (pos ord i)).length ≤ k → news[k - (R (pos ord i)).length]? = some e → ∃ e', (R t)[k]? = some e' ∧ SameB e e' := by
  intro k e hk he
  refine (h.seg.store' (show s ≤ pos ord i + 1 by omega) (show pos ord i + 1 ≤ t by omega) (Nat.le_refl _)).2 k e ?_
  rw [e2, List.getElem?_append_right (by rw [zS]; exact hk), zS]
  exact he
 have hstp : Stp β I w β' I' w' := ⟨hout.fix, hout.ext.size, fun b hb _ => Below.block hout.ext.1 b hb, Below.os hout.ext.1, Below.tape hout.ext.1, Below.output hout.ext.1, hout.ext.2, fun k b c hk => by
   rcases cs k b c hk with h3 | ⟨h3, h4⟩
   ·exact .inl ⟨k, c, h3⟩
   ·exact .inr (hout.nb k b c h3 h4 hk).1, fun b o' hi => by
   rcases hout.im b o' hi with (hi | ⟨k', _, c', _, m1, _⟩) | hi
   ·exact .inl hi
   ·exact .inr (.inr ⟨k', c', m1⟩)
   ·exact .inr (.inl hi)⟩
 refine ⟨by rw [Array.size_setIfInBounds]; exact h.size, h.cl.set hr, h.tn, h.seg, fun p j hp hj hl => h.lo p j hp hj (fun k => hl ((hls j).2 (.inr k))), fun p j hp hj hl => ?_, h.atT, by rw [zZ]; exact h.df, fun p j hp hj hl => h.mo p j hp hj (fun k => hl ((hls j).2 (.inr k))), β', I', putD SL o.dst d, zDm (RelT.mono hout.fix β β' hle _ _ k0) hd o.dst, by rw [zEd, k1], fun x hx hx2 => ?_, fun p j oj x a1 a2 a3 a4 a5 a6 => ?_, fun k b c hk => ?_, fun k k' b c c' hk hk' => ?_, fun k b c j e hk he hj => ?_, hout.imb k7, ⟨k8.1.trans hstp, k8.2.trans hle.kp⟩, fun k x hk => ?_, fun p j hp hj hl k c1 c2 => ?_⟩
 ·rcases (hls j).1 hl with rfl | hl
  ·have := zAa F.nodup hj
   omega
  ·exact h.hi p j hp hj hl
 ·have hne : o.dst ≠ some x := hx (pos ord i) i o h1 h2 hpi ((hls i).2 (.inl rfl)) ho
  rw [zBw hne]
  exact k2 x (fun p j oj a1 a2 a3 a4 a5 => hx p j oj a1 a2 a3 ((hls j).2 (.inr a4)) a5) fun p j oj a1 a2 a3 a4 => hx2 p j oj a1 a2 (fun k => by
   rcases (hls j).1 k with rfl | k
   ·have := zAa F.nodup a2; omega
   ·exact a3 k) a4
 ·rcases (hls j).1 a4 with rfl | a4
  ·rw [ho] at a5; cases a5
   have hp := zAa F.nodup a3
   subst hp
   rw [e1, a6]
   simp only [putD]
   have hl2 : (S (pos ord j)).length = SL.length := by rw [k1]; exact (h.seg.slot' (Nat.le_refl _) h1 (by omega)).1
   rcases Nat.lt_or_ge x SL.length with h3 | h3
   ·rw [List.getElem?_set_self h3, List.getElem?_set_self (by omega)]
   ·rw [List.getElem?_eq_none (by simpa using h3), List.getElem?_eq_none (by simp; omega)]
  ·have hne : o.dst ≠ some x := fun e => F.dst j i oj o x a5 ho (fun e => hnl (e ▸ a4)) a6 e
   rw [zBw hne]
   exact k3 p j oj x a1 a2 a3 a4 a5 a6
 ·rcases cs k b c hk with h3 | ⟨h3, h4⟩
  ·obtain ⟨e, m1, m2⟩ := k4 k b c h3
   exact ⟨e, m1, OwnRel.mono m2 (Below.block hout.ext.1 b (oldlt k b c h3)) hout.fix hle⟩
  ·obtain ⟨_, e, m1, m2, _⟩ := hout.nb k b c h3 h4 hk
   obtain ⟨e', n1, n2⟩ := newE k e h3 m1
   exact ⟨e', n1, (OwnRel.same n2).1 m2⟩
 ·rcases cs k b c hk with h3 | ⟨h3, h4⟩ <;> rcases cs k' b c' hk' with h5 | ⟨h5, h6⟩
  ·exact k5 k k' b c c' h3 h5
  ·have := oldlt _ _ _ h3
   have := (hout.nb k' b c' h5 h6 hk').1
   omega
  ·have := oldlt _ _ _ h5
   have := (hout.nb k b c h3 h4 hk).1
   omega
  ·exact hout.inj k k' b c c' h3 h4 h5 h6 hk hk'
 ·rcases cs k b c hk with h3 | ⟨h3, h4⟩
  ·have hlt := oldlt _ _ _ h3
   rcases hout.im b j hj with (hi | ⟨k', hk', c', e', m1, m2, m3⟩) | hi
   ·exact k6 k b c j e h3 he hi
   ·have := k5 k' k b c' c m1 h3
    subst this
    obtain ⟨e1', n1, n2⟩ := (h.seg.store' (show s ≤ pos ord i + 1 by omega) (show pos ord i + 1 ≤ t by omega) (Nat.le_refl _)).2 k' { e' with fz := true } (by
     rw [e2, List.getElem?_append_left (by rw [zS]; exact (List.getElem?_eq_some_iff.1 m2).1), zAs, m2]
     simp [hk'])
    rw [he] at n1; cases n1
    exact ⟨n2.2.2.2.2.2 rfl, by rw [n2.1, n2.2.2.2.2.1]; exact m3⟩
   ·omega
  ·obtain ⟨_, e', m1, _, m3⟩ := hout.nb k b c h3 h4 hk
   obtain ⟨e'', n1, n2⟩ := newE k e' h3 m1
   rw [he] at n1; cases n1
   exact ⟨n2.2.2.2.2.2 (m3 j hj).1, by rw [n2.1, n2.2.2.2.2.1]; exact (m3 j hj).2⟩
 ·obtain ⟨b, c⟩ := x
  rcases cs k b c hk with h3 | ⟨h3, h4⟩
  ·rcases k9 k _ h3 with h5 | ⟨p, j, a1, a2, a3, a4, a5⟩
   ·exact .inl h5
   ·exact .inr ⟨p, j, a1, a2, a3, (hls j).2 (.inr a4), a5⟩
  ·exact .inr ⟨pos ord i, i, h1, h2, hpi, (hls i).2 (.inl rfl), h3, by omega⟩
 ·have hl' : ¬ Ls listed j := fun k => hl ((hls j).2 (.inr k))
  have g1 := h.grow' hp hj hl' (show p ≤ p + 1 by omega) (show p + 1 ≤ s by omega) (Nat.le_refl _)
  have g2 := (h.seg.store' (Nat.le_refl _) h1 (by omega)).1
  rw [hout.be k (.inl (by omega))]
  exact k10 p j hp hj hl' k c1 c2
theorem zSz (F : RegF T ops ord W Lt) (htr : ∀ (p : Nat) i o, ord[p]? = some i → ops[i]? = some o → zA1 P T ops o (S p) (R p) (Eqs (S (p + 1)) (R (p + 1)))) (hall : ∀ q, q < ord.length → ∃ i o, ord[q]? = some i ∧ ops[i]? = some o) {p i n x : Nat} {o : Oper} {b : Bk} {d : D} {q : Prop} {fz : List Nat} (hp : p < s) (hs : s ≤ ord.length) (hi : ord[p]? = some i) (ho : ops[i]? = some o) (hE : isE T o.op = false) (hl : zV T o.op = false)
  (hd : o.dst = some x) (he : aeff P T o.op o.type (evD (S s)) ((R s).take n) = .new q b d fz) (hx : (S s)[x]? = some d) (hn : n < (R s).length) : (R p).length = n ∧ (R (p + 1)).length = n + 1 := by
 obtain ⟨k1, k2⟩ := zM0 he hl hE
 have hlen : ((R s).take n).length = n := by rw [List.length_take]; omega
 rw [hlen] at k1
 have later : ∀ m, p + 1 + m ≤ s → (S (p + 1 + m))[x]? = (S (p + 1))[x]? ∨ (S (p + 1 + m))[x]? = some .unk ∨ ∃ cs n, (S (p + 1 + m))[x]? = some (.row cs n) := by
  intro m
  induction m with
  | zero => intro _; exact .inl rfl
  | succ m ih =>
   intro hm
   obtain ⟨j, oj, j1, j2⟩ := hall (p + 1 + m) (by omega)
   have hne : oj.dst ≠ some x := fun e => by
    have e1 := zAa F.nodup hi
    have e2 := zAa F.nodup j1
    exact F.dst i j o oj x ho j2 (fun e => by rw [e] at e1; omega) hd e
   rcases zV4 (htr _ j oj j1 j2) hne with h1 | h1 | h1
   ·rw [show p + 1 + (m + 1) = p + 1 + m + 1 by omega, h1]
    exact ih (by omega)
   ·rw [show p + 1 + (m + 1) = p + 1 + m + 1 by omega]
    exact .inr (.inl h1)
   ·rw [show p + 1 + (m + 1) = p + 1 + m + 1 by omega]
    exact .inr (.inr h1)
 have hx1 : (S (p + 1))[x]? = some d := by
  have := later (s - (p + 1)) (by omega)
  rw [show p + 1 + (s - (p + 1)) = s by omega, hx] at this
  rcases this with h1 | h1 | ⟨cs, n', h1⟩
  ·exact h1.symm
  ·exfalso
   simp only [Option.some.injEq] at h1
   subst h1
   rcases k1 with h | ⟨_, _, h⟩ | h <;> cases h
  ·exfalso
   simp only [Option.some.injEq] at h1
   subst h1
   rcases k1 with h | ⟨_, _, h⟩ | h <;> cases h
 rcases zJy hE (htr p i o hi ho) with ⟨_, d', fz', news, n1, n2, n3⟩ | ⟨_, n2, n3⟩
 ·have hd' : d' = d := by
   rw [n2, hd] at hx1
   simp only [putD] at hx1
   have hlt : x < (S p).length := by have := (List.getElem?_eq_some_iff.1 hx1).1; simpa using this
   rw [List.getElem?_set_self hlt] at hx1
   exact Option.some.inj hx1
  cases n1 with
  | lit h1 h2 h3 => rw [hl] at h2; cases h2
  | get h1 h2 h3 => rcases k2 _ _ _ h1 with h | ⟨_, _, _, _, h⟩ <;> cases h
  | call h1 h2 h3 => rcases k2 _ _ _ h1 with h | ⟨_, _, _, _, h⟩ <;> cases h
  | new h1 h2 h3 =>
   obtain ⟨m1, _⟩ := zM0 h1 hl hE
   rw [hd'] at m1
   have hnum : (R p).length = n := by
    rcases k1 with h | ⟨_, _, h⟩ | h <;> rcases m1 with h' | ⟨_, _, h'⟩ | h' <;> rw [h] at h' <;> cases h' <;> rfl
   exact ⟨hnum, by rw [n3, List.length_append, zS, hnum]; rfl⟩
 ·exfalso
  rw [n2, hd] at hx1
  simp only [putD] at hx1
  have hlt : x < (S p).length := by have := (List.getElem?_eq_some_iff.1 hx1).1; simpa using this
  rw [List.getElem?_set_self hlt] at hx1
  have : d = .val undef := (Option.some.inj hx1).symm
  rcases k1 with h | ⟨_, _, h⟩ | h <;> rw [this] at h <;> cases h
theorem zQd {o : Op} {ty : TypeId} {ρ : Operand → D} {st : List Bk} {f : FuncId} {xs : List D} {ks : List Nat} (h : aeff P T o ty ρ st = .call f xs ks) (hl : zV T o = false) (hE : isE T o = false) : zC6 o = true := by
 cases o <;> simp only [zV, Bool.true_eq_false] at hl <;> simp only [isE, Bool.true_eq_false, reduceCtorEq] at hE <;> simp only [aeff, reduceCtorEq] at h
 case alloc => split at h <;> cases h
 case box => split at h <;> cases h
 case buildSlice => rcases zEn h with h | ⟨_, _, _, _, h⟩ <;> cases h
 case makeSlice => rcases zEi h with h | ⟨_, _, _, _, h⟩ <;> cases h
 case makeMap => split at h <;> cases h
 case lookup => rcases zE2 h with h | ⟨_, _, h⟩ <;> cases h
 case convert =>
  split at h
  ·rcases zFp h with h | ⟨_, _, h⟩ <;> cases h
  ·simp only [Bool.not_eq_false'] at hl
   rename_i hne
   exact absurd hl hne
 case load =>
  split at h
  ·rcases zDo h with h | ⟨_, _, h⟩ <;> cases h
  ·split at h
   ·split at h
    ·cases h
    ·rcases zDo h with h | ⟨_, _, h⟩ <;> cases h
   ·cases h
  ·cases h
 case call c =>
  obtain ⟨callee, args, ts⟩ := c
  split at h
  ·split at h
   ·split at h
    ·rcases zGr h with h | ⟨_, _, h⟩ <;> cases h
    ·unfold aLen at h
     split at h <;> first | cases h | (split at h <;> cases h)
   ·cases h
  ·split at h <;> cases h
  ·split at h <;> cases h
  ·rename_i hc; subst hc; simp at hE
  ·split at h
   ·rcases zCn h with h | ⟨_, _, _, _, h⟩ <;> cases h
   ·cases h
  ·split at h
   ·rcases zBr h with h | ⟨_, _, _, _, h⟩ <;> cases h
   ·cases h
  ·cases h
  ·rename_i hc; subst hc; rfl
  ·rename_i hc; subst hc; rfl
theorem zM5 {o : Oper} (hg : o.guard = none) (sl : List D) : gv ops o sl = some true := by simp [gv, hg]
theorem zHe {o : Oper} {n : Nat} {sl : List D} {st : List Bk} (hg : o.guard = none) (h : zGt P T ops o n sl st) : ∃ d news, NF P T o (evD sl) (st.take n) d [] news ∧ (∀ x, o.dst = some x → sl[x]? = some d) ∧
  (news = [] ∨ ∃ b e x q fz, news = [b] ∧ st[n]? = some e ∧ SameB b e ∧ zV T o.op = false ∧ o.dst = some x ∧ sl[x]? = some d ∧ aeff P T o.op o.type (evD sl) (st.take n) = .new q b d fz) := by
 unfold zGt at h
 rw [zM5 hg] at h
 simp only at h
 split at h
 ·rename_i p d he
  exact ⟨d, [], .lit he h.1 h.2.1, h.2.2, .inl rfl⟩
 ·rename_i p d he
  exact ⟨d, [], .get he h.1 h.2.1, h.2.2, .inl rfl⟩
 ·rename_i p b d fz he
  obtain ⟨h1, h2, rfl, ⟨x, hx, hd⟩, e, h3, h4⟩ := h
  exact ⟨d, [b], .new he h1 h2, fun y hy => by rw [hx] at hy; cases hy; exact hd, .inr ⟨b, e, x, p, [], rfl, h3, h4, h1, hx, hd, he⟩⟩
 ·exact h.elim
theorem zVb (F : RegF T ops ord W Lt) (htr : ∀ (p : Nat) i o, ord[p]? = some i → ops[i]? = some o → zA1 P T ops o (S p) (R p) (Eqs (S (p + 1)) (R (p + 1)))) (hall : ∀ q, q < ord.length → ∃ i o, ord[q]? = some i ∧ ops[i]? = some o) {p i n : Nat} {o : Oper} (hp : p < s) (hs : s ≤ ord.length) (hi : ord[p]? = some i) (ho : ops[i]? = some o) (hE : isE T o.op = false) (hc : zC6 o.op = false) (hg : o.guard = none)
  (hl : zGt P T ops o n (S s) (R s)) : (R (p + 1)).length = (R p).length ∨ ((R p).length = n ∧ (R (p + 1)).length = n + 1) := by
 obtain ⟨d, news, h1, h2, h3⟩ := zHe hg hl
 rcases zJy hE (htr p i o hi ho) with ⟨_, d', fz', news', n1, n2, n3⟩ | ⟨g1, _⟩
 ·cases n1 with
  | lit _ _ _ => left; rw [n3]; simp [zS]
  | get _ _ _ => left; rw [n3]; simp [zS]
  | call a1 a2 _ => rw [zQd a1 a2 hE] at hc; cases hc
  | new a1 a2 _ =>
   obtain ⟨_, k2⟩ := zM0 a1 a2 hE
   right
   rcases h3 with rfl | ⟨b, e, x, q, fz, rfl, m1, m2, m3, m4, m5, m6⟩
   ·exfalso
    cases h1 with
    | lit b1 b2 _ => rw [a2] at b2; cases b2
    | get b1 _ _ => rcases k2 _ _ _ b1 with h | ⟨_, _, _, _, h⟩ <;> cases h
    | call b1 b2 _ => rw [zQd b1 b2 hE] at hc; cases hc
   ·exact zSz F htr hall hp hs hi ho hE m3 m4 m6 m5 (List.getElem?_eq_some_iff.1 m1).1
 ·rw [zM5 hg] at g1; cases g1
theorem Inv.nextL (F : RegF T ops ord W Lt) (h : Inv P T ops ord W S R β0 I0 w0 df s t listed a w) {i : Nat} {o : Oper} (hr : i ∈ Region.ready .any ops listed) (ho : ops[i]? = some o) (h1 : pos ord i < s) {β : Be} {I : Im} {SL : List D}
  (k0 : RelT I w β SL a.tmps.toList) (k1 : SL.length = (S s).length) (k2 : ∀ x, (∀ p i o, s ≤ p → p < t → ord[p]? = some i → Ls listed i → ops[i]? = some o → o.dst ≠ some x) → (∀ p i o, p < s → ord[p]? = some i → ¬ Ls listed i → ops[i]? = some o → o.dst ≠ some x) → SL[x]? = (S s)[x]?)
  (k3 : ∀ p i o x, s ≤ p → p < t → ord[p]? = some i → Ls listed i → ops[i]? = some o → o.dst = some x → SL[x]? = (S (p + 1))[x]?)
  (k4 : ∀ k b c, β k = some (b, c) → ∃ e, (R t)[k]? = some e ∧ OwnRel I w β b c e) (k5 : Inj β) (k6 : FZ β I (R t)) (k7 : ImB I w) (k8 : Stp β0 I0 w0 β I w ∧ Kp T β0 β)
  (k9 : ∀ k x, β k = some x → k < (R s).length ∨ ∃ p i, s ≤ p ∧ p < t ∧ ord[p]? = some i ∧ Ls listed i ∧ (R p).length ≤ k ∧ k < (R (p + 1)).length)
  (k10 : ∀ p i, p < s → ord[p]? = some i → ¬ Ls listed i → ∀ k, (R p).length ≤ k → k < (R (p + 1)).length → β k = none)
  {n : Nat} {d : D} {news : List Bk} {β' : Be} {I' : Im} {w' : World} {v : Value} (e1 : ∀ x, o.dst = some x → (S s)[x]? = some d)
  (hnews : news = [] ∨ ∃ b e, news = [b] ∧ (R s)[n]? = some e ∧ SameB b e ∧ (R (pos ord i)).length = n ∧ (R (pos ord i + 1)).length = n + 1)
  (hout : OutN β I w ((R s).take n) news [] β' I' w') (hd : Rel I' w' β' d v) : Inv P T ops ord W S R β0 I0 w0 df s t (listed.setIfInBounds i true) (a.put o.dst v) w' := by
 have hisz : i < listed.size := by rw [h.size]; exact (Array.getElem?_eq_some_iff.1 ho).1
 have hls : ∀ j, Ls (listed.setIfInBounds i true) j ↔ j = i ∨ Ls listed j := fun j => zKn hisz
 have hpi : ord[pos ord i]? = some i := (zT2 F ho).1
 have hnl : ¬ Ls listed i := ((zAj h.size).1 hr).1
 -- the number of the new block is not taken yet; all else is as it was
 have cs0 : ∀ k, β' k = β k ∨ (news ≠ [] ∧ k = n ∧ n < (R s).length) := by
  intro k
  rcases hnews with rfl | ⟨b, e, rfl, m1, m2, m3, m4⟩
  ·left
   refine hout.be k ?_
   simp only [List.length_nil, Nat.add_zero]
   exact Nat.lt_or_ge _ _
  ·have hn : n < (R s).length := (List.getElem?_eq_some_iff.1 m1).1
   have hlen : ((R s).take n).length = n := by rw [List.length_take]; omega
   by_cases hk : k = n
   ·exact .inr ⟨by simp, hk, hn⟩
   ·left
    refine hout.be k ?_
    rw [hlen]; simp; omega
 have hfr : news ≠ [] → β n = none := fun hne => by
  rcases hnews with rfl | ⟨b, e, rfl, m1, m2, m3, m4⟩
  ·exact absurd rfl hne
  ·exact k10 _ i h1 hpi hnl n (by omega) (by omega)
 have hle : BeLe β β' := fun k x hk => by
  rcases cs0 k with h2 | ⟨h2, rfl, _⟩
  ·rw [h2]; exact hk
  ·rw [hfr h2] at hk; cases hk
 have oldlt : ∀ k b c, β k = some (b, c) → b < w.heap.size := fun k b c hk => by
  obtain ⟨e, _, h2⟩ := k4 k b c hk
  exact h2.lt
 have hnew : ∀ b c, β' n = some (b, c) → news ≠ [] → w.heap.size ≤ b ∧ ∃ e', (R t)[n]? = some e' ∧ OwnRel I' w' β' b c e' ∧ ∀ j, I' b j → e'.fz = true ∧ (e'.kd.isMap = true ∨ j < e'.cells.length) := by
  intro b c hb hne
  rcases hnews with rfl | ⟨b0, e, rfl, m1, m2, m3, m4⟩
  ·exact absurd rfl hne
  ·have hn : n < (R s).length := (List.getElem?_eq_some_iff.1 m1).1
   have hlen : ((R s).take n).length = n := by rw [List.length_take]; omega
   obtain ⟨q1, e2, q2, q3, q4⟩ := hout.nb n b c (by omega) (by rw [hlen]; simp) hb
   rw [hlen, Nat.sub_self] at q2
   simp only [List.getElem?_cons_zero, Option.some.injEq] at q2
   subst q2
   obtain ⟨e', r1, r2⟩ := (h.seg.store' (Nat.le_refl _) h.seg.le (Nat.le_refl _)).2 n e m1
   have hs2 := m2.trans r2
   refine ⟨q1, e', r1, (OwnRel.same hs2).1 q3, fun j hj => ?_⟩
   have := q4 j hj
   exact ⟨hs2.2.2.2.2.2 this.1, by rw [hs2.1, hs2.2.2.2.2.1]; exact this.2⟩
 have cs : ∀ k b c, β' k = some (b, c) → β k = some (b, c) ∨ (news ≠ [] ∧ k = n ∧ n < (R s).length) := fun k b c hk => (cs0 k).imp (fun e => by rw [← e]; exact hk) id
 have hI : ∀ b o', I' b o' → I b o' ∨ w.heap.size ≤ b := fun b o' hi => by
  rcases hout.im b o' hi with (hi | ⟨k', hk', _⟩) | hi
  ·exact .inl hi
  ·cases hk'
  ·exact .inr hi
 have hstp : Stp β I w β' I' w' := ⟨hout.fix, hout.ext.size, fun b hb _ => Below.block hout.ext.1 b hb, Below.os hout.ext.1, Below.tape hout.ext.1, Below.output hout.ext.1, hout.ext.2, fun k b c hk => by
   rcases cs k b c hk with h3 | ⟨h3, rfl, _⟩
   ·exact .inl ⟨k, c, h3⟩
   ·exact .inr (hnew b c hk h3).1, fun b o' hi => (hI b o' hi).imp id .inl⟩
 have hlo : ∀ j, ¬ Ls (listed.setIfInBounds i true) j → ¬ Ls listed j := fun j hl k => hl ((hls j).2 (.inr k))
 refine ⟨by rw [Array.size_setIfInBounds]; exact h.size, h.cl.set hr, h.tn, h.seg, fun p j hp hj hl => h.lo p j hp hj (hlo j hl), fun p j hp hj hl => ?_, h.atT, by rw [zZ]; exact h.df, fun p j hp hj hl => h.mo p j hp hj (hlo j hl), β', I', putD SL o.dst d, zDm (RelT.mono hout.fix β β' hle _ _ k0) hd o.dst, by rw [zEd, k1], fun x hx hx2 => ?_, fun p j oj x a1 a2 a3 a4 a5 a6 => ?_, fun k b c hk => ?_, fun k k' b c c' hk hk' => ?_, fun k b c j e hk he hj => ?_, hout.imb k7, ⟨k8.1.trans hstp, k8.2.trans hle.kp⟩, fun k x hk => ?_, fun p j hp hj hl k c1 c2 => ?_⟩
 ·rcases (hls j).1 hl with rfl | hl
  ·have := zAa F.nodup hj
   have := h.seg.le
   omega
  ·exact h.hi p j hp hj hl
 ·by_cases hdx : o.dst = some x
  ·have h2 := e1 x hdx
   rw [h2, hdx]
   simp only [putD]
   rw [List.getElem?_set_self (by rw [k1]; exact (List.getElem?_eq_some_iff.1 h2).1)]
  ·rw [zBw hdx]
   refine k2 x (fun p j oj a1 a2 a3 a4 a5 => hx p j oj a1 a2 a3 ((hls j).2 (.inr a4)) a5) fun p j oj a1 a2 a3 a4 a5 => ?_
   by_cases hji : j = i
   ·subst hji
    rw [ho] at a4; cases a4
    exact hdx a5
   ·exact hx2 p j oj a1 a2 (fun k => (hls j).1 k |>.elim hji a3) a4 a5
 ·have hji : j ≠ i := fun e => by
   have := zAa F.nodup a3
   rw [e] at this; omega
  have a4' : Ls listed j := ((hls j).1 a4).resolve_left hji
  have hne : o.dst ≠ some x := fun e => F.dst j i oj o x a5 ho hji a6 e
  rw [zBw hne]
  exact k3 p j oj x a1 a2 a3 a4' a5 a6
 ·rcases cs k b c hk with h3 | ⟨h3, rfl, _⟩
  ·obtain ⟨e, m1, m2⟩ := k4 k b c h3
   exact ⟨e, m1, OwnRel.mono m2 (Below.block hout.ext.1 b (oldlt k b c h3)) hout.fix hle⟩
  ·obtain ⟨_, e', m1, m2, _⟩ := hnew b c hk h3
   exact ⟨e', m1, m2⟩
 ·rcases cs k b c hk with h3 | ⟨h3, e3, _⟩ <;> rcases cs k' b c' hk' with h5 | ⟨h5, e5, _⟩
  ·exact k5 k k' b c c' h3 h5
  ·have := oldlt _ _ _ h3
   have := (hnew b c' (e5 ▸ hk') h5).1
   omega
  ·have := oldlt _ _ _ h5
   have := (hnew b c (e3 ▸ hk) h3).1
   omega
  ·rw [e3, e5]
 ·rcases cs k b c hk with h3 | ⟨h3, rfl, _⟩
  ·have hlt := oldlt _ _ _ h3
   rcases hI b j hj with hi | hi
   ·exact k6 k b c j e h3 he hi
   ·omega
  ·obtain ⟨_, e', m1, _, m3⟩ := hnew b c hk h3
   rw [he] at m1; cases m1
   exact m3 j hj
 ·obtain ⟨b, c⟩ := x
  rcases cs k b c hk with h3 | ⟨h3, rfl, h4⟩
  ·rcases k9 k _ h3 with h5 | ⟨p, j, a1, a2, a3, a4, a5⟩
   ·exact .inl h5
   ·exact .inr ⟨p, j, a1, a2, a3, (hls j).2 (.inr a4), a5⟩
  ·exact .inl h4
 ·have hl' := hlo j hl
  rcases cs0 k with h3 | ⟨h3, rfl, h4⟩
  ·rw [h3]; exact k10 p j hp hj hl' k c1 c2
  ·exfalso
   rcases hnews with rfl | ⟨b, e, rfl, m1, m2, m3, m4⟩
   ·exact h3 rfl
   ·rcases Nat.lt_trichotomy p (pos ord i) with h5 | h5 | h5
    ·have := h.grow' hp hj hl' (show p ≤ p + 1 by omega) (show p + 1 ≤ pos ord i by omega) (by omega)
     omega
    ·rw [h5, hpi] at hj
     cases hj
     exact hl ((hls _).2 (.inl rfl))
    ·have := h.grow' h1 hpi hnl (show pos ord i ≤ pos ord i + 1 by omega) (show pos ord i + 1 ≤ p by omega) (by omega)
     omega
def zLh (ops : Array Oper) (ord : List Nat) (listed : Array Bool) (t : Nat) : List Nat := (ord.take t).filterMap fun i => if listed.getD i false then none else (ops[i]?).bind (·.dst)
theorem zDy {x : Nat} : x ∈ zLh ops ord listed t ↔ ∃ p i o, p < t ∧ ord[p]? = some i ∧ ¬ Ls listed i ∧ ops[i]? = some o ∧ o.dst = some x := by
 unfold zLh
 rw [List.mem_filterMap]
 constructor
 ·rintro ⟨i, hi, hx⟩
  obtain ⟨p, hp⟩ := List.mem_iff_getElem?.1 hi
  rw [List.getElem?_take] at hp
  split at hp
  ·rename_i hlt
   split at hx
   ·cases hx
   ·rename_i hl
    obtain ⟨o, ho, hd⟩ := Option.bind_eq_some_iff.1 hx
    exact ⟨p, i, o, hlt, hp, hl, ho, hd⟩
  ·cases hp
 ·rintro ⟨p, i, o, h1, h2, h3, h4, h5⟩
  refine ⟨i, List.mem_iff_getElem?.2 ⟨p, by rw [List.getElem?_take, if_pos h1]; exact h2⟩, ?_⟩
  unfold Ls at h3
  rw [if_neg h3, h4]; exact h5
theorem Inv.full (F : RegF T ops ord W Lt) (hg0 : Gl I0 w0) (h : Inv P T ops ord W S R β0 I0 w0 df s t listed a w) : ∃ β I, Sim β I w (unkS (zLh ops ord listed t) (S t)) (R t) a.tmps.toList ∧ (Stp β0 I0 w0 β I w ∧ Kp T β0 β) ∧
  ∀ p i, p < t → ord[p]? = some i → ¬ Ls listed i → ∀ k, (R p).length ≤ k → k < (R (p + 1)).length → β k = none := by
 obtain ⟨β, I, SL, k0, k1, k2, k3, k4, k5, k6, k7, k8, k9, k10⟩ := h.ex
 have hlS : SL.length = (S t).length := by rw [k1]; exact ((h.seg.slot' (Nat.le_refl _) h.seg.le (Nat.le_refl _)).1).symm
 have hSL : ∀ x, x ∉ zLh ops ord listed t → SL[x]? = (S t)[x]? := by
  intro x hx
  by_cases hw : ∃ p j oj, s ≤ p ∧ p < t ∧ ord[p]? = some j ∧ Ls listed j ∧ ops[j]? = some oj ∧ oj.dst = some x
  ·obtain ⟨p, j, oj, a1, a2, a3, a4, a5, a6⟩ := hw
   rw [k3 p j oj x a1 a2 a3 a4 a5 a6]
   have hpj : pos ord j = p := zAa F.nodup a3
   refine ((h.seg.slot' (by omega) (show p + 1 ≤ t by omega) (Nat.le_refl _)).2 x fun r k ok b1 b2 b3 b4 b5 => ?_).symm
   have hpk : pos ord k = r := zAa F.nodup b3
   have hkj : k ≠ j := fun e => by rw [e, hpj] at hpk; omega
   exact F.dst k j ok oj x b4 a5 hkj b5 a6
  ·rw [k2 x (fun p j oj a1 a2 a3 a4 a5 a6 => hw ⟨p, j, oj, a1, a2, a3, a4, a5, a6⟩) (fun p j oj a1 a2 a3 a4 a5 => hx (zDy.2 ⟨p, j, oj, by have := h.seg.le; omega, a2, a3, a4, a5⟩))]
   refine ((h.seg.slot' (Nat.le_refl _) h.seg.le (Nat.le_refl _)).2 x fun r k ok b1 b2 b3 b4 b5 => ?_).symm
   by_cases hl : Ls listed k
   ·exact hw ⟨r, k, ok, b1, b2, b3, hl, b4, b5⟩
   ·exact hx (zDy.2 ⟨r, k, ok, b2, b3, hl, b4, b5⟩)
 refine ⟨β, I, ⟨zYz hlS k0 hSL, k4, k5, k6, fun k x hk => ?_, k7, hg0.mono k8.1.fix⟩, k8, fun p i hp hi hn k c1 c2 => ?_⟩
 ·rcases k9 k x hk with h3 | ⟨p, j, a1, a2, a3, a4, a5, a6⟩
  ·have := (h.seg.store' (Nat.le_refl _) h.seg.le (Nat.le_refl _)).1
   omega
  ·have := (h.seg.store' (show s ≤ p + 1 by omega) (show p + 1 ≤ t by omega) (Nat.le_refl _)).1
   omega
 ·rcases Nat.lt_or_ge p s with h1 | h1
  ·exact k10 p i h1 hi hn k c1 c2
  ·cases hb : β k with
   | none => rfl
   | some x =>
    exfalso
    rcases k9 k x hb with h3 | ⟨p', j, a1, a2, a3, a4, a5, a6⟩
    ·have := (h.seg.store' (Nat.le_refl _) h1 (by omega)).1
     omega
    ·rcases Nat.lt_trichotomy p' p with h3 | h3 | h3
     ·have := (h.seg.store' (show s ≤ p' + 1 by omega) (show p' + 1 ≤ p by omega) (by omega)).1
      omega
     ·rw [h3, hi] at a3; cases a3
      exact hn a4
     ·have := (h.seg.store' (show s ≤ p + 1 by omega) (show p + 1 ≤ p' by omega) (by omega)).1
      omega
theorem zSs (htr : ∀ (p : Nat) i o, ord[p]? = some i → ops[i]? = some o → zA1 P T ops o (S p) (R p) (Eqs (S (p + 1)) (R (p + 1)))) (hop : ∀ p, p < ops.size → ∃ i o, ord[p]? = some i ∧ ops[i]? = some o) :
  ∀ n s, s + n = ops.size → ∃ t, t ≤ ops.size ∧ Seg P T ops ord S R s t ∧ (t = ops.size ∨ ∃ i o, ord[t]? = some i ∧ ops[i]? = some o ∧ isE T o.op = true) := by
 intro n
 induction n with
 | zero => intro s hs; exact ⟨s, by omega, ⟨Nat.le_refl _, fun p h1 h2 => by omega⟩, .inl (by omega)⟩
 | succ n ih =>
  intro s hs
  obtain ⟨i, o, h1, h2⟩ := hop s (by omega)
  cases hE : isE T o.op with
  | true => exact ⟨s, by omega, ⟨Nat.le_refl _, fun p h1 h2 => by omega⟩, .inr ⟨i, o, h1, h2, hE⟩⟩
  | false =>
   obtain ⟨t, t1, t2, t3⟩ := ih (s + 1) (by omega)
   refine ⟨t, t1, ⟨by have := t2.le; omega, fun p p1 p2 => ?_⟩, t3⟩
   rcases Nat.eq_or_lt_of_le p1 with rfl | p1
   ·exact ⟨i, o, h1, h2, hE, htr _ i o h1 h2⟩
   ·exact t2.step p p1 p2
end
end
section
open Go.RowKit
section
variable {P : Program} {T : Par} {ops : Array Oper} {ord : List Nat} {W : Nat → Nat → Bool} {Lt : Nat → List Nat} {S : Nat → List D} {R : Nat → List Bk} {Q : Exit → Act → World → Prop} {K : List D → List Bk → Prop}
variable {β0 : Be} {I0 : Im} {w0 : World} {df : List Deferred}
theorem zP9 {l : List Bool} {i : Nat} (h : l[i]? = some false) : (l.set i true).count false + 1 = l.count false := by
 induction l generalizing i with
 | nil => simp at h
 | cons b l ih =>
  cases i with
  | zero => simp at h; subst h; simp
  | succ i =>
   have := ih (i := i) (by simpa using h)
   cases b <;> simp at this ⊢ <;> omega
theorem zX8 (hg0 : Gl I0 w0) (hM : zBi P T) (F : RegF T ops ord W Lt) (hS : ops.size = ord.length) (htr : ∀ (p : Nat) i o, ord[p]? = some i → ops[i]? = some o → zA1 P T ops o (S p) (R p) (Eqs (S (p + 1)) (R (p + 1)))) (hK : K (S ops.size) (R ops.size)) (hL : ∀ t e, ord[t]? = some e → ∀ i ∈ Lt e, ∃ n, zGt P T ops (ops.getD i default) n (S (t + 1)) (R (t + 1)) ∧ (n < (R t).length → zPz (ops.getD e default) n (S t)) ∧ (R t).length ≤ (R (t + 1)).length)
  (hP : ∀ c a w, ¬ Q (.panic c) a w) (hQ : ∀ a' w', zQq T K β0 I0 w0 df a' w' → Q .normal a' w') :
  ∀ (fuel : Nat) (listed : Array Bool) (a : Act) (w : World) (s t : Nat), Inv P T ops ord W S R β0 I0 w0 df s t listed a w → listed.toList.count false ≤ fuel → wpAny P .any ops Q fuel listed a w := by
 have hop : ∀ p, p < ops.size → ∃ i o, ord[p]? = some i ∧ ops[i]? = some o := fun p hp => by
  have h1 : p < ord.length := by omega
  refine ⟨ord[p], ops[ord[p]]'((F.mem _).2 (List.getElem_mem h1)), List.getElem?_eq_getElem h1, by simp [(F.mem _).2 (List.getElem_mem h1)]⟩
 have finish : ∀ (listed : Array Bool) (a : Act) (w : World) (s t : Nat), Inv P T ops ord W S R β0 I0 w0 df s t listed a w → Region.ready .any ops listed = [] → Q .normal a w := by
  intro listed a w s t h hr
  have hall : ∀ i, i < ops.size → Ls listed i := by
   suffices H : ∀ n i, pos ord i = n → i < ops.size → Ls listed i from fun i => H _ i rfl
   intro n
   induction n using Nat.strongRecOn with
   | _ n ih =>
    intro i hn hi
    by_cases hl : Ls listed i
    ·exact hl
    ·exfalso
     have : i ∈ Region.ready .any ops listed := (zAj h.size).2 ⟨hl, ops[i], by simp [hi], fun d hd => by
      have := F.dep i ops[i] (by simp [hi]) d hd
      exact ih (pos ord d) (by omega) d rfl this.1⟩
     rw [hr] at this; cases this
  have ht : t = ops.size := by
   rcases h.atT with h1 | ⟨i, o, h1, h2, h3⟩
   ·exact h1
   ·exact absurd (hall i (Array.getElem?_eq_some_iff.1 h2).1) (h.hi t i (Nat.le_refl _) h1)
  subst ht
  obtain ⟨β, I, k1, ⟨k2, k3⟩, _⟩ := h.full F hg0
  have hX : zLh ops ord listed ops.size = [] := by
   rw [List.eq_nil_iff_forall_not_mem]
   intro x hx
   obtain ⟨p, i, o, _, h2, h3, h4, _⟩ := zDy.1 hx
   exact h3 (hall i (Array.getElem?_eq_some_iff.1 h4).1)
  rw [hX] at k1
  exact hQ a w ⟨_, _, β, I, hK, k1, k2, h.df, k3⟩
 intro fuel
 induction fuel with
 | zero =>
  intro listed a w s t h hc
  have hr : Region.ready .any ops listed = [] := by
   cases hx : Region.ready .any ops listed with
   | nil => rfl
   | cons i l =>
    exfalso
    have hi : i ∈ Region.ready .any ops listed := by rw [hx]; simp
    obtain ⟨hn, o, ho, _⟩ := (zAj h.size).1 hi
    have hlt : i < listed.size := by rw [h.size]; exact (Array.getElem?_eq_some_iff.1 ho).1
    have : listed.toList[i]? = some false := by
     unfold Ls at hn
     simp [hlt] at hn ⊢; exact hn
    have := List.count_pos_iff.2 (List.mem_of_getElem? this)
    omega
  exact ⟨hr, finish listed a w s t h hr⟩
 | succ fuel ih =>
  intro listed a w s t h hc
  have hcount : ∀ i, i ∈ Region.ready .any ops listed → (listed.setIfInBounds i true).toList.count false ≤ fuel := by
   intro i hi
   obtain ⟨hn, o, ho, _⟩ := (zAj h.size).1 hi
   have hlt : i < listed.size := by rw [h.size]; exact (Array.getElem?_eq_some_iff.1 ho).1
   have h1 : listed.toList[i]? = some false := by
    unfold Ls at hn
    simp [hlt] at hn ⊢; exact hn
   have := zP9 h1
   rw [Array.toList_setIfInBounds]
   omega
  by_cases hlight : ∃ i o, i ∈ Region.ready .any ops listed ∧ ops[i]? = some o ∧ zV T o.op = true
  ·obtain ⟨i, o, hi, ho, hl⟩ := hlight
   obtain ⟨o', ho', hpi, hp2⟩ := h.place F hi
   rw [ho] at ho'; cases ho'
   obtain ⟨hn, o2, ho2, hd⟩ := (zAj h.size).1 hi
   rw [ho] at ho2; cases ho2
   have hElight : isE T o.op = false := by
    revert hl
    cases o.op <;> simp [zV, isE]
    rename_i c
    obtain ⟨callee, args, ts⟩ := c
    cases callee with
    | value f => simp
    | invoke r n => simp
    | builtin b => cases b <;> simp
   have hlt : pos ord i < t := by
    rcases hp2 with h1 | h1
    ·exact h1
    ·exfalso
     rcases h.atT with h2 | ⟨j, oj, j1, j2, j3⟩
     ·have := (zT2 F ho).2; omega
     ·rw [← h1, hpi] at j1; cases j1
      rw [ho] at j2; cases j2
      rw [hElight] at j3; cases j3
   obtain ⟨β, I, SL, k0, k1, k2, k3, k4, k5, k6, k7, k8, k9, k10⟩ := h.ex
   -- it may be done first
   have first : ∀ (v : Value), (Region.wanted o (yielded ops a.tmps) = true ∧ (∀ W : World, (execOp a.eval o).run P W = .ok (.value v) W)) ∨ (Region.wanted o (yielded ops a.tmps) = false ∧ v = undef) → Inv P T ops ord W S R β0 I0 w0 df s t (listed.setIfInBounds i true) (a.put o.dst v) w → wpAny P .any ops Q (fuel + 1) listed a w := by
    intro v hv hinv
    refine wpAny_first ho (Region.noSelect_spec F.nosel) (fun c a w hx => absurd hx (hP c _ _)) fuel listed a w (fun j oj hj hne hun hno => ?_) hi hv (ih _ _ _ s t hinv (hcount i hi))
    rcases F.lig i j o oj ho hj (Ne.symm hne) hl with h1 | h1 | h1
    ·exact h1
    ·obtain ⟨e, e1, e2, e3⟩ := zGo.1 h1
     exact absurd e3 (hno e e1 e2)
    ·exfalso
     have := zCa F h.cl i o j ho (Array.getElem?_eq_some_iff.1 hj).1 hd h1
     unfold Ls at this
     have hjl : j < listed.size := by rw [h.size]; exact (Array.getElem?_eq_some_iff.1 hj).1
     simp [hjl] at this hun
     rw [this] at hun; cases hun
   rcases Nat.lt_or_ge (pos ord i) s with hls | hp1
   ·obtain ⟨o', n, ho', hE', hc', hg', hself, hlate, hok⟩ := h.lo _ i hls hpi hn
    rw [ho] at ho'; cases ho'
    have hlook := h.lookL F ho hn hd hls hself hlate k2
    obtain ⟨d, news, n1, n2, n3⟩ := zHe hg' hok
    obtain ⟨_, rfl, v, v1, v2⟩ := (n1.look hlook).light hl k0
    exact first v (.inl ⟨zCg (ops := ops) k0 (zM5 hg' SL), v1⟩) (h.nextL (n := n) F hi ho hls k0 k1 k2 k3 k4 k5 k6 k7 k8 k9 k10 n2 (.inl rfl) (OutN.stay β I w _) v2)
   ·have hlook := h.look F ho hn hd hp1 hlt k1 k2 k3
    have hst := zJy hElight (htr (pos ord i) i o hpi ho)
    rcases hst with ⟨g1, d, fz, news, n1, n2, n3⟩ | ⟨g1, n2, n3⟩
    ·obtain ⟨rfl, rfl, v, v1, v2⟩ := (n1.look hlook).light hl k0
     have hw := zCg (ops := ops) k0 ((zE5 hlook).trans g1)
     exact first v (.inl ⟨hw, v1⟩) (h.next F hi ho hp1 hlt k0 k1 k2 k3 k4 k5 k6 k7 k8 k9 k10 n2 n3 (OutN.stay β I w _) v2)
    ·have hw := zCg (ops := ops) k0 ((zE5 hlook).trans g1)
     exact first undef (.inr ⟨hw, rfl⟩) (h.next (fz := []) (news := []) F hi ho hp1 hlt k0 k1 k2 k3 k4 k5 k6 k7 k8 k9 k10 n2 (by rw [n3]; simp [zAe]) (OutN.stay β I w _) (Rel.valI undef))
  ·refine ⟨finish listed a w s t h, fun i hi => ?_⟩
   obtain ⟨o, ho, hpi, hp2⟩ := h.place F hi
   obtain ⟨hn, o2, ho2, hd⟩ := (zAj h.size).1 hi
   rw [ho] at ho2; cases ho2
   have hl : zV T o.op = false := by
    cases hx : zV T o.op with
    | false => rfl
    | true => exact absurd ⟨i, o, hi, ho, hx⟩ hlight
   have hordl : t ≤ ord.length := by rw [← hS]; exact h.tn
   have hop' : ∀ p, p < ord.length → ∃ i o, ord[p]? = some i ∧ ops[i]? = some o := fun p hp => hop p (by omega)
   rcases Nat.lt_or_ge (pos ord i) s with hls | hp1
   ·obtain ⟨β, I, SL, k0, k1, k2, k3, k4, k5, k6, k7, k8, k9, k10⟩ := h.ex
    obtain ⟨o', n, ho', hE', hc', hg', hself, hlate, hok⟩ := h.lo _ i hls hpi hn
    rw [ho] at ho'; cases ho'
    have hlook := h.lookL F ho hn hd hls hself hlate k2
    obtain ⟨d, news, n1, n2, n3⟩ := zHe hg' hok
    unfold wpOp
    simp only [ho]
    rw [if_pos (zCg (ops := ops) k0 (zM5 hg' SL))]
    have hsr : SRw β I w ((R s).take n) := fun k b c e hk he => by
     rw [List.getElem?_take] at he
     split at he
     ·obtain ⟨e', m1, m2⟩ := k4 k b c hk
      obtain ⟨e'', n1, n2⟩ := (h.seg.store' (Nat.le_refl _) h.seg.le (Nat.le_refl _)).2 k e he
      rw [m1] at n1; cases n1
      exact (OwnRel.same n2).2 m2
     ·cases he
    have hnum : news = [] ∨ ∃ b e, news = [b] ∧ (R s)[n]? = some e ∧ SameB b e ∧ (R (pos ord i)).length = n ∧ (R (pos ord i + 1)).length = n + 1 := by
     rcases n3 with rfl | ⟨b, e, x, q, fz, rfl, m1, m2, m3, m4, m5, m6⟩
     ·exact .inl rfl
     ·obtain ⟨q1, q2⟩ := zSz F htr hop' hls (by have := h.seg.le; omega) hpi ho hE' m3 m4 m6 m5 (List.getElem?_eq_some_iff.1 m1).1
      exact .inr ⟨b, e, rfl, m1, m2, q1, q2⟩
    have hfr : ∀ j, j < news.length → β (((R s).take n).length + j) = none := by
     intro j hj
     rcases hnum with rfl | ⟨b, e, rfl, m1, m2, q1, q2⟩
     ·simp at hj
     ·simp only [List.length_singleton] at hj
      have hn' : n < (R s).length := (List.getElem?_eq_some_iff.1 m1).1
      have hlen : ((R s).take n).length = n := by rw [List.length_take]; omega
      rw [hlen, show n + j = n by omega]
      exact k10 _ i hls hpi hn n (by omega) (by omega)
    refine .inl (Oper.wp_mono (fun a' w' hx => ?_) ((n1.look hlook).heavy hM hl k0 hsr k7 (hg0.mono k8.1.fix) hfr Q))
    obtain ⟨v, β', I', rfl, o1, o2⟩ := hx
    exact ih _ _ _ s t (h.nextL F hi ho hls k0 k1 k2 k3 k4 k5 k6 k7 k8 k9 k10 n2 hnum o1 o2) (hcount i hi)
   rcases hp2 with hlt | hpt
   ·have hE : isE T o.op = false := by
     obtain ⟨j, oj, j1, j2, j3, _⟩ := h.seg.step _ hp1 hlt
     rw [hpi] at j1; cases j1
     rw [ho] at j2; cases j2
     exact j3
    obtain ⟨β, I, SL, k0, k1, k2, k3, k4, k5, k6, k7, k8, k9, k10⟩ := h.ex
    have hlook := h.look F ho hn hd hp1 hlt k1 k2 k3
    have hst := zJy hE (htr (pos ord i) i o hpi ho)
    unfold wpOp
    simp only [ho]
    rcases hst with ⟨g1, d, fz, news, n1, n2, n3⟩ | ⟨g1, n2, n3⟩
    ·rw [if_pos (zCg (ops := ops) k0 ((zE5 hlook).trans g1))]
     have hsr : SRw β I w (R (pos ord i)) := fun k b c e hk he => by
      obtain ⟨e', m1, m2⟩ := k4 k b c hk
      obtain ⟨e'', n1, n2⟩ := (h.seg.store' hp1 (Nat.le_of_lt hlt) (Nat.le_refl _)).2 k e he
      rw [m1] at n1; cases n1
      exact (OwnRel.same n2).2 m2
     have hfr : ∀ j, j < news.length → β ((R (pos ord i)).length + j) = none := by
      intro j hj
      cases hb : β ((R (pos ord i)).length + j) with
      | none => rfl
      | some x =>
       exfalso
       have hlen : (R (pos ord i + 1)).length = (R (pos ord i)).length + news.length := by rw [n3, List.length_append, zS]
       rcases k9 _ x hb with h3 | ⟨p, j', a1, a2, a3, a4, a5, a6⟩
       ·have := (h.seg.store' (Nat.le_refl _) hp1 (by omega)).1
        omega
       ·rcases Nat.lt_trichotomy p (pos ord i) with h3 | h3 | h3
        ·have := (h.seg.store' (show s ≤ p + 1 by omega) (show p + 1 ≤ pos ord i by omega) (by omega)).1
         omega
        ·subst h3
         rw [hpi] at a3; cases a3
         exact hn a4
        ·have := (h.seg.store' (show s ≤ pos ord i + 1 by omega) (show pos ord i + 1 ≤ p by omega) (by omega)).1
         omega
     refine .inl (Oper.wp_mono (fun a' w' hx => ?_) ((n1.look hlook).heavy hM hl k0 hsr k7 (hg0.mono k8.1.fix) hfr Q))
     obtain ⟨v, β', I', rfl, o1, o2⟩ := hx
     exact ih _ _ _ s t (h.next F hi ho hp1 hlt k0 k1 k2 k3 k4 k5 k6 k7 k8 k9 k10 n2 n3 o1 o2) (hcount i hi)
    ·rw [if_neg (by rw [zCg (ops := ops) k0 ((zE5 hlook).trans g1)]; simp)]
     exact ih _ _ _ s t (h.next (fz := []) (news := []) F hi ho hp1 hlt k0 k1 k2 k3 k4 k5 k6 k7 k8 k9 k10 n2 (by rw [n3]; simp [zAe]) (OutN.stay β I w _) (Rel.valI undef)) (hcount i hi)
   ·have hE : isE T o.op = true := by
     rcases h.atT with h1 | ⟨j, oj, j1, j2, j3⟩
     ·have := (zT2 F ho).2; omega
     ·rw [← hpt, hpi] at j1; cases j1
      rw [ho] at j2; cases j2
      exact j3
    -- what is still to do before it comes late
    have hlates : ∀ x ox, ops[x]? = some ox → pos ord x < t → ¬ Ls listed x → x ∈ Lt i := by
     suffices H : ∀ n x ox, pos ord x = n → ops[x]? = some ox → pos ord x < t → ¬ Ls listed x → x ∈ Lt i from fun x ox => H _ x ox rfl
     intro n
     induction n using Nat.strongRecOn with
     | _ n ihx =>
      intro x ox hn hx hp hnx
      have hne : i ≠ x := fun e => by rw [← e] at hp; omega
      rcases F.eff1 i x o ox ho hx hne hE (by omega) with h1 | h1 | ⟨h1, h2⟩
      ·exact absurd (zCa F h.cl i o x ho (Array.getElem?_eq_some_iff.1 hx).1 hd h1) hnx
      ·exact h1
      ·exfalso
       refine hlight ⟨x, ox, (zAj h.size).2 ⟨hnx, ox, hx, fun d hd' => ?_⟩, hx, h1⟩
       have h3 := F.dep x ox hx d hd'
       by_cases hld : Ls listed d
       ·exact hld
       ·exact absurd (ihx (pos ord d) (by omega) d ops[d] rfl (by simp [h3.1]) (by omega) hld) (h2 d hd')
    obtain ⟨β, I, sim, ⟨stp, kp⟩, hk10⟩ := h.full F hg0
    have htlt : t < ops.size := by rw [← hpt]; exact (zT2 F ho).2
    obtain ⟨t', t1, t2, t3⟩ := zSs (P := P) (T := T) htr hop (ops.size - (t + 1)) (t + 1) (by omega)
    have hls : ∀ j, Ls (listed.setIfInBounds i true) j ↔ j = i ∨ Ls listed j := fun j => zKn (by rw [h.size]; exact (Array.getElem?_eq_some_iff.1 ho).1)
    have hpi' : ord[t]? = some i := hpt ▸ hpi
    have hod : ops.getD i default = o := by simp [ho]
    have hlo : ∀ j, ¬ Ls (listed.setIfInBounds i true) j → ¬ Ls listed j ∧ j ≠ i := fun j hl => ⟨fun k => hl ((hls j).2 (.inr k)), fun k => hl ((hls j).2 (.inl k))⟩
    have hlt' : ∀ p j, p < t + 1 → ord[p]? = some j → ¬ Ls (listed.setIfInBounds i true) j → p < t ∧ ¬ Ls listed j ∧ j ∈ Lt i := fun p j hp hj hl => by
     obtain ⟨l1, l2⟩ := hlo j hl
     have hpt' : p < t := by
      rcases Nat.lt_or_ge p t with h5 | h5
      ·exact h5
      ·have : p = t := by omega
       subst this
       rw [hpi'] at hj; cases hj
       exact absurd rfl l2
     have hjm := (F.mem j).2 (List.mem_of_getElem? hj)
     exact ⟨hpt', l1, hlates j ops[j] (by simp [hjm]) (by rw [zAa F.nodup hj]; exact hpt') l1⟩
    have hgrow : ∀ p j, p < t → ord[p]? = some j → ¬ Ls listed j → ∀ q, p ≤ q → q < t → (R q).length ≤ (R (q + 1)).length := fun p j hp hj hl q h1 h2 => by
     rcases Nat.lt_or_ge q s with h3 | h3
     ·exact h.mo p j (by omega) hj hl q h1 h3
     ·exact (h.seg.store' h3 (show q ≤ q + 1 by omega) (by omega)).1
    have hX1 : ∀ x ∈ o.looksAt ops, x ∉ zLh ops ord listed t := fun x hx hm => by
     obtain ⟨p, j, oj, m1, m2, m3, m4, m5⟩ := zDy.1 hm
     have hpj : pos ord j = p := zAa F.nodup m2
     have hne : i ≠ j := fun e => by rw [← e] at hpj; omega
     rcases F.haz i j o oj x ho m4 hne m5 hx with hz | hz
     ·exact m3 (zCa F h.cl i o j ho (Array.getElem?_eq_some_iff.1 m4).1 hd hz)
     ·have := zLc F j oj i m4 (Array.getElem?_eq_some_iff.1 ho).1 hz
      omega
    have hX2 : ∀ x, o.dst = some x → x ∉ zLh ops ord listed t := fun x hx hm => by
     obtain ⟨p, j, oj, m1, m2, m3, m4, m5⟩ := zDy.1 hm
     have hpj : pos ord j = p := zAa F.nodup m2
     exact F.dst i j o oj x ho m4 (fun e => by rw [← e] at hpj; omega) hx m5
    have cont : ∀ a' w' β' I', Sim β' I' w' (unkS (zLh ops ord listed t) (S (t + 1))) (R (t + 1)) a'.tmps.toList → Stp β I w β' I' w' → a'.defers = a.defers → Kp T β β' → (Lt i = [] ∨ (R t).length ≤ (R (t + 1)).length) →
      (∀ p j, p < t → ord[p]? = some j → ¬ Ls listed j → ∀ k, (R p).length ≤ k → k < (R (p + 1)).length → β' k = none) → wpAny P .any ops Q fuel (listed.setIfInBounds i true) a' w' := by
     intro a' w' β' I' q1 q2 q3 q4 q5 q6
     refine ih _ _ _ (t + 1) t' ⟨by rw [Array.size_setIfInBounds]; exact h.size, h.cl.set hi, t1, t2, fun p j hp hj hl => ?_, fun p j hp hj hl' => ?_, t3, q3.trans h.df, fun p j hp hj hl q h1 h2 => ?_, β', I', unkS (zLh ops ord listed t) (S (t + 1)), q1.rel, zD4 _ _, fun x _ hx => ?_, fun p j oj x a1 a2 a3 a4 a5 a6 => ?_, fun k b c hk => ?_, q1.inj, fun k b c j e hk he hj => ?_, q1.imb, ⟨stp.trans q2, kp.trans q4⟩, fun k x hk => .inl (q1.dom k x hk), fun p j hp hj hl k c1 c2 => ?_⟩ (hcount i hi)
     ·obtain ⟨_, _, l3⟩ := hlt' p j hp hj hl
      obtain ⟨oj, m1, m2, m3, m4, m5, m6⟩ := F.latE i j l3
      obtain ⟨n, n1, _⟩ := hL t i hpi' j l3
      rw [show ops.getD j default = oj by simp [m1]] at n1
      exact ⟨oj, n, m1, m2, m3, m4, m5, m6, n1⟩
     ·have := t2.le
      rcases (hls j).1 hl' with rfl | h5
      ·have := zAa F.nodup hj; omega
      ·exact h.hi p j (by omega) hj h5
     ·obtain ⟨l1, l2, l3⟩ := hlt' p j hp hj hl
      rcases Nat.lt_or_ge q t with h5 | h5
      ·exact hgrow p j l1 hj l2 q h1 h5
      ·obtain rfl : q = t := by omega
       refine q5.resolve_left fun e => ?_
       rw [e] at l3; cases l3
     ·refine zRs fun hm => ?_
      obtain ⟨p, j, oj, m1, m2, m3, m4, m5⟩ := zDy.1 hm
      have hpj : pos ord j = p := zAa F.nodup m2
      exact hx p j oj (by omega) m2 (fun k => ((hls j).1 k).elim (fun e => by rw [e] at hpj; omega) m3) m4 m5
     ·exfalso
      rcases (hls j).1 a4 with rfl | h5
      ·have := zAa F.nodup a3; omega
      ·exact h.hi p j (by omega) a3 h5
     ·obtain ⟨e, m1, m2⟩ := q1.sr k b c hk
      obtain ⟨e', n1, n2⟩ := (t2.store' (Nat.le_refl _) t2.le (Nat.le_refl _)).2 k e m1
      exact ⟨e', n1, (OwnRel.same n2).1 m2⟩
     ·obtain ⟨e0, m1, m2⟩ := q1.sr k b c hk
      obtain ⟨e', n1, n2⟩ := (t2.store' (Nat.le_refl _) t2.le (Nat.le_refl _)).2 k e0 m1
      rw [he] at n1; cases n1
      have := q1.fz k b c j e0 hk m1 hj
      exact ⟨n2.2.2.2.2.2 this.1, by rw [n2.1, n2.2.2.2.2.1]; exact this.2⟩
     ·obtain ⟨l1, l2, _⟩ := hlt' p j hp hj hl
      exact q6 p j l1 hj l2 k c1 c2
    have hst0 := htr t i o hpi' ho
    have hst := zV6 hst0 hX1 hX2
    unfold wpOp
    simp only [ho]
    rcases zKt (ops := ops) (N := Eqs (unkS (zLh ops ord listed t) (S (t + 1))) (R (t + 1))) sim hst with ⟨g1, g2⟩ | ⟨g1, g2, g3⟩
    ·rw [if_pos g1]
     cases hcv : zC6 o.op with
     | true =>
      have hlen : Lt i = [] ∨ (R t).length ≤ (R (t + 1)).length := by
       rcases hx : Lt i with _ | ⟨j, l⟩
       ·exact .inl rfl
       ·obtain ⟨n, _, _, n3⟩ := hL t i hpi' j (by rw [hx]; exact List.mem_cons_self)
        exact .inr n3
      refine .inl (Oper.wp_mono (fun a' w' hx => ?_) (zL8 hM o g2 sim Q))
      obtain ⟨sl', st', β', I', ⟨rfl, rfl⟩, q2, q3, q4, q5⟩ := hx
      refine cont a' w' β' I' q2 q3 q4 q5 hlen fun p j hp hj hl k c1 c2 => ?_
      have hjm := (F.mem j).2 (List.mem_of_getElem? hj)
      have hjl := hlates j ops[j] (by simp [hjm]) (by rw [zAa F.nodup hj]; exact hp) hl
      obtain ⟨oj, m1, m2, m3, m4, _⟩ := F.latE i j hjl
      have hnn := F.latA i o ho hE j hjl hcv
      rw [show ops.getD j default = oj by simp [m1]] at hnn
      have := zWs (htr p j oj hj m1) m2 hnn
      omega
     | false =>
      refine .inl (Oper.wp_mono (fun a' w' hx => ?_) (zVg hM o g2 hE hcv sim Q))
      obtain ⟨β', I', q2, q3, q4, q5, q6⟩ := hx
      refine cont a' w' β' I' q2 q3 q4 q5 (.inr (zV7 hst0 hE hcv)) fun p j hp hj hl k c1 c2 => ?_
      have hjm := (F.mem j).2 (List.mem_of_getElem? hj)
      have hjl := hlates j ops[j] (by simp [hjm]) (by rw [zAa F.nodup hj]; exact hp) hl
      obtain ⟨oj, m1, m2, m3, m4, _⟩ := F.latE i j hjl
      obtain ⟨n, n1, n2, _⟩ := hL t i hpi' j hjl
      rw [show ops.getD j default = oj by simp [m1]] at n1
      rw [hod] at n2
      have hrg := zVb (s := t + 1) F htr hop' (by omega) (by omega) hj m1 m2 m3 m4 n1
      have hkn : k = n := by
       rcases hrg with e | ⟨e1, e2⟩
       ·omega
       ·omega
      have hkt : k < (R t).length := by
       have key : ∀ m, p + 1 + m ≤ t → (R (p + 1)).length ≤ (R (p + 1 + m)).length := by
        intro m
        induction m with
        | zero => intro _; exact Nat.le_refl _
        | succ m ihm =>
         intro hm
         have h1 := ihm (by omega)
         have h2 := hgrow p j hp hj hl (p + 1 + m) (by omega) (by omega)
         rw [show p + 1 + (m + 1) = p + 1 + m + 1 by omega]
         omega
       have := key (t - (p + 1)) (by omega)
       rw [show p + 1 + (t - (p + 1)) = t by omega] at this
       omega
      refine q6 k hkt (hk10 p j hp hj hl k c1 c2) fun y hy => ?_
      rw [hkn, zRa (ops := ops) (o := o) (sl := S t) (fun x hx => zJs (hX1 x hx)) y hy]
      exact n2 (by omega) y hy
    ·rw [if_neg (by simp [g1])]
     refine cont _ _ β I ?_ (Stp.refl _ _ _) (zZ _ _ _) (Kp.refl _ _) (.inr ?_) hk10
     ·rw [← g2, ← g3]
      exact sim.skip o.dst
     ·rw [← g3]; exact Nat.le_refl _
theorem zH6 (hM : zBi P T) (hm : P.follows .mixedOrders = true) {id : Nat} {l0 : List Nat} {its : List zHv} {sl : List D} {st : List Bk} {β : Be} {I : Im} {a : Act} {w : World} (hok : zJ4 T ops l0 its = true) (hq : seqF P T ops l0 its sl st K) (h : Sim β I w sl st a.tmps.toList)
  (hP : ∀ c a w, ¬ Q (.panic c) a w) (hQ : ∀ a' w', zQq T K β I w a.defers a' w' → Q .normal a' w') : (Code.region id ops true).wp P Q a w := by
 have F := RegF.of hok
 obtain ⟨S, R, s1, s2, s3, s4, s5⟩ := traceF hq
 generalize hord : zDw l0 its = ord at F s3 s4
 rw [F.len] at s3
 have htr : ∀ (p : Nat) i o, ord[p]? = some i → ops[i]? = some o → zA1 P T ops o (S p) (R p) (Eqs (S (p + 1)) (R (p + 1))) := fun p i o hp ho => by
  have := s4 p i hp
  rwa [show ops.getD i default = o by simp [ho]] at this
 have hL : ∀ t e, ord[t]? = some e → ∀ i ∈ zL0 its e, ∃ n, zGt P T ops (ops.getD i default) n (S (t + 1)) (R (t + 1)) ∧ (n < (R t).length → zPz (ops.getD e default) n (S t)) ∧ (R t).length ≤ (R (t + 1)).length := by
  intro t e ht i hi
  unfold zL0 at hi
  split at hi
  ·rename_i x hx
   obtain ⟨y, hy, rfl⟩ := List.mem_map.1 hi
   have hxe : x.1 = e := by have := List.find?_some hx; simpa using this
   obtain ⟨pre, post, hpp⟩ := List.append_of_mem (List.mem_of_find?_eq_some hx)
   obtain ⟨k1, k2⟩ := s5 pre x post hpp
   have ht2 : ord[l0.length + (zAk pre).length]? = some e := by
    rw [← hord, zDw, List.getElem?_append_right (by omega), hpp]
    simp only [zAk, List.flatMap_append, List.flatMap_cons]
    rw [show l0.length + (List.flatMap (fun x => x.1 :: x.2.2) pre).length - l0.length = (List.flatMap (fun x => x.1 :: x.2.2) pre).length by omega]
    rw [List.getElem?_append_right (Nat.le_refl _), Nat.sub_self]
    simp [hxe]
   have e1 := zAa F.nodup ht
   have e2 := zAa F.nodup ht2
   have e3 : t = l0.length + (zAk pre).length := by omega
   rw [e3]
   exact ⟨y.2, k2.2 y hy, fun hlt => by rw [← hxe]; exact k1 y hy hlt, k2.1⟩
  ·cases hi
 have hop : ∀ p, p < ops.size → ∃ i o, ord[p]? = some i ∧ ops[i]? = some o := fun p hp => by
  have h1 : p < ord.length := by rw [F.len]; exact hp
  refine ⟨ord[p], ops[ord[p]]'((F.mem _).2 (List.getElem_mem h1)), List.getElem?_eq_getElem h1, by simp [(F.mem _).2 (List.getElem_mem h1)]⟩
 obtain ⟨t, t1, t2, t3⟩ := zSs (P := P) (T := T) htr hop ops.size 0 (by omega)
 refine wp_region_any hm ?_
 have hfix : Fix I w I { w with drawn := w.drawn + 1 } := fun b o hi => ⟨hi, fun v hv => hv, fun _ _ h => h⟩
 refine zX8 (β0 := β) (I0 := I) (w0 := w) (df := a.defers) h.gl hM F F.len.symm htr s3 hL hP hQ ops.size _ a _ 0 t ⟨by simp, ?_, t1, t2, fun p i hp => by omega, fun p i _ _ hl => ?_, t3, rfl, fun p i hp => by omega, β, I, S 0, ?_, rfl, fun x _ _ => rfl, fun p i o x _ _ _ hl => ?_, fun k b c hk => ?_, h.inj, fun k b c j e hk he hj => ?_, h.imb, ?_, fun k x hk => .inl (by rw [s2]; exact h.dom k x hk), fun p i hp => by omega⟩ ?_
 ·intro k ok _ hl
  exfalso
  revert hl
  simp only [Array.getD_eq_getD_getElem?, Array.getElem?_replicate]
  split <;> simp
 ·revert hl
  unfold Ls
  simp only [Array.getD_eq_getD_getElem?, Array.getElem?_replicate]
  split <;> simp
 ·rw [s1]; exact RelT.mono hfix _ _ (BeLe.refl _) _ _ h.rel
 ·exfalso
  revert hl
  unfold Ls
  simp only [Array.getD_eq_getD_getElem?, Array.getElem?_replicate]
  split <;> simp
 ·obtain ⟨e, m1, m2⟩ := h.sr k b c hk
  rw [← s2] at m1
  obtain ⟨e', n1, n2⟩ := (t2.store' (Nat.le_refl _) t2.le (Nat.le_refl _)).2 k e m1
  refine ⟨e', n1, (OwnRel.same n2).1 (OwnRel.mono m2 rfl hfix (BeLe.refl _))⟩
 ·obtain ⟨e0, m1, m2⟩ := h.sr k b c hk
  have m1' := m1
  rw [← s2] at m1
  obtain ⟨e', n1, n2⟩ := (t2.store' (Nat.le_refl _) t2.le (Nat.le_refl _)).2 k e0 m1
  rw [he] at n1; cases n1
  have := h.fz k b c j e0 hk m1' hj
  exact ⟨n2.2.2.2.2.2 this.1, by rw [n2.1, n2.2.2.2.2.1]; exact this.2⟩
 ·exact ⟨⟨hfix, Nat.le_refl _, fun _ _ _ => rfl, rfl, rfl, rfl, Nat.le_succ _, fun k b c hk => .inl ⟨k, c, hk⟩, fun _ _ h => .inl h⟩, Kp.refl _ _⟩
 ·simp
theorem zRd (hM : zBi P T) (hm : P.follows .mixedOrders = true) {id : Nat} {sl : List D} {st : List Bk} {β : Be} {I : Im} {a : Act} {w : World} (hok : zTt T ops ord = true) (hq : seqW P T ops true (ord.map fun i => ops.getD i default) sl st K) (h : Sim β I w sl st a.tmps.toList)
  (hP : ∀ c a w, ¬ Q (.panic c) a w) (hQ : ∀ a' w', zQq T K β I w a.defers a' w' → Q .normal a' w') : (Code.region id ops true).wp P Q a w :=
 zH6 (l0 := ord) (its := []) hM hm (zWg hok) hq h hP hQ
end
end
section
open Go.RowKit
section
variable {P : Program} {T : Par} {ops : Array Oper} {ord : List Nat} {W : Nat → Nat → Bool} {S : Nat → List D} {R : Nat → List Bk} {Q : Exit → Act → World → Prop}
variable {β0 : Be} {I0 : Im} {w0 : World} {df : List Deferred} {m : Nat} {listed : Array Bool} {a : Act} {w : World} {β : Be} {I : Im} {SL : List D}
structure RegG (T : Par) (ops : Array Oper) (ord : List Nat) (W : Nat → Nat → Bool) (m : Nat) : Prop where
 len : ord.length = ops.size
 nodup : ord.Nodup
 mem : ∀ i, i < ops.size ↔ i ∈ ord
 nosel : Region.noSelect ops = true
 dep : ∀ (i : Nat) (o : Oper), ops[i]? = some o → ∀ d ∈ deps o, d < i ∧ (pos ord d < pos ord i ∨ (m ≤ pos ord d ∧ m ≤ pos ord i))
 anc : ∀ (i : Nat) (o : Oper) (x : Nat), ops[i]? = some o → x < ops.size → W i x = true → ∃ d ∈ deps o, d = x ∨ W d x = true
 dst : ∀ (i j : Nat) (oi oj : Oper) (d : Nat), ops[i]? = some oi → ops[j]? = some oj → i ≠ j → oi.dst = some d → oj.dst ≠ some d
 haz : ∀ (i j : Nat) (oi oj : Oper) (d : Nat), ops[i]? = some oi → ops[j]? = some oj → i ≠ j → oj.dst = some d → d ∈ oi.looksAt ops → W i j = true ∨ W j i = true
 lig : ∀ (i j : Nat) (oi oj : Oper), ops[i]? = some oi → ops[j]? = some oj → i ≠ j → zV T oi.op = true → oi.apart ops oj = true ∨ i ∈ deps oj ∨ W i j = true
theorem zSk (F : RegG T ops ord W m) {i : Nat} {o : Oper} (ho : ops[i]? = some o) : ord[pos ord i]? = some i ∧ pos ord i < ops.size := by
 have hi : i ∈ ord := (F.mem i).1 (Array.getElem?_eq_some_iff.1 ho).1
 have := zKb hi
 rw [F.len] at this
 exact this
theorem zEo (R : RegG T ops ord W m) {listed : Array Bool} (h : Closed .any ops listed) : ∀ (i : Nat) (o : Oper) (x : Nat), ops[i]? = some o → x < ops.size → (∀ d ∈ deps o, Ls listed d) → W i x = true → Ls listed x := by
 intro i
 induction i using Nat.strongRecOn with
 | _ i ih =>
  intro o x ho hx hd hw
  obtain ⟨d, hd', h1⟩ := R.anc i o x ho hx hw
  rcases h1 with rfl | h1
  ·exact hd d hd'
  ·have hlt := (R.dep i o ho d hd').1
   have hi := (Array.getElem?_eq_some_iff.1 ho).1
   have hod : ops[d]? = some ops[d] := by simp [show d < ops.size by omega]
   exact ih d hlt _ x hod hx (zC9 h hod (hd d hd')) h1
structure Cr (P : Program) (T : Par) (ops : Array Oper) (ord : List Nat) (S : Nat → List D) (R : Nat → List Bk) (β0 : Be) (I0 : Im) (w0 : World) (m : Nat) (listed : Array Bool) (a : Act) (w : World) (β : Be) (I : Im) (SL : List D) : Prop where
 k0 : RelT I w β SL a.tmps.toList
 k1 : SL.length = (S 0).length
 k2 : ∀ x, (∀ p i o, p < m → ord[p]? = some i → Ls listed i → ops[i]? = some o → o.dst ≠ some x) → SL[x]? = (S 0)[x]?
 k3 : ∀ p i o x, p < m → ord[p]? = some i → Ls listed i → ops[i]? = some o → o.dst = some x → SL[x]? = (S (p + 1))[x]?
 k4 : ∀ k b c, β k = some (b, c) → ∃ e, (R m)[k]? = some e ∧ OwnRel I w β b c e
 k5 : Inj β
 k6 : FZ β I (R m)
 k7 : ImB I w
 k8 : Stp β0 I0 w0 β I w ∧ Kp T β0 β
 k9 : ∀ k x, β k = some x → k < (R 0).length ∨ ∃ p i, p < m ∧ ord[p]? = some i ∧ Ls listed i ∧ (R p).length ≤ k ∧ k < (R (p + 1)).length
theorem zNk (F : RegG T ops ord W m) : ∀ (i : Nat) (o : Oper) (x : Nat), ops[i]? = some o → x < ops.size → pos ord i < m → W i x = true → pos ord x < pos ord i := by
 intro i
 induction i using Nat.strongRecOn with
 | _ i ih =>
  intro o x ho hx hm hw
  obtain ⟨d, hd', h1⟩ := F.anc i o x ho hx hw
  have hdp := F.dep i o ho d hd'
  have hdp2 : pos ord d < pos ord i := hdp.2.resolve_right fun k => by omega
  rcases h1 with rfl | h1
  ·exact hdp2
  ·have hi := (Array.getElem?_eq_some_iff.1 ho).1
   have hod : ops[d]? = some ops[d] := by simp [show d < ops.size by omega]
   have := ih d hdp.1 _ x hod hx (by omega) h1
   omega
theorem Cr.look (F : RegG T ops ord W m) (cl : Closed .any ops listed) (seg : Seg P T ops ord S R 0 m) (h : Cr P T ops ord S R β0 I0 w0 m listed a w β I SL) {i : Nat} {o : Oper} (ho : ops[i]? = some o) (hn : ¬ Ls listed i) (hd : ∀ d ∈ deps o, Ls listed d) (h2 : pos ord i < m) :
  ∀ x ∈ o.looksAt ops, SL.getD x .unk = (S (pos ord i)).getD x .unk := by
 intro x hx
 have goal : SL[x]? = (S (pos ord i))[x]? := by
  by_cases hw : ∃ p j oj, p < m ∧ ord[p]? = some j ∧ Ls listed j ∧ ops[j]? = some oj ∧ oj.dst = some x
  ·obtain ⟨p, j, oj, a2, a3, a4, a5, a6⟩ := hw
   rw [h.k3 p j oj x a2 a3 a4 a5 a6]
   have hpj : pos ord j = p := zAa F.nodup a3
   have hne : i ≠ j := fun e => hn (e ▸ a4)
   have hlt : p < pos ord i := by
    rcases F.haz i j o oj x ho a5 hne a6 hx with hz | hz
    ·rcases Nat.lt_or_ge p (pos ord i) with h3 | h3
     ·exact h3
     ·exfalso
      -- an ancestor lies before
      have := zNk F i o j ho (Array.getElem?_eq_some_iff.1 a5).1 h2 hz
      omega
    ·exact absurd (zEo F cl j oj i a5 (Array.getElem?_eq_some_iff.1 ho).1 (zC9 cl a5 a4) hz) hn
   refine ((seg.slot' (by omega) (show p + 1 ≤ pos ord i by omega) (by omega)).2 x fun r k ok b1 b2 b3 b4 b5 => ?_).symm
   have hpk : pos ord k = r := zAa F.nodup b3
   have hkj : k ≠ j := fun e => by rw [e, hpj] at hpk; omega
   exact F.dst k j ok oj x b4 a5 hkj b5 a6
  ·rw [h.k2 x (fun p j oj a2 a3 a4 a5 a6 => hw ⟨p, j, oj, a2, a3, a4, a5, a6⟩)]
   refine ((seg.slot' (Nat.le_refl _) (Nat.zero_le _) (by omega)).2 x fun r k ok b1 b2 b3 b4 b5 => ?_).symm
   have hpk : pos ord k = r := zAa F.nodup b3
   have hne : i ≠ k := fun e => by rw [← e] at hpk; omega
   rcases F.haz i k o ok x ho b4 hne b5 hx with hz | hz
   ·have : Ls listed k := zEo F cl i o k ho (Array.getElem?_eq_some_iff.1 b4).1 hd hz
    exact hw ⟨r, k, ok, by omega, b3, this, b4, b5⟩
   ·have := zNk F k ok i b4 (Array.getElem?_eq_some_iff.1 ho).1 (by omega) hz
    omega
 rw [List.getD_eq_getElem?_getD, List.getD_eq_getElem?_getD, goal]
theorem Cr.next (F : RegG T ops ord W m) (hsz : listed.size = ops.size) (seg : Seg P T ops ord S R 0 m) (h : Cr P T ops ord S R β0 I0 w0 m listed a w β I SL) {i : Nat} {o : Oper} (hr : i ∈ Region.ready .any ops listed) (ho : ops[i]? = some o) (h2 : pos ord i < m)
  {d : D} {fz : List Nat} {news : List Bk} {β' : Be} {I' : Im} {w' : World} {v : Value} (e1 : S (pos ord i + 1) = putD (S (pos ord i)) o.dst d) (e2 : R (pos ord i + 1) = zAe (R (pos ord i)) fz ++ news)
  (hout : OutN β I w (R (pos ord i)) news fz β' I' w') (hd : Rel I' w' β' d v) : Cr P T ops ord S R β0 I0 w0 m (listed.setIfInBounds i true) (a.put o.dst v) w' β' I' (putD SL o.dst d) ∧ BeLe β β' := by
 obtain ⟨k0, k1, k2, k3, k4, k5, k6, k7, k8, k9⟩ := h
 have h1 : 0 ≤ pos ord i := Nat.zero_le _
 have hisz : i < listed.size := by rw [hsz]; exact (Array.getElem?_eq_some_iff.1 ho).1
 have hls : ∀ j, Ls (listed.setIfInBounds i true) j ↔ j = i ∨ Ls listed j := fun j => zKn hisz
 have hpi : ord[pos ord i]? = some i := (zSk F ho).1
 have hnl : ¬ Ls listed i := ((zAj hsz).1 hr).1
 -- ids of the new blocks are not taken yet
 have hfr : ∀ k, (R (pos ord i)).length ≤ k → k < (R (pos ord i + 1)).length → β k = none := by
  intro k hk1 hk2
  cases hb : β k with
  | none => rfl
  | some x =>
   exfalso
   rcases k9 k x hb with h3 | ⟨p, j, a2, a3, a4, a5, a6⟩
   ·have := (seg.store' (Nat.le_refl _) h1 (by omega)).1
    omega
   ·rcases Nat.lt_trichotomy p (pos ord i) with h3 | h3 | h3
    ·have := (seg.store' (Nat.zero_le _) (show p + 1 ≤ pos ord i by omega) (by omega)).1
     omega
    ·subst h3
     rw [hpi] at a3; cases a3
     exact hnl a4
    ·have := (seg.store' (Nat.zero_le _) (show pos ord i + 1 ≤ p by omega) (by omega)).1
     omega
 have hlen : (R (pos ord i + 1)).length = (R (pos ord i)).length + news.length := by rw [e2, List.length_append, zS]
 have hle : BeLe β β' := fun k x hk => by
  rw [hout.be k ?_]
  ·exact hk
  ·rcases Nat.lt_or_ge k (R (pos ord i)).length with h3 | h3
   ·exact .inl h3
   ·rcases Nat.lt_or_ge k (R (pos ord i + 1)).length with h4 | h4
    ·rw [hfr k h3 h4] at hk; cases hk
    ·exact .inr (by omega)
 have oldlt : ∀ k b c, β k = some (b, c) → b < w.heap.size := fun k b c hk => by
  obtain ⟨e, _, h2⟩ := k4 k b c hk
  exact h2.lt
 -- an id is old, or new
 have cs : ∀ k b c, β' k = some (b, c) → β k = some (b, c) ∨ ((R (pos ord i)).length ≤ k ∧ k < (R (pos ord i)).length + news.length) := by
  intro k b c hk
  rcases Nat.lt_or_ge k (R (pos ord i)).length with h3 | h3
  ·left; rw [← hout.be k (.inl h3)]; exact hk
  ·rcases Nat.lt_or_ge k ((R (pos ord i)).length + news.length) with h4 | h4
   ·exact .inr ⟨h3, h4⟩
   ·left; rw [← hout.be k (.inr h4)]; exact hk
 have newE : ∀ k e, (R (pos ord i)).length ≤ k → news[k - (R (pos ord i)).length]? = some e → ∃ e', (R m)[k]? = some e' ∧ SameB e e' := by
  intro k e hk he
  refine (seg.store' (Nat.zero_le _) (show pos ord i + 1 ≤ m by omega) (Nat.le_refl _)).2 k e ?_
  rw [e2, List.getElem?_append_right (by rw [zS]; exact hk), zS]
  exact he
 have hstp : Stp β I w β' I' w' := ⟨hout.fix, hout.ext.size, fun b hb _ => Below.block hout.ext.1 b hb, Below.os hout.ext.1, Below.tape hout.ext.1, Below.output hout.ext.1, hout.ext.2, fun k b c hk => by
   rcases cs k b c hk with h3 | ⟨h3, h4⟩
   ·exact .inl ⟨k, c, h3⟩
   ·exact .inr (hout.nb k b c h3 h4 hk).1, fun b o' hi => by
   rcases hout.im b o' hi with (hi | ⟨k', _, c', _, m1, _⟩) | hi
   ·exact .inl hi
   ·exact .inr (.inr ⟨k', c', m1⟩)
   ·exact .inr (.inl hi)⟩
 refine ⟨⟨zDm (RelT.mono hout.fix β β' hle _ _ k0) hd o.dst, by rw [zEd, k1], fun x hx => ?_, fun p j oj x a2 a3 a4 a5 a6 => ?_, fun k b c hk => ?_, fun k k' b c c' hk hk' => ?_, fun k b c j e hk he hj => ?_, hout.imb k7, ⟨k8.1.trans hstp, k8.2.trans hle.kp⟩, fun k x hk => ?_⟩, hle⟩
 ·have hne : o.dst ≠ some x := hx (pos ord i) i o h2 hpi ((hls i).2 (.inl rfl)) ho
  rw [zBw hne]
  exact k2 x fun p j oj a2 a3 a4 a5 => hx p j oj a2 a3 ((hls j).2 (.inr a4)) a5
 ·rcases (hls j).1 a4 with rfl | a4
  ·rw [ho] at a5; cases a5
   have hp := zAa F.nodup a3
   subst hp
   rw [e1, a6]
   simp only [putD]
   have hl2 : (S (pos ord j)).length = SL.length := by rw [k1]; exact (seg.slot' (Nat.le_refl _) h1 (by omega)).1
   rcases Nat.lt_or_ge x SL.length with h3 | h3
   ·rw [List.getElem?_set_self h3, List.getElem?_set_self (by omega)]
   ·rw [List.getElem?_eq_none (by simpa using h3), List.getElem?_eq_none (by simp; omega)]
  ·have hne : o.dst ≠ some x := fun e => F.dst j i oj o x a5 ho (fun e => hnl (e ▸ a4)) a6 e
   rw [zBw hne]
   exact k3 p j oj x a2 a3 a4 a5 a6
 ·rcases cs k b c hk with h3 | ⟨h3, h4⟩
  ·obtain ⟨e, m1, m2⟩ := k4 k b c h3
   exact ⟨e, m1, OwnRel.mono m2 (Below.block hout.ext.1 b (oldlt k b c h3)) hout.fix hle⟩
  ·obtain ⟨_, e, m1, m2, _⟩ := hout.nb k b c h3 h4 hk
   obtain ⟨e', n1, n2⟩ := newE k e h3 m1
   exact ⟨e', n1, (OwnRel.same n2).1 m2⟩
 ·rcases cs k b c hk with h3 | ⟨h3, h4⟩ <;> rcases cs k' b c' hk' with h5 | ⟨h5, h6⟩
  ·exact k5 k k' b c c' h3 h5
  ·have := oldlt _ _ _ h3
   have := (hout.nb k' b c' h5 h6 hk').1
   omega
  ·have := oldlt _ _ _ h5
   have := (hout.nb k b c h3 h4 hk).1
   omega
  ·exact hout.inj k k' b c c' h3 h4 h5 h6 hk hk'
 ·rcases cs k b c hk with h3 | ⟨h3, h4⟩
  ·have hlt := oldlt _ _ _ h3
   rcases hout.im b j hj with (hi | ⟨k', hk', c', e', m1, m2, m3⟩) | hi
   ·exact k6 k b c j e h3 he hi
   ·have := k5 k' k b c' c m1 h3
    subst this
    obtain ⟨e1', n1, n2⟩ := (seg.store' (Nat.zero_le _) (show pos ord i + 1 ≤ m by omega) (Nat.le_refl _)).2 k' { e' with fz := true } (by
     rw [e2, List.getElem?_append_left (by rw [zS]; exact (List.getElem?_eq_some_iff.1 m2).1), zAs, m2]
     simp [hk'])
    rw [he] at n1; cases n1
    exact ⟨n2.2.2.2.2.2 rfl, by rw [n2.1, n2.2.2.2.2.1]; exact m3⟩
   ·omega
  ·obtain ⟨_, e', m1, _, m3⟩ := hout.nb k b c h3 h4 hk
   obtain ⟨e'', n1, n2⟩ := newE k e' h3 m1
   rw [he] at n1; cases n1
   exact ⟨n2.2.2.2.2.2 (m3 j hj).1, by rw [n2.1, n2.2.2.2.2.1]; exact (m3 j hj).2⟩
 ·obtain ⟨b, c⟩ := x
  rcases cs k b c hk with h3 | ⟨h3, h4⟩
  ·rcases k9 k _ h3 with h5 | ⟨p, j, a2, a3, a4, a5⟩
   ·exact .inl h5
   ·exact .inr ⟨p, j, a2, a3, (hls j).2 (.inr a4), a5⟩
  ·exact .inr ⟨pos ord i, i, h2, hpi, (hls i).2 (.inl rfl), h3, by omega⟩
theorem Cr.full (hg0 : Gl I0 w0) (F : RegG T ops ord W m) (seg : Seg P T ops ord S R 0 m) (h : Cr P T ops ord S R β0 I0 w0 m listed a w β I SL) (hall : ∀ p i, p < m → ord[p]? = some i → Ls listed i) : Sim β I w (S m) (R m) a.tmps.toList := by
 obtain ⟨k0, k1, k2, k3, k4, k5, k6, k7, k8, k9⟩ := h
 have hSL : SL = S m := by
  apply List.ext_getElem?
  intro x
  by_cases hw : ∃ p j oj, p < m ∧ ord[p]? = some j ∧ Ls listed j ∧ ops[j]? = some oj ∧ oj.dst = some x
  ·obtain ⟨p, j, oj, a2, a3, a4, a5, a6⟩ := hw
   rw [k3 p j oj x a2 a3 a4 a5 a6]
   have hpj : pos ord j = p := zAa F.nodup a3
   refine ((seg.slot' (by omega) (show p + 1 ≤ m by omega) (Nat.le_refl _)).2 x fun r k ok b1 b2 b3 b4 b5 => ?_).symm
   have hpk : pos ord k = r := zAa F.nodup b3
   have hkj : k ≠ j := fun e => by rw [e, hpj] at hpk; omega
   exact F.dst k j ok oj x b4 a5 hkj b5 a6
  ·rw [k2 x (fun p j oj a2 a3 a4 a5 a6 => hw ⟨p, j, oj, a2, a3, a4, a5, a6⟩)]
   refine ((seg.slot' (Nat.le_refl _) seg.le (Nat.le_refl _)).2 x fun r k ok b1 b2 b3 b4 b5 => ?_).symm
   exact hw ⟨r, k, ok, b2, b3, hall r k b2 b3, b4, b5⟩
 refine ⟨hSL ▸ k0, k4, k5, k6, fun k x hk => ?_, k7, hg0.mono k8.1.fix⟩
 rcases k9 k x hk with h3 | ⟨p, j, a2, a3, a4, a5, a6⟩
 ·have := (seg.store' (Nat.le_refl _) seg.le (Nat.le_refl _)).1
  omega
 ·have := (seg.store' (Nat.zero_le _) (show p + 1 ≤ m by omega) (Nat.le_refl _)).1
  omega
structure RegL (P : Program) (T : Par) (ops : Array Oper) (ord : List Nat) (W : Nat → Nat → Bool) (m : Nat) (Lp : List Lc) : Prop where
 g : RegG T ops ord W m
 non : ∀ i o, ops[i]? = some o → pos ord i < m → isE T o.op = false
 cov : ∀ i o, ops[i]? = some o → m ≤ pos ord i → ∃ (l : Nat) (c : Lc), Lp[l]? = some c ∧ (i = c.j ∨ i = c.i)
 loc : ∀ (l : Nat) (c : Lc), Lp[l]? = some c → ∃ oj oi, ord[m + 2 * l]? = some c.j ∧ ops[c.j]? = some oj ∧ oj.op = .alloc c.e ∧ oj.guard = none ∧ oj.dst = some c.x ∧ ord[m + 2 * l + 1]? = some c.i ∧ ops[c.i]? = some oi ∧ oi.op = .store c.t (.tmp c.x) c.v ∧ oi.guard = none ∧ oi.dst = none ∧ c.j ∈ deps oi ∧ c.v ≠ .tmp c.x
 only : ∀ (l : Nat) (c : Lc), Lp[l]? = some c → ∀ k ok, ops[k]? = some ok → k ≠ c.i → c.x ∉ ok.looksAt ops
 size : ops.size = m + 2 * Lp.length
variable {Lp : List Lc} {G : Nat → Nat}
def LF (P : Program) (S : Nat → List D) (m : Nat) (w0 : World) (listed : Array Bool) (a : Act) (w : World) (β : Be) (I : Im) (g : Nat) (c : Lc) : Prop :=
 Ls listed c.j → ∃ us z, a.tmps[c.x]? = some (.pointer (some ⟨g, 0, none⟩)) ∧ w0.heap.size ≤ g ∧ g < w.heap.size ∧ (∀ k b, β k ≠ some (g, b)) ∧ (∀ o, ¬ I g o) ∧ zDq P c.e = some z ∧ w.heap[g]? = some (.cells us.toArray c.e (0, 0)) ∧
  RelL I w β (if listed.getD c.i false = true then setAt z 0 (cellsOf (evD (S m) c.v)) else z) us
theorem put_ne {a : Act} {dst : Option Nat} {v : Value} {x : Nat} (h : dst ≠ some x) : (a.put dst v).tmps[x]? = a.tmps[x]? := by
 cases dst with
 | none => rfl
 | some d =>
  have hne : d ≠ x := fun e => h (by rw [e])
  simp [Act.put, Array.getElem?_setIfInBounds, hne]
theorem LF.move {g : Nat} {c : Lc} {listed' : Array Bool} {a' : Act} {w' : World} {β' : Be} {I' : Im} (h : LF P S m w0 listed a w β I g c) (l1 : Ls listed' c.j → Ls listed c.j) (l2 : listed'.getD c.i false = listed.getD c.i false)
  (ht : a'.tmps[c.x]? = a.tmps[c.x]?) (hs : w.heap.size ≤ w'.heap.size) (hh : w'.heap[g]? = w.heap[g]?) (hf : Fix I w I' w') (hle : BeLe β β') (hb : g < w.heap.size → (∀ k b, β k ≠ some (g, b)) → ∀ k b, β' k ≠ some (g, b)) (hi : g < w.heap.size → (∀ k b, β k ≠ some (g, b)) → (∀ o, ¬ I g o) → ∀ o, ¬ I' g o) :
  LF P S m w0 listed' a' w' β' I' g c := fun hl => by
 obtain ⟨us, z, h1, h2, h3, h4, h5, h6, h7, h8⟩ := h (l1 hl)
 exact ⟨us, z, ht.trans h1, h2, Nat.lt_of_lt_of_le h3 hs, hb h3 h4, hi h3 h4 h5, h6, hh.trans h7, by rw [l2]; exact RelL.mono hf _ _ hle _ _ h8⟩
structure Lv (P : Program) (T : Par) (ops : Array Oper) (ord : List Nat) (S : Nat → List D) (R : Nat → List Bk) (β0 : Be) (I0 : Im) (w0 : World) (m : Nat) (Lp : List Lc) (listed : Array Bool) (a : Act) (w : World) (β : Be) (I : Im) (SL : List D) (G : Nat → Nat) : Prop where
 cr : Cr P T ops ord S R β0 I0 w0 m listed a w β I SL
 lf : ∀ (l : Nat) (c : Lc), Lp[l]? = some c → LF P S m w0 listed a w β I (G l) c
 ne : ∀ (l l' : Nat) (c c' : Lc), Lp[l]? = some c → Lp[l']? = some c' → Ls listed c.j → Ls listed c'.j → G l = G l' → l = l'
theorem zSx {listed : Array Bool} {i k : Nat} (h : k ≠ i) : (listed.setIfInBounds i true).getD k false = listed.getD k false := by
 simp only [Array.getD_eq_getD_getElem?, Array.getElem?_setIfInBounds]
 rw [if_neg (Ne.symm h)]
theorem Lv.next (F : RegL P T ops ord W m Lp) (hsz : listed.size = ops.size) (seg : Seg P T ops ord S R 0 m) (h : Lv P T ops ord S R β0 I0 w0 m Lp listed a w β I SL G) {i : Nat} {o : Oper} (hr : i ∈ Region.ready .any ops listed) (ho : ops[i]? = some o) (h2 : pos ord i < m)
  {d : D} {fz : List Nat} {news : List Bk} {β' : Be} {I' : Im} {w' : World} {v : Value} (e1 : S (pos ord i + 1) = putD (S (pos ord i)) o.dst d) (e2 : R (pos ord i + 1) = zAe (R (pos ord i)) fz ++ news)
  (hout : OutN β I w (R (pos ord i)) news fz β' I' w') (hd : Rel I' w' β' d v) : Lv P T ops ord S R β0 I0 w0 m Lp (listed.setIfInBounds i true) (a.put o.dst v) w' β' I' (putD SL o.dst d) G := by
 obtain ⟨c1, hle⟩ := h.cr.next F.g hsz seg hr ho h2 e1 e2 hout hd
 have hisz : i < listed.size := by rw [hsz]; exact (Array.getElem?_eq_some_iff.1 ho).1
 have hls : ∀ j, Ls (listed.setIfInBounds i true) j ↔ j = i ∨ Ls listed j := fun j => zKn hisz
 have hne : ∀ (l : Nat) (c : Lc), Lp[l]? = some c → c.j ≠ i ∧ c.i ≠ i ∧ o.dst ≠ some c.x := by
  intro l c hc
  obtain ⟨oj, oi, p1, p2, p3, p4, p5, p6, p7, p8, p9⟩ := F.loc l c hc
  have q1 := zAa F.g.nodup p1
  have q2 := zAa F.g.nodup p6
  have n1 : c.j ≠ i := fun e => by rw [e] at q1; omega
  have n2 : c.i ≠ i := fun e => by rw [e] at q2; omega
  exact ⟨n1, n2, F.g.dst c.j i oj o c.x p2 ho n1 p5⟩
 refine ⟨c1, fun l c hc => ?_, fun l l' c c' hc hc' hl hl' => ?_⟩
 ·obtain ⟨n1, n2, n3⟩ := hne l c hc
  by_cases hj : Ls listed c.j
  ·obtain ⟨us, z, _, _, g3, _⟩ := h.lf l c hc hj
   refine (h.lf l c hc).move (fun hl => ((hls _).1 hl).resolve_left n1) (zSx n2) (put_ne n3) hout.ext.size (Below.block hout.ext.1 _ g3) hout.fix hle (fun h1 h4 k b hk => ?_) (fun h1 h4 h5 o' ho' => ?_)
   ·rcases Nat.lt_or_ge k (R (pos ord i)).length with h6 | h6
    ·rw [hout.be k (.inl h6)] at hk; exact h4 k b hk
    ·rcases Nat.lt_or_ge k ((R (pos ord i)).length + news.length) with h7 | h7
     ·have := (hout.nb k _ b h6 h7 hk).1
      omega
     ·rw [hout.be k (.inr h7)] at hk; exact h4 k b hk
   ·rcases hout.im _ o' ho' with (hx | ⟨k', _, c', _, m1, _⟩) | hx
    ·exact h5 o' hx
    ·exact h4 k' c' m1
    ·omega
  ·exact fun hl => absurd (((hls _).1 hl).resolve_left n1) hj
 ·exact h.ne l l' c c' hc hc' (((hls _).1 hl).resolve_left (hne l c hc).1) (((hls _).1 hl').resolve_left (hne l' c' hc').1)
theorem set_unk {SL : List D} {x : Nat} (h : SL.getD x .unk = .unk) : SL.set x .unk = SL := by
 apply List.ext_getElem?
 intro y
 rw [List.getElem?_set]
 split
 ·rename_i e; subst e
  rw [List.getD_eq_getElem?_getD] at h
  split
  ·rename_i hl
   rw [List.getElem?_eq_getElem hl] at h ⊢
   simp only [Option.getD_some] at h
   rw [h]
  ·rename_i hl; rw [List.getElem?_eq_none (by omega)]
 ·rfl
theorem Lv.alloc (F : RegL P T ops ord W m Lp) (hsz : listed.size = ops.size) (cl : Closed .any ops listed) (h : Lv P T ops ord S R β0 I0 w0 m Lp listed a w β I SL G) {l : Nat} {c : Lc} (hc : Lp[l]? = some c) (hr : c.j ∈ Region.ready .any ops listed) {oj : Oper} (ho : ops[c.j]? = some oj) {z : List D} (hz : zDq P c.e = some z) (h0 : (S 0).getD c.x .unk = .unk) (hxl : c.x < (S 0).length) :
  ∃ v w', (execOp a.eval oj).run P w = .ok (.value v) w' ∧ Lv P T ops ord S R β0 I0 w0 m Lp (listed.setIfInBounds c.j true) (a.put oj.dst v) w' β I SL (fun l' => if l' = l then w.heap.size else G l') := by
 obtain ⟨oj', oi, p1, p2, p3, p4, p5, p6, p7, p8, p9, p10, p11, p12⟩ := F.loc l c hc
 rw [ho] at p2; cases p2
 obtain ⟨k0, k1, k2, k3, k4, k5, k6, k7, k8, k9⟩ := h.cr
 have q1 := zAa F.g.nodup p1
 have q2 := zAa F.g.nodup p6
 obtain ⟨hnl, _, _⟩ := (zAj hsz).1 hr
 have hisz : c.j < listed.size := by rw [hsz]; exact (Array.getElem?_eq_some_iff.1 ho).1
 have hls : ∀ j, Ls (listed.setIfInBounds c.j true) j ↔ j = c.j ∨ Ls listed j := fun j => zKn hisz
 obtain ⟨i, v, g1, g2, g3, g4, g5⟩ := zBs (P := P) (I := I) (w := w) (β := β) hz
 have hext : Ext w (w.alloc (.cells v.cells c.e)) := Ext.alloc w _
 have hfix : Fix I w I (w.alloc (.cells v.cells c.e)) := Fix.ext hext fun _ _ h => h
 have oldlt : ∀ k b cc, β k = some (b, cc) → b < w.heap.size := fun k b cc hk => by
  obtain ⟨e, _, h2⟩ := k4 k b cc hk
  exact h2.lt
 have hx0 : SL.getD c.x .unk = .unk := by
  have := k2 c.x fun p i' o' hp hi' _ ho' => by
   have hpi := zAa F.g.nodup hi'
   exact F.g.dst c.j i' oj o' c.x ho ho' (fun e => by rw [← e] at hpi; omega) p5
  rw [List.getD_eq_getElem?_getD, this, ← List.getD_eq_getElem?_getD]; exact h0
 have hstp : Stp β I w β I (w.alloc (.cells v.cells c.e)) := ⟨hfix, hext.size, fun b hb _ => Below.block hext.1 b hb, Below.os hext.1, Below.tape hext.1, Below.output hext.1, hext.2, fun k b cc hk => .inl ⟨k, cc, hk⟩, fun _ _ h => .inl h⟩
 have hlt : w.heap.size < (w.alloc (.cells v.cells c.e)).heap.size := (Array.getElem?_eq_some_iff.1 (zCb w v.cells c.e)).1
 refine ⟨.pointer (some ⟨w.heap.size, 0, none⟩), w.alloc (.cells v.cells c.e), ?_, ⟨?_, k1, fun x hx => k2 x fun p i' o' hp hi' hl ho' => hx p i' o' hp hi' ((hls _).2 (.inr hl)) ho', fun p i' o' x hp hi' hl ho' hd => ?_, fun k b cc hk => ?_, k5, k6, fun b o hb => Nat.lt_of_lt_of_le (k7 b o hb) hext.size, ⟨k8.1.trans hstp, k8.2⟩, fun k x hk => ?_⟩, fun l' c' hc' => ?_, fun l' l'' c' c'' hc' hc'' hl' hl'' he => ?_⟩
 ·simp [execOp, p3, Instr.alloc, zDf g1 g2, newVar, newRow]
 ·have := zDm (RelT.mono hfix β β (BeLe.refl _) _ _ k0) (d := .unk) (v := .pointer (some ⟨w.heap.size, 0, none⟩)) (by simp only [Rel]) oj.dst
  rw [p5] at this ⊢
  simp only [putD] at this
  rw [set_unk hx0] at this
  exact this
 ·refine k3 p i' o' x hp hi' (((hls _).1 hl).resolve_left fun e => ?_) ho' hd
  have := zAa F.g.nodup hi'
  rw [e] at this; omega
 ·obtain ⟨e, m1, m2⟩ := k4 k b cc hk
  exact ⟨e, m1, OwnRel.mono m2 (Below.block hext.1 b (oldlt k b cc hk)) hfix (BeLe.refl _)⟩
 ·rcases k9 k x hk with h5 | ⟨p, j, a2, a3, a4, a5⟩
  ·exact .inl h5
  ·exact .inr ⟨p, j, a2, a3, (hls j).2 (.inr a4), a5⟩
 ·by_cases hll : l' = l
  ·subst hll
   rw [hc] at hc'; cases hc'
   intro _
   have hni : listed.getD c.i false = false := by
    have : ¬ Ls listed c.i := fun hi => hnl (zC9 cl p7 hi _ p11)
    unfold Ls at this; simpa using this
   have hne : c.i ≠ c.j := fun e => by rw [e] at q2; omega
   rw [if_pos rfl, zSx hne, hni]
   refine ⟨v.cells.toList, z, ?_, k8.1.size, hlt, fun k b hk => Nat.lt_irrefl _ (oldlt k _ b hk), fun o ho' => Nat.lt_irrefl _ (k7 _ o ho'), hz, by simpa using zCb w v.cells c.e, ?_⟩
   ·rw [p5]
    have hxl : c.x < a.tmps.size := by
     have := k0.length
     rw [k1] at this
     rw [this] at hxl
     simpa using hxl
    simp [Act.put, hxl]
   ·rw [if_neg (by decide)]
    exact RelL.mono hfix _ _ (BeLe.refl _) _ _ g3
  ·rw [if_neg hll]
   obtain ⟨oj2, oi2, r1, r2, r3, r4, r5, r6, r7, r8⟩ := F.loc l' c' hc'
   have s1 := zAa F.g.nodup r1
   have s2 := zAa F.g.nodup r6
   have n1 : c'.j ≠ c.j := fun e => by rw [e] at s1; omega
   have n2 : c'.i ≠ c.j := fun e => by rw [e] at s2; omega
   by_cases hj : Ls listed c'.j
   ·obtain ⟨us, z', _, _, g3', _⟩ := h.lf l' c' hc' hj
    exact (h.lf l' c' hc').move (fun hl => ((hls _).1 hl).resolve_left n1) (zSx n2) (put_ne (F.g.dst c'.j c.j oj2 oj c'.x r2 ho n1 r5)) hext.size (Below.block hext.1 _ g3') hfix (BeLe.refl _) (fun _ h => h) (fun _ _ h => h)
   ·exact fun hl => absurd (((hls _).1 hl).resolve_left n1) hj
 ·have old : ∀ (l1 : Nat) (c1 : Lc), Lp[l1]? = some c1 → l1 ≠ l → Ls (listed.setIfInBounds c.j true) c1.j → Ls listed c1.j ∧ G l1 < w.heap.size := by
   intro l1 c1 hc1 hl1 hL
   obtain ⟨oj2, oi2, r1, r2, _⟩ := F.loc l1 c1 hc1
   have s1 := zAa F.g.nodup r1
   have n1 : c1.j ≠ c.j := fun e => by rw [e] at s1; omega
   have hj := ((hls _).1 hL).resolve_left n1
   obtain ⟨us, z', _, _, g3', _⟩ := h.lf l1 c1 hc1 hj
   exact ⟨hj, g3'⟩
  by_cases e1 : l' = l <;> by_cases e2 : l'' = l
  ·omega
  ·rw [if_pos e1, if_neg e2] at he
   have := (old l'' c'' hc'' e2 hl'').2
   omega
  ·rw [if_neg e1, if_pos e2] at he
   have := (old l' c' hc' e1 hl').2
   omega
  ·rw [if_neg e1, if_neg e2] at he
   exact h.ne l' l'' c' c'' hc' hc'' (old l' c' hc' e1 hl').1 (old l'' c'' hc'' e2 hl'').1 he
theorem Lv.store (F : RegL P T ops ord W m Lp) (hsz : listed.size = ops.size) (h : Lv P T ops ord S R β0 I0 w0 m Lp listed a w β I SL G) {l : Nat} {c : Lc} (hc : Lp[l]? = some c) (hr : c.i ∈ Region.ready .any ops listed) {oi : Oper} (ho : ops[c.i]? = some oi) {z : List D} {sz : Nat} (hz : zDq P c.e = some z) (hs : tySz P c.t = some sz)
  (hv : zEl (evD (S m) c.v) = true) (hl : (cellsOf (evD (S m) c.v)).length = sz) (hsz2 : sz ≤ z.length) (hev : evD SL c.v = evD (S m) c.v) :
  ∃ w', (execOp a.eval oi).run P w = .ok .skip w' ∧ Lv P T ops ord S R β0 I0 w0 m Lp (listed.setIfInBounds c.i true) a w' β I SL G := by
 obtain ⟨oj, oi', p1, p2, p3, p4, p5, p6, p7, p8, p9, p10, p11, p12⟩ := F.loc l c hc
 rw [ho] at p7; cases p7
 obtain ⟨k0, k1, k2, k3, k4, k5, k6, k7, k8, k9⟩ := h.cr
 have q1 := zAa F.g.nodup p1
 have q2 := zAa F.g.nodup p6
 obtain ⟨hnl, o2, ho2, hd⟩ := (zAj hsz).1 hr
 rw [ho] at ho2; cases ho2
 have hisz : c.i < listed.size := by rw [hsz]; exact (Array.getElem?_eq_some_iff.1 ho).1
 have hls : ∀ j, Ls (listed.setIfInBounds c.i true) j ↔ j = c.i ∨ Ls listed j := fun j => zKn hisz
 have hjl : Ls listed c.j := hd _ p11
 obtain ⟨us, z', g1, g2, g3, g4, g5, g6, g7, g8⟩ := h.lf l c hc hjl
 rw [hz] at g6; cases g6
 have hni : listed.getD c.i false = false := by unfold Ls at hnl; simpa using hnl
 rw [hni, if_neg (by decide)] at g8
 have hval := zDa hv (hev ▸ zAb k0 c.v)
 have hzl : z.length = us.length := g8.length
 have hvl : (cellsOf (evD (S m) c.v)).length = (a.eval c.v).cells.toList.length := hval.length
 obtain ⟨s1, s2, s3, s4, s5, s6⟩ := zCt (G l) c.e (a.eval c.v).cells.toList 0 w us g7
 have hfix : Fix I w I (w.setCells (G l) 0 (a.eval c.v).cells.toList) := fun b' o' hi => ⟨hi, fun u hu => by
  have hb : b' ≠ G l := fun e => g5 o' (e ▸ hi)
  simp only [World.cell?] at hu ⊢; rw [s2 b' hb]; exact hu, fun mk mv hm => hm.of_heap (s2 b' fun e => g5 o' (e ▸ hi))⟩
 have oldlt : ∀ k b cc, β k = some (b, cc) → b < w.heap.size := fun k b cc hk => by
  obtain ⟨e, _, h2⟩ := k4 k b cc hk
  exact h2.lt
 have hthere : w.there (G l) 0 (a.eval c.v).cells.toList.length := fun j hj => by
  have hlt : 0 + j < us.length := by omega
  refine ⟨?_, frozen_of_row w (G l) (0 + j) us.toArray c.e g7⟩
  rw [cell_of_row w (G l) (0 + j) us.toArray c.e (0, 0) g7]
  have hlt' : j < us.length := by omega
  simp [hlt']
 have hptr : a.eval (.tmp c.x) = .pointer (some ⟨G l, 0, none⟩) := by simp [Act.eval, g1]
 have hrun := zHz (P := P) (w := w) (b := G l) (off := 0) (v := a.eval c.v) hs (by rw [← hl, hvl]; simp) hthere hval.ones
 refine ⟨w.setCells (G l) 0 (a.eval c.v).cells.toList, by simp [execOp, p8, hptr, Sem.run_bind, hrun], ⟨RelT.mono hfix β β (BeLe.refl _) _ _ k0, k1, fun x hx => k2 x fun p i' o' hp hi' hl ho' => hx p i' o' hp hi' ((hls _).2 (.inr hl)) ho', fun p i' o' x hp hi' hl ho' hd => ?_, fun k b cc hk => ?_, k5, k6, fun b o hb => by rw [s3]; exact k7 b o hb, ⟨⟨k8.1.fix.trans hfix, by rw [s3]; exact k8.1.size, fun b hb hn => ?_, s4.trans k8.1.os, s5.trans k8.1.tape, s6.1.trans k8.1.output, Nat.le_trans k8.1.dr s6.2, k8.1.be, k8.1.im⟩, k8.2⟩, fun k x hk => ?_⟩, fun l' c' hc' => ?_, fun l' l'' c' c'' hc' hc'' hl' hl'' he => ?_⟩
 ·refine k3 p i' o' x hp hi' (((hls _).1 hl).resolve_left fun e => ?_) ho' hd
  have := zAa F.g.nodup hi'
  rw [e] at this; omega
 ·obtain ⟨e, m1, m2⟩ := k4 k b cc hk
  exact ⟨e, m1, OwnRel.mono m2 (s2 b fun e => g4 k cc (e ▸ hk)) hfix (BeLe.refl _)⟩
 ·rw [s2 b (by omega)]; exact k8.1.out b hb hn
 ·rcases k9 k x hk with h5 | ⟨p, j, a2, a3, a4, a5⟩
  ·exact .inl h5
  ·exact .inr ⟨p, j, a2, a3, (hls j).2 (.inr a4), a5⟩
 ·by_cases hll : l' = l
  ·subst hll
   rw [hc] at hc'; cases hc'
   intro _
   have : (listed.setIfInBounds c.i true).getD c.i false = true := (hls c.i).2 (.inl rfl)
   rw [this]
   simp only [if_true]
   exact ⟨zCj us 0 (a.eval c.v).cells.toList, z, g1, g2, by rw [s3]; exact g3, g4, g5, hz, s1, RelL.setAt 0 (RelL.mono hfix _ _ (BeLe.refl _) _ _ hval) (RelL.mono hfix _ _ (BeLe.refl _) _ _ g8)⟩
  ·obtain ⟨oj2, oi2, r1, r2, r3, r4, r5, r6, r7, r8⟩ := F.loc l' c' hc'
   have t1 := zAa F.g.nodup r1
   have t2 := zAa F.g.nodup r6
   have n1 : c'.j ≠ c.i := fun e => by rw [e] at t1; omega
   have n2 : c'.i ≠ c.i := fun e => by rw [e] at t2; omega
   by_cases hj : Ls listed c'.j
   ·have hgne : G l' ≠ G l := fun e => hll (h.ne l' l c' c hc' hc hj hjl e)
    exact (h.lf l' c' hc').move (fun hl => ((hls _).1 hl).resolve_left n1) (zSx n2) rfl (by rw [s3]; exact Nat.le_refl _) (s2 _ hgne) hfix (BeLe.refl _) (fun _ h => h) (fun _ _ h => h)
   ·exact fun hl => absurd (((hls _).1 hl).resolve_left n1) hj
 ·have old : ∀ (l1 : Nat) (c1 : Lc), Lp[l1]? = some c1 → Ls (listed.setIfInBounds c.i true) c1.j → Ls listed c1.j := by
   intro l1 c1 hc1 hL
   obtain ⟨oj2, oi2, r1, r2, _⟩ := F.loc l1 c1 hc1
   have t1 := zAa F.g.nodup r1
   exact ((hls _).1 hL).resolve_left fun e => by rw [e] at t1; omega
  exact h.ne l' l'' c' c'' hc' hc'' (old l' c' hc' hl') (old l'' c'' hc'' hl'') he
theorem Cr.ev (F : RegL P T ops ord W m Lp) (hsz : listed.size = ops.size) (cl : Closed .any ops listed) (seg : Seg P T ops ord S R 0 m) (h : Cr P T ops ord S R β0 I0 w0 m listed a w β I SL) {l : Nat} {c : Lc} (hc : Lp[l]? = some c) (hr : c.i ∈ Region.ready .any ops listed) : evD SL c.v = evD (S m) c.v := by
 obtain ⟨oj, oi, p1, p2, p3, p4, p5, p6, p7, p8, p9, p10, p11, p12⟩ := F.loc l c hc
 obtain ⟨hnl, o2, ho2, hd⟩ := (zAj hsz).1 hr
 rw [p7] at ho2; cases ho2
 have q2 := zAa F.g.nodup p6
 cases hv : c.v with
 | tmp y =>
  have hlook : y ∈ oi.looksAt ops := by
   unfold Oper.looksAt
   rw [p8, hv]; simp [Op.operands]
  have goal : SL[y]? = (S m)[y]? := by
   by_cases hw : ∃ p j oj, p < m ∧ ord[p]? = some j ∧ Ls listed j ∧ ops[j]? = some oj ∧ oj.dst = some y
   ·obtain ⟨p, j, oj', a2, a3, a4, a5, a6⟩ := hw
    rw [h.k3 p j oj' y a2 a3 a4 a5 a6]
    refine ((seg.slot' (Nat.zero_le _) (show p + 1 ≤ m by omega) (Nat.le_refl _)).2 y fun r k ok b1 b2 b3 b4 b5 => ?_).symm
    have hpk : pos ord k = r := zAa F.g.nodup b3
    have hpj : pos ord j = p := zAa F.g.nodup a3
    have hkj : k ≠ j := fun e => by rw [e, hpj] at hpk; omega
    exact F.g.dst k j ok oj' y b4 a5 hkj b5 a6
   ·rw [h.k2 y (fun p j oj a2 a3 a4 a5 a6 => hw ⟨p, j, oj, a2, a3, a4, a5, a6⟩)]
    refine ((seg.slot' (Nat.le_refl _) (Nat.zero_le _) (Nat.le_refl _)).2 y fun r k ok b1 b2 b3 b4 b5 => ?_).symm
    have hpk : pos ord k = r := zAa F.g.nodup b3
    have hne : c.i ≠ k := fun e => by rw [← e] at hpk; omega
    rcases F.g.haz c.i k oi ok y p7 b4 hne b5 hlook with hz | hz
    ·have : Ls listed k := zEo F.g cl c.i oi k p7 (Array.getElem?_eq_some_iff.1 b4).1 hd hz
     exact hw ⟨r, k, ok, by omega, b3, this, b4, b5⟩
    ·have := zNk F.g k ok c.i b4 (Array.getElem?_eq_some_iff.1 p7).1 (by omega) hz
     omega
  simp only [evD, List.getD_eq_getElem?_getD, goal]
 | const v => rfl
 | global g => rfl
 | func f => rfl
theorem zVn {o : Oper} {sl sl' : List D} {st st' : List Bk} {e : TypeId} {x : Nat} (h : zA1 P T ops o sl st (Eqs sl' st')) (ho : o.op = .alloc e) (hg : o.guard = none) (hd : o.dst = some x) : ∃ z, zDq P e = some z ∧ sl' = sl.set x (.own st.length 0) ∧ st' = st ++ [⟨z, e, 0, false, false, .plain⟩] := by
 rw [zC1] at h
 simp only [hg, effW, ho, aeff] at h
 cases hz : zDq P e with
 | none => simp [hz] at h
 | some z =>
  simp only [hz, hd, putD, Eqs, zAe, List.foldl_nil] at h
  exact ⟨z, rfl, h.2.2.1.symm, h.2.2.2.symm⟩
theorem zTp {o : Oper} {sl sl' : List D} {st st' : List Bk} {t e : TypeId} {x k : Nat} {v : Operand} {z : List D} (h : zA1 P T ops o sl st (Eqs sl' st')) (ho : o.op = .store t (.tmp x) v) (hg : o.guard = none) (hd : o.dst = none) (hx : sl[x]? = some (.own k 0)) (hk : st[k]? = some ⟨z, e, 0, false, false, .plain⟩) :
  ∃ sz, tySz P t = some sz ∧ zEl (evD sl v) = true ∧ (cellsOf (evD sl v)).length = sz ∧ sz ≤ z.length ∧ sl' = sl ∧ st' = st.set k ⟨setAt z 0 (cellsOf (evD sl v)), e, 0, false, false, .plain⟩ := by
 rw [zC1] at h
 have hx' : evD sl (.tmp x) = .own k 0 := by simp [evD, List.getD_eq_getElem?_getD, hx]
 simp only [hg, effW, ho, aeff, hx'] at h
 cases hs : tySz P t with
 | none => simp [hs] at h
 | some sz =>
  simp only [hs, hk, Kd.isMap, Bk.nob, Bool.false_and, Bool.false_eq_true, if_false, hd, putD, Eqs, zAe, List.foldl_nil] at h
  obtain ⟨_, ⟨_, h2, h3, h4⟩, h5, h6⟩ := h
  exact ⟨sz, rfl, h2, h3, by omega, h5.symm, h6.symm⟩
theorem zNt (F : RegL P T ops ord W m Lp) (htr : ∀ (p : Nat) i o, ord[p]? = some i → ops[i]? = some o → zA1 P T ops o (S p) (R p) (Eqs (S (p + 1)) (R (p + 1)))) (hxl : ∀ (l : Nat) (c : Lc), Lp[l]? = some c → c.x < (S m).length) :
  ∀ l, l ≤ Lp.length → (S (m + 2 * l)).length = (S m).length ∧ (∀ y, (∀ (l' : Nat) (c' : Lc), l' < l → Lp[l']? = some c' → y ≠ c'.x) → (S (m + 2 * l))[y]? = (S m)[y]?) ∧ (R (m + 2 * l)).length = (R m).length + l ∧ (∀ k, k < (R m).length → (R (m + 2 * l))[k]? = (R m)[k]?) ∧
   ∀ (l' : Nat) (c' : Lc), l' < l → Lp[l']? = some c' → ∃ z sz, zDq P c'.e = some z ∧ tySz P c'.t = some sz ∧ zEl (evD (S m) c'.v) = true ∧ (cellsOf (evD (S m) c'.v)).length = sz ∧ sz ≤ z.length ∧ (S (m + 2 * l))[c'.x]? = some (.own ((R m).length + l') 0) ∧ (R (m + 2 * l))[(R m).length + l']? = some ⟨setAt z 0 (cellsOf (evD (S m) c'.v)), c'.e, 0, false, false, .plain⟩ := by
 intro l
 induction l with
 | zero => exact fun _ => ⟨rfl, fun _ _ => rfl, rfl, fun _ _ => rfl, fun l' c' h => by omega⟩
 | succ l ih =>
  intro hl
  obtain ⟨i1, i2, i3, i4, i5⟩ := ih (by omega)
  obtain ⟨c, hc⟩ : ∃ c, Lp[l]? = some c := ⟨Lp[l], List.getElem?_eq_getElem (by omega)⟩
  obtain ⟨oj, oi, p1, p2, p3, p4, p5, p6, p7, p8, p9, p10, p11, p12⟩ := F.loc l c hc
  obtain ⟨z, z1, z2, z3⟩ := zVn (htr _ _ _ p1 p2) p3 p4 p5
  have hx := hxl l c hc
  -- different variables lie in different slots
  have hxx : ∀ (l' : Nat) (c' : Lc), l' < l → Lp[l']? = some c' → c'.x ≠ c.x := by
   intro l' c' hl' hc' e
   obtain ⟨oj', oi', r1, r2, r3, r4, r5, _⟩ := F.loc l' c' hc'
   have s1 := zAa F.g.nodup r1
   have s2 := zAa F.g.nodup p1
   exact F.g.dst c'.j c.j oj' oj c'.x r2 p2 (fun e' => by rw [e'] at s1; omega) r5 (e ▸ p5)
  have hsx : (S (m + 2 * l + 1))[c.x]? = some (.own ((R m).length + l) 0) := by
   rw [z2, List.getElem?_set_self (by omega), i3]
  have hrk : (R (m + 2 * l + 1))[(R m).length + l]? = some ⟨z, c.e, 0, false, false, .plain⟩ := by
   rw [z3, List.getElem?_append_right (by omega), i3]; simp
  obtain ⟨sz, y1, y2, y3, y4, y5, y6⟩ := zTp (htr _ _ _ p6 p7) p8 p9 p10 hsx hrk
  have hev : evD (S (m + 2 * l + 1)) c.v = evD (S m) c.v := by
   cases hv : c.v with
   | tmp y =>
    have hlook : y ∈ oi.looksAt ops := by
     unfold Oper.looksAt
     rw [p8, hv]; simp [Op.operands]
    have hyx : y ≠ c.x := fun e => p12 (by rw [hv, e])
    have : (S (m + 2 * l + 1))[y]? = (S m)[y]? := by
     rw [z2, List.getElem?_set_ne (Ne.symm hyx)]
     refine i2 y fun l' c' hl' hc' e => ?_
     obtain ⟨oj', oi', r1, r2, r3, r4, r5, r6, _⟩ := F.loc l' c' hc'
     have s1 := zAa F.g.nodup r6
     have s2 := zAa F.g.nodup p6
     exact F.only l' c' hc' c.i oi p7 (fun e' => by rw [e'] at s2; omega) (e ▸ hlook)
    simp only [evD, List.getD_eq_getElem?_getD, this]
   | const v => rfl
   | global g => rfl
   | func f => rfl
  rw [hev] at y2 y3 y6
  have e2 : m + 2 * (l + 1) = m + 2 * l + 1 + 1 := by omega
  rw [e2, y5, y6]
  refine ⟨by rw [z2, List.length_set, i1], fun y hy => ?_, by rw [List.length_set, z3, List.length_append, i3]; simp; omega, fun k hk => ?_, fun l' c' hl' hc' => ?_⟩
  ·rw [z2, List.getElem?_set_ne (Ne.symm (hy l c (by omega) hc))]
   exact i2 y fun l' c' hl' hc' => hy l' c' (by omega) hc'
  ·rw [List.getElem?_set_ne (by omega), z3, List.getElem?_append_left (by omega)]; exact i4 k hk
  ·by_cases hll : l' = l
   ·subst hll
    rw [hc] at hc'; cases hc'
    exact ⟨z, sz, z1, y1, y2, y3, y4, hsx, List.getElem?_set_self (by rw [z3, List.length_append, i3]; simp)⟩
   ·obtain ⟨z', sz', t1, t2, t3, t4, t5, t6, t7⟩ := i5 l' c' (by omega) hc'
    refine ⟨z', sz', t1, t2, t3, t4, t5, ?_, ?_⟩
    ·rw [z2, List.getElem?_set_ne (Ne.symm (hxx l' c' (by omega) hc'))]; exact t6
    ·rw [List.getElem?_set_ne (by omega), z3, List.getElem?_append_left (by omega)]; exact t7
theorem Lv.done (hg0 : Gl I0 w0) (F : RegL P T ops ord W m Lp) (seg : Seg P T ops ord S R 0 m) (htr : ∀ (p : Nat) i o, ord[p]? = some i → ops[i]? = some o → zA1 P T ops o (S p) (R p) (Eqs (S (p + 1)) (R (p + 1)))) (hxl : ∀ (l : Nat) (c : Lc), Lp[l]? = some c → c.x < (S m).length)
  (h : Lv P T ops ord S R β0 I0 w0 m Lp listed a w β I SL G) (hall : ∀ i, i < ops.size → Ls listed i) : ∃ β', Sim β' I w (S ops.size) (R ops.size) a.tmps.toList ∧ Stp β0 I0 w0 β' I w ∧ Kp T β0 β' := by
 have hsim := h.cr.full hg0 F.g seg fun p i _ hi => hall i ((F.g.mem i).2 (List.mem_of_getElem? hi))
 obtain ⟨t1, t2, t3, t4, t5⟩ := zNt F htr hxl Lp.length (Nat.le_refl _)
 rw [← F.size] at t1 t2 t3 t4 t5
 have lfs : ∀ (l : Nat) (c : Lc), Lp[l]? = some c → ∃ us z, a.tmps[c.x]? = some (.pointer (some ⟨G l, 0, none⟩)) ∧ w0.heap.size ≤ G l ∧ G l < w.heap.size ∧ (∀ k b, β k ≠ some (G l, b)) ∧ (∀ o, ¬ I (G l) o) ∧ zDq P c.e = some z ∧ w.heap[G l]? = some (.cells us.toArray c.e (0, 0)) ∧ RelL I w β (setAt z 0 (cellsOf (evD (S m) c.v))) us := by
  intro l c hc
  obtain ⟨oj, oi, p1, p2, p3, p4, p5, p6, p7, _⟩ := F.loc l c hc
  obtain ⟨us, z, g1, g2, g3, g4, g5, g6, g7, g8⟩ := h.lf l c hc (hall _ (Array.getElem?_eq_some_iff.1 p2).1)
  have hi : listed.getD c.i false = true := hall _ (Array.getElem?_eq_some_iff.1 p7).1
  rw [hi] at g8
  simp only [if_true] at g8
  exact ⟨us, z, g1, g2, g3, g4, g5, g6, g7, g8⟩
 have gne : ∀ (l l' : Nat) (c c' : Lc), Lp[l]? = some c → Lp[l']? = some c' → G l = G l' → l = l' := fun l l' c c' hc hc' he => by
  obtain ⟨oj, oi, p1, p2, _⟩ := F.loc l c hc
  obtain ⟨oj', oi', p1', p2', _⟩ := F.loc l' c' hc'
  exact h.ne l l' c c' hc hc' (hall _ (Array.getElem?_eq_some_iff.1 p2).1) (hall _ (Array.getElem?_eq_some_iff.1 p2').1) he
 have hnone : ∀ k, (R m).length ≤ k → β k = none := fun k hk => by
  cases hb : β k with
  | none => rfl
  | some x => have := hsim.dom k x hb; omega
 let β' : Be := fun k => if k < (R m).length then β k else if k - (R m).length < Lp.length then some (G (k - (R m).length), 0) else none
 have hle : BeLe β β' := fun k x hk => by
  have := hsim.dom k x hk
  show (if k < (R m).length then β k else _) = _
  rw [if_pos this]; exact hk
 have cs : ∀ k b c, β' k = some (b, c) → (k < (R m).length ∧ β k = some (b, c)) ∨ ((R m).length ≤ k ∧ ∃ cc, Lp[k - (R m).length]? = some cc ∧ b = G (k - (R m).length) ∧ c = 0) := by
  intro k b c hk
  simp only [β'] at hk
  split at hk
  ·exact .inl ⟨by assumption, hk⟩
  ·split at hk
   ·rename_i h2
    cases hk
    exact .inr ⟨by omega, Lp[k - (R m).length], List.getElem?_eq_getElem h2, rfl, rfl⟩
   ·cases hk
 have hown : ∀ (l : Nat) (c : Lc), Lp[l]? = some c → β' ((R m).length + l) = some (G l, 0) := fun l c hc => by
  have hlt := (List.getElem?_eq_some_iff.1 hc).1
  simp only [β']
  rw [if_neg (by omega), if_pos (by omega), show (R m).length + l - (R m).length = l by omega]
 have stp := h.cr.k8.1
 refine ⟨β', ⟨RelT.of_get (by rw [t1]; exact hsim.rel.length) fun y d v hd hv => ?_, fun k b c hk => ?_, fun k k' b c c' hk hk' => ?_, fun k b c j e hk he hi => ?_, fun k x hk => ?_, hsim.imb, hsim.gl⟩, ⟨stp.fix, stp.size, stp.out, stp.os, stp.tape, stp.output, stp.dr, fun k b c hk => ?_, stp.im⟩, h.cr.k8.2.trans hle.kp⟩
 ·by_cases hy : ∃ (l : Nat) (c : Lc), Lp[l]? = some c ∧ y = c.x
  ·obtain ⟨l, c, hc, rfl⟩ := hy
   obtain ⟨z, sz, _, _, _, _, _, q6, _⟩ := t5 l c (List.getElem?_eq_some_iff.1 hc).1 hc
   rw [hd] at q6; cases q6
   obtain ⟨us, z', g1, _⟩ := lfs l c hc
   have : v = .pointer (some ⟨G l, 0, none⟩) := by
    have : a.tmps[c.x]? = some v := by simpa using hv
    rw [g1] at this; cases this; rfl
   simp only [Rel]
   exact ⟨G l, 0, hown l c hc, this⟩
  ·have := t2 y fun l' c' _ hc' e => hy ⟨l', c', hc', e⟩
   rw [hd] at this
   obtain ⟨v', h1, h2⟩ := hsim.rel.get y d this.symm
   rw [hv] at h1; cases h1
   exact Rel.mono (Fix.refl I w) β β' hle _ _ h2
 ·rcases cs k b c hk with ⟨h1, h2⟩ | ⟨h1, cc, hc, rfl, rfl⟩
  ·obtain ⟨e, m1, m2⟩ := hsim.sr k b c h2
   exact ⟨e, by rw [t4 k h1]; exact m1, OwnRel.mono m2 rfl (Fix.refl I w) hle⟩
  ·obtain ⟨z, sz, q1, _, _, _, _, _, q7⟩ := t5 _ cc (List.getElem?_eq_some_iff.1 hc).1 hc
   obtain ⟨us, z', _, _, _, _, _, g6, g7, g8⟩ := lfs _ cc hc
   rw [q1] at g6; cases g6
   rw [show (R m).length + (k - (R m).length) = k by omega] at q7
   refine ⟨_, q7, OwnC.r ⟨us, g7, by rw [g8.length]; exact Nat.le_refl _, ?_, ⟨fun hx => Bool.noConfusion hx, Nat.zero_le _⟩⟩ rfl⟩
   show RelL I w (if false = true then noB else β') (setAt z 0 (cellsOf (evD (S m) cc.v))) (us.take (setAt z 0 (cellsOf (evD (S m) cc.v))).length)
   rw [if_neg (by decide), g8.length, List.take_length]
   exact RelL.mono (Fix.refl I w) _ _ hle _ _ g8
 ·rcases cs k b c hk with ⟨h1, h2⟩ | ⟨h1, cc, hc, rfl, rfl⟩ <;> rcases cs k' _ c' hk' with ⟨h3, h4⟩ | ⟨h3, cc', hc', e1, rfl⟩
  ·exact hsim.inj k k' b c c' h2 h4
  ·subst e1
   obtain ⟨_, _, _, _, _, g4, _⟩ := lfs _ cc' hc'
   exact absurd h2 (g4 k c)
  ·obtain ⟨_, _, _, _, _, g4, _⟩ := lfs _ cc hc
   exact absurd h4 (g4 k' c')
  ·have := gne _ _ cc cc' hc hc' e1
   omega
 ·rcases cs k b c hk with ⟨h1, h2⟩ | ⟨h1, cc, hc, rfl, rfl⟩
  ·rw [t4 k h1] at he
   exact hsim.fz k b c j e h2 he hi
  ·obtain ⟨_, _, _, _, _, _, g5, _⟩ := lfs _ cc hc
   exact absurd hi (g5 j)
 ·obtain ⟨b, c⟩ := x
  rw [t3]
  rcases cs k b c hk with ⟨h1, h2⟩ | ⟨h1, cc, hc, rfl, rfl⟩
  ·omega
  ·have := (List.getElem?_eq_some_iff.1 hc).1
   omega
 ·rcases cs k b c hk with ⟨h1, h2⟩ | ⟨h1, cc, hc, rfl, rfl⟩
  ·exact stp.be k b c h2
  ·obtain ⟨_, _, _, g2, _⟩ := lfs _ cc hc
   exact .inr g2
theorem zVm (hg0 : Gl I0 w0) (hM : zBi P T) (F : RegL P T ops ord W m Lp) (seg : Seg P T ops ord S R 0 m) (htr : ∀ (p : Nat) i o, ord[p]? = some i → ops[i]? = some o → zA1 P T ops o (S p) (R p) (Eqs (S (p + 1)) (R (p + 1))))
  (hx0 : ∀ (l : Nat) (c : Lc), Lp[l]? = some c → (S 0).getD c.x .unk = .unk ∧ c.x < (S 0).length) {K : List D → List Bk → Prop} (hK : K (S ops.size) (R ops.size))
  (hP : ∀ c a w, ¬ Q (.panic c) a w) (hQ : ∀ a' w', zQq T K β0 I0 w0 df a' w' → Q .normal a' w') :
  ∀ (fuel : Nat) (listed : Array Bool) (a : Act) (w : World), listed.size = ops.size → Closed .any ops listed → a.defers = df → (∃ β I SL G, Lv P T ops ord S R β0 I0 w0 m Lp listed a w β I SL G) → listed.toList.count false ≤ fuel → wpAny P .any ops Q fuel listed a w := by
 have hsl : (S m).length = (S 0).length := (seg.slot' (Nat.le_refl _) (Nat.zero_le _) (Nat.le_refl _)).1
 have hxl : ∀ (l : Nat) (c : Lc), Lp[l]? = some c → c.x < (S m).length := fun l c hc => by rw [hsl]; exact (hx0 l c hc).2
 have finish : ∀ (listed : Array Bool) (a : Act) (w : World), listed.size = ops.size → a.defers = df → (∃ β I SL G, Lv P T ops ord S R β0 I0 w0 m Lp listed a w β I SL G) → Region.ready .any ops listed = [] → Q .normal a w := by
  intro listed a w hsz hdf ⟨β, I, SL, G, h⟩ hr
  have hall : ∀ i, i < ops.size → Ls listed i := by
   intro i
   induction i using Nat.strongRecOn with
   | _ i ih =>
    intro hi
    by_cases hl : Ls listed i
    ·exact hl
    ·exfalso
     have : i ∈ Region.ready .any ops listed := (zAj hsz).2 ⟨hl, ops[i], by simp [hi], fun d hd => by
      have := (F.g.dep i ops[i] (by simp [hi]) d hd).1
      exact ih d this (by omega)⟩
     rw [hr] at this; cases this
  obtain ⟨β', k1, k2, k3⟩ := h.done hg0 F seg htr hxl hall
  exact hQ a w ⟨_, _, β', I, hK, k1, k2, hdf, k3⟩
 intro fuel
 induction fuel with
 | zero =>
  intro listed a w hsz cl hdf h hc
  have hr : Region.ready .any ops listed = [] := by
   cases hx : Region.ready .any ops listed with
   | nil => rfl
   | cons i l =>
    exfalso
    have hi : i ∈ Region.ready .any ops listed := by rw [hx]; simp
    obtain ⟨hn, o, ho, _⟩ := (zAj hsz).1 hi
    have hlt : i < listed.size := by rw [hsz]; exact (Array.getElem?_eq_some_iff.1 ho).1
    have : listed.toList[i]? = some false := by
     unfold Ls at hn
     simp [hlt] at hn ⊢; exact hn
    have := List.count_pos_iff.2 (List.mem_of_getElem? this)
    omega
  exact ⟨hr, finish listed a w hsz hdf h hr⟩
 | succ fuel ih =>
  intro listed a w hsz cl hdf h hc
  obtain ⟨β, I, SL, G, h⟩ := h
  have hcount : ∀ i, i ∈ Region.ready .any ops listed → (listed.setIfInBounds i true).toList.count false ≤ fuel := by
   intro i hi
   obtain ⟨hn, o, ho, _⟩ := (zAj hsz).1 hi
   have hlt : i < listed.size := by rw [hsz]; exact (Array.getElem?_eq_some_iff.1 ho).1
   have h1 : listed.toList[i]? = some false := by
    unfold Ls at hn
    simp [hlt] at hn ⊢; exact hn
   have := zP9 h1
   rw [Array.toList_setIfInBounds]
   omega
  have hsz' : ∀ i, (listed.setIfInBounds i true).size = ops.size := fun i => by rw [Array.size_setIfInBounds]; exact hsz
  by_cases hlight : ∃ i o, i ∈ Region.ready .any ops listed ∧ ops[i]? = some o ∧ zV T o.op = true
  ·obtain ⟨i, o, hi, ho, hl⟩ := hlight
   obtain ⟨hn, o2, ho2, hd⟩ := (zAj hsz).1 hi
   rw [ho] at ho2; cases ho2
   obtain ⟨hpi, hpl⟩ := zSk F.g ho
   have hlt : pos ord i < m := by
    refine Decidable.byContradiction fun hge => ?_
    obtain ⟨l, c, hc', he⟩ := F.cov i o ho (by omega)
    obtain ⟨oj, oi, p1, p2, p3, p4, p5, p6, p7, p8, _⟩ := F.loc l c hc'
    rcases he with rfl | rfl
    ·rw [ho] at p2; cases p2; rw [p3] at hl; cases hl
    ·rw [ho] at p7; cases p7; rw [p8] at hl; cases hl
   have hE := F.non i o ho hlt
   have hlook := h.cr.look F.g cl seg ho hn hd hlt
   have hfirst : ∀ j oj, ops[j]? = some oj → j ≠ i → listed.getD j true = false → (∀ e ∈ oj.after, Region.binds .any e = true → e.on ≠ i) → o.apart ops oj = true := fun j oj hj hne hun hno => by
    rcases F.g.lig i j o oj ho hj (Ne.symm hne) hl with h1 | h1 | h1
    ·exact h1
    ·obtain ⟨e, e1, e2, e3⟩ := zGo.1 h1
     exact absurd e3 (hno e e1 e2)
    ·exfalso
     have := zEo F.g cl i o j ho (Array.getElem?_eq_some_iff.1 hj).1 hd h1
     unfold Ls at this
     have hjl : j < listed.size := by rw [hsz]; exact (Array.getElem?_eq_some_iff.1 hj).1
     simp [hjl] at this hun
     rw [this] at hun; cases hun
   rcases zJy hE (htr (pos ord i) i o hpi ho) with ⟨g1, d, fz, news, n1, n2, n3⟩ | ⟨g1, n2, n3⟩
   ·obtain ⟨rfl, rfl, v, v1, v2⟩ := (n1.look hlook).light hl h.cr.k0
    have hw := zCg (ops := ops) h.cr.k0 ((zE5 hlook).trans g1)
    have hinv := h.next F hsz seg hi ho hlt n2 n3 (OutN.stay β I w _) v2
    exact wpAny_first ho (Region.noSelect_spec F.g.nosel) (fun c a w hx => absurd hx (hP c _ _)) fuel listed a w hfirst hi (.inl ⟨hw, v1⟩) (ih _ _ _ (hsz' i) (cl.set hi) (by rw [zZ]; exact hdf) ⟨_, _, _, _, hinv⟩ (hcount i hi))
   ·have hw := zCg (ops := ops) h.cr.k0 ((zE5 hlook).trans g1)
    have hinv := h.next (fz := []) (news := []) F hsz seg hi ho hlt n2 (by rw [n3]; simp [zAe]) (OutN.stay β I w _) (Rel.valI undef)
    exact wpAny_first ho (Region.noSelect_spec F.g.nosel) (fun c a w hx => absurd hx (hP c _ _)) fuel listed a w hfirst hi (.inr ⟨hw, rfl⟩) (ih _ _ _ (hsz' i) (cl.set hi) (by rw [zZ]; exact hdf) ⟨_, _, _, _, hinv⟩ (hcount i hi))
  ·refine ⟨finish listed a w hsz hdf ⟨_, _, _, _, h⟩, fun i hi => ?_⟩
   obtain ⟨hn, o, ho, hd⟩ := (zAj hsz).1 hi
   obtain ⟨hpi, hpl⟩ := zSk F.g ho
   rcases Nat.lt_or_ge (pos ord i) m with hlt | hge
   ·have hl : zV T o.op = false := by
     cases hx : zV T o.op with
     | false => rfl
     | true => exact absurd ⟨i, o, hi, ho, hx⟩ hlight
    have hE := F.non i o ho hlt
    have hlook := h.cr.look F.g cl seg ho hn hd hlt
    unfold wpOp
    simp only [ho]
    rcases zJy hE (htr (pos ord i) i o hpi ho) with ⟨g1, d, fz, news, n1, n2, n3⟩ | ⟨g1, n2, n3⟩
    ·rw [if_pos (zCg (ops := ops) h.cr.k0 ((zE5 hlook).trans g1))]
     have hsr : SRw β I w (R (pos ord i)) := fun k b c e hk he => by
      obtain ⟨e', m1, m2⟩ := h.cr.k4 k b c hk
      obtain ⟨e'', n1, n2⟩ := (seg.store' (Nat.zero_le _) (Nat.le_of_lt hlt) (Nat.le_refl _)).2 k e he
      rw [m1] at n1; cases n1
      exact (OwnRel.same n2).2 m2
     have hfr : ∀ j, j < news.length → β ((R (pos ord i)).length + j) = none := by
      intro j hj
      cases hb : β ((R (pos ord i)).length + j) with
      | none => rfl
      | some x =>
       exfalso
       have hlen : (R (pos ord i + 1)).length = (R (pos ord i)).length + news.length := by rw [n3, List.length_append, zS]
       rcases h.cr.k9 _ x hb with h3 | ⟨p, j', a2, a3, a4, a5, a6⟩
       ·have := (seg.store' (Nat.le_refl _) (Nat.zero_le (pos ord i)) (by omega)).1
        omega
       ·rcases Nat.lt_trichotomy p (pos ord i) with h3 | h3 | h3
        ·have := (seg.store' (Nat.zero_le _) (show p + 1 ≤ pos ord i by omega) (by omega)).1
         omega
        ·subst h3
         rw [hpi] at a3; cases a3
         exact hn a4
        ·have := (seg.store' (Nat.zero_le _) (show pos ord i + 1 ≤ p by omega) (by omega)).1
         omega
     refine .inl (Oper.wp_mono (fun a' w' hx => ?_) ((n1.look hlook).heavy hM hl h.cr.k0 hsr h.cr.k7 (hg0.mono h.cr.k8.1.fix) hfr Q))
     obtain ⟨v, β', I', rfl, o1, o2⟩ := hx
     exact ih _ _ _ (hsz' i) (cl.set hi) (by rw [zZ]; exact hdf) ⟨_, _, _, _, h.next F hsz seg hi ho hlt n2 n3 o1 o2⟩ (hcount i hi)
    ·rw [if_neg (by rw [zCg (ops := ops) h.cr.k0 ((zE5 hlook).trans g1)]; simp)]
     exact ih _ _ _ (hsz' i) (cl.set hi) (by rw [zZ]; exact hdf) ⟨_, _, _, _, h.next (fz := []) (news := []) F hsz seg hi ho hlt n2 (by rw [n3]; simp [zAe]) (OutN.stay β I w _) (Rel.valI undef)⟩ (hcount i hi)
   ·obtain ⟨l, c, hc', he⟩ := F.cov i o ho hge
    obtain ⟨oj, oi, p1, p2, p3, p4, p5, p6, p7, p8, p9, p10, p11, p12⟩ := F.loc l c hc'
    obtain ⟨t1, t2, t3, t4, t5⟩ := zNt F htr hxl Lp.length (Nat.le_refl _)
    obtain ⟨z, sz, q1, q2, q3, q4, q5, q6, q7⟩ := t5 l c (List.getElem?_eq_some_iff.1 hc').1 hc'
    unfold wpOp
    simp only [ho]
    rcases he with rfl | rfl
    ·rw [ho] at p2; cases p2
     rw [if_pos (by simp [Region.wanted, p4])]
     obtain ⟨v, w', r1, r2⟩ := h.alloc F hsz cl hc' hi ho q1 (hx0 l c hc').1 (hx0 l c hc').2
     refine .inl ?_
     unfold Oper.wp
     rw [r1]
     exact ih _ _ _ (hsz' _) (cl.set hi) (by rw [zZ]; exact hdf) ⟨_, _, _, _, r2⟩ (hcount _ hi)
    ·rw [ho] at p7; cases p7
     rw [if_pos (by simp [Region.wanted, p9])]
     obtain ⟨w', r1, r2⟩ := h.store F hsz hc' hi ho q1 q2 q3 q4 q5 (h.cr.ev F hsz cl seg hc' hi)
     refine .inl ?_
     unfold Oper.wp
     rw [r1]
     have := ih _ a w' (hsz' _) (cl.set hi) hdf ⟨_, _, _, _, r2⟩ (hcount _ hi)
     show wpAny P .any ops Q fuel (listed.setIfInBounds c.i true) (a.put o.dst undef) w'
     rw [p10]
     exact this
theorem zVo {op : Op} {e : TypeId} (h : zNl op = some e) : op = .alloc e := by
 cases op <;> simp only [zNl, reduceCtorEq] at h
 cases h; rfl
theorem zTq {op : Op} {t : TypeId} {x : Nat} {v : Operand} (h : zJx op = some (t, x, v)) : op = .store t (.tmp x) v := by
 unfold zJx at h
 split at h
 ·simp only [Option.some.injEq, Prod.mk.injEq] at h
  obtain ⟨rfl, rfl, rfl⟩ := h; rfl
 ·cases h
theorem RegL.of {ps : List (Nat × Nat)} (h : zR7 T ops ord m ps = true) : RegL P T ops ord (fun i x => ((ancs ops.toList).getD i 0).testBit x) m (ps.map (lcOf ops)) := by
 unfold zR7 at h
 simp only [Bool.and_eq_true, beq_iff_eq, List.all_eq_true, List.mem_range, decide_eq_true_eq] at h
 obtain ⟨⟨⟨⟨⟨⟨⟨⟨h1, h2⟩, h3⟩, h4⟩, h5⟩, hD⟩, h6⟩, h7⟩, h8⟩ := h
 have mz : ∀ (i : Nat) o, ops[i]? = some o → (o, i) ∈ ops.toList.zipIdx := fun i o ho => List.mem_zipIdx_iff_getElem?.2 (by rw [Array.getElem?_toList]; exact ho)
 have hdst : ∀ (i j : Nat) (oi oj : Oper) (d : Nat), ops[i]? = some oi → ops[j]? = some oj → i ≠ j → oi.dst = some d → oj.dst ≠ some d := by
  have hp := List.pairwise_filterMap.1 hD
  rw [List.pairwise_iff_getElem] at hp
  have key : ∀ (i j : Nat) (oi oj : Oper) (d : Nat), ops[i]? = some oi → ops[j]? = some oj → i < j → oi.dst = some d → oj.dst ≠ some d := by
   intro i j oi oj d hi hj hlt hd hd'
   obtain ⟨k1, k2⟩ := Array.getElem?_eq_some_iff.1 hi
   obtain ⟨k3, k4⟩ := Array.getElem?_eq_some_iff.1 hj
   have := hp i j (by simpa using k1) (by simpa using k3) hlt d (by simpa [k2] using hd) d (by simpa [k4] using hd')
   exact this rfl
  intro i j oi oj d hi hj hne hd hd'
  rcases Nat.lt_or_gt_of_ne hne with hlt | hlt
  ·exact key i j oi oj d hi hj hlt hd hd'
  ·exact key j i oj oi d hj hi hlt hd' hd
 have look : ∀ (i j : Nat) (oi oj : Oper) (d : Nat), ops[i]? = some oi → ops[j]? = some oj → i ≠ j → oj.dst = some d → d ∈ oi.looksAt ops → _ := fun i j oi oj d hi hj hne hd hl => by
  have := (h6 _ (mz i oi hi)).1.2 d hl _ (mz j oj hj)
  simp only [Bool.or_eq_true, bne_iff_ne, ne_eq, beq_iff_eq] at this
  have := (this.resolve_left (fun k => k.elim (fun k => k hd) hne))
  exact this
 have g : RegG T ops ord (fun i x => ((ancs ops.toList).getD i 0).testBit x) m := by
  refine ⟨h1, h3, fun i => ⟨fun hi => by simpa using h4 i hi, fun hi => h2 i hi⟩, h5, fun i o ho d hd => ?_, fun i o x ho hx hw => ?_, hdst, fun i j oi oj d hi hj hne hd hl => ?_, fun i j oi oj hi hj hne hl => ?_⟩
  ·have := (h6 _ (mz i o ho)).1.1 d hd
   simp only [Bool.or_eq_true, Bool.and_eq_true, decide_eq_true_eq] at this
   exact this
  ·exact zYb ops.toList [] i o x (Nat.zero_le _) (by rw [List.length_nil, Nat.sub_zero, Array.getElem?_toList]; exact ho) hw
  ·have := (look i j oi oj d hi hj hne hd hl)
   simp only [Bool.and_eq_true, Bool.or_eq_true] at this
   exact this.1.1
  ·by_cases c1 : ∃ d, oj.dst = some d ∧ d ∈ oi.looksAt ops
   ·obtain ⟨d, hd, hl'⟩ := c1
    have := (look i j oi oj d hi hj hne hd hl')
    simp only [Bool.and_eq_true, Bool.or_eq_true, hl, Bool.not_true, Bool.false_eq_true, false_or, List.contains_iff_mem] at this
    rcases this.1.2 with k | k
    ·exact .inr (.inr k)
    ·exact .inr (.inl k)
   ·by_cases c2 : ∃ d, oi.dst = some d ∧ d ∈ oj.looksAt ops
    ·obtain ⟨d, hd, hl'⟩ := c2
     have := (look j i oj oi d hj hi (Ne.symm hne) hd hl')
     simp only [Bool.and_eq_true, Bool.or_eq_true, hl, Bool.not_true, Bool.false_eq_true, false_or, List.contains_iff_mem] at this
     rcases this.2 with k | k
     ·exact .inr (.inl k)
     ·exact .inr (.inr k)
    ·left
     unfold Oper.apart
     rw [Bool.and_eq_true]
     constructor
     ·cases hd : oi.dst with
      | none => rfl
      | some d =>
       simp only [Bool.and_eq_true, Bool.not_eq_true', List.contains_eq_mem, decide_eq_false_iff_not, bne_iff_ne]
       exact ⟨fun k => c2 ⟨d, hd, k⟩, hdst i j oi oj d hi hj hne hd⟩
     ·cases hd : oj.dst with
      | none => rfl
      | some d =>
       simp only [Bool.not_eq_true', List.contains_eq_mem, decide_eq_false_iff_not]
       exact fun k => c1 ⟨d, hd, k⟩
 have hlc : ∀ (l : Nat) (c : Lc), (ps.map (lcOf ops))[l]? = some c → ∃ p, ps[l]? = some p ∧ c = lcOf ops p := fun l c hc => by
  rw [List.getElem?_map] at hc
  obtain ⟨p, hp, rfl⟩ := Option.map_eq_some_iff.1 hc
  exact ⟨p, hp, rfl⟩
 have getO : ∀ i, i < ops.size → ops[i]? = some (ops.getD i default) := fun i hi => by simp [hi]
 refine ⟨g, fun i o ho hp => ?_, fun i o ho hp => ?_, fun l c hc => ?_, fun l c hc k ok hk hne => ?_, by rw [List.length_map]; exact h7⟩
 ·have := (h6 _ (mz i o ho)).2
  simp only [Bool.or_eq_true, decide_eq_true_eq, Bool.not_eq_true'] at this
  exact this.resolve_left (by omega)
 ·obtain ⟨hpi, hpl⟩ := zSk g ho
  have hl : (pos ord i - m) / 2 < ps.length := by omega
  have hz := h8 (ps[(pos ord i - m) / 2], (pos ord i - m) / 2) (List.mem_zipIdx_iff_getElem?.2 (List.getElem?_eq_getElem hl))
  have e1 : ord[m + 2 * ((pos ord i - m) / 2)]? = some (ps[(pos ord i - m) / 2]).1 := hz.1.1.1.1.1.1.1.1.1.1.2
  have e2 : ord[m + 2 * ((pos ord i - m) / 2) + 1]? = some (ps[(pos ord i - m) / 2]).2 := hz.1.1.1.1.1.1.1.1.1.2
  refine ⟨(pos ord i - m) / 2, lcOf ops ps[(pos ord i - m) / 2], by rw [List.getElem?_map, List.getElem?_eq_getElem hl]; rfl, ?_⟩
  rcases Nat.mod_two_eq_zero_or_one (pos ord i - m) with h0 | h0
  ·left
   rw [show m + 2 * ((pos ord i - m) / 2) = pos ord i by omega, hpi] at e1
   exact Option.some.inj e1
  ·right
   rw [show m + 2 * ((pos ord i - m) / 2) + 1 = pos ord i by omega, hpi] at e2
   exact Option.some.inj e2
 ·obtain ⟨p, hp, rfl⟩ := hlc l c hc
  obtain ⟨⟨⟨⟨⟨⟨⟨⟨⟨⟨⟨⟨a1, a2⟩, a3⟩, a4⟩, a5⟩, a6⟩, a7⟩, a8⟩, a9⟩, a10⟩, a11⟩, a12⟩, a13⟩ := h8 (p, l) (List.mem_zipIdx_iff_getElem?.2 hp)
  obtain ⟨e, he⟩ := Option.isSome_iff_exists.1 a5
  obtain ⟨x, hx⟩ := Option.isSome_iff_exists.1 a7
  split at a8
  ·rename_i t x' v hs
   have ex : (lcOf ops p).x = x := by simp only [lcOf, hx, Option.getD_some]
   have ee : (lcOf ops p).e = e := by simp only [lcOf, he, Option.getD_some]
   have et : (lcOf ops p).t = t := by simp only [lcOf, hs, Option.map_some, Option.getD_some]
   have ev : (lcOf ops p).v = v := by simp only [lcOf, hs, Option.map_some, Option.getD_some]
   have hxx : x' = (lcOf ops p).x := by simpa using a8
   refine ⟨_, _, a3, getO _ a1, by rw [ee]; exact zVo he, Option.isNone_iff_eq_none.1 a6, by rw [ex]; exact hx, a4, getO _ a2, by rw [et, ev, ← hxx]; exact zTq hs, Option.isNone_iff_eq_none.1 a9, Option.isNone_iff_eq_none.1 a10, List.contains_iff_mem.1 a11, fun hv => ?_⟩
   rw [hv] at a12
   simp [isTmp] at a12
  ·cases a8
 ·obtain ⟨p, hp, rfl⟩ := hlc l c hc
  have hz := (h8 (p, l) (List.mem_zipIdx_iff_getElem?.2 hp)).2 _ (mz k ok hk)
  simp only [Bool.or_eq_true, beq_iff_eq, Bool.not_eq_true', List.contains_eq_mem, decide_eq_false_iff_not] at hz
  exact hz.resolve_left hne
theorem zP6 (hM : zBi P T) (hm : P.follows .mixedOrders = true) {id : Nat} {ps : List (Nat × Nat)} {sl : List D} {st : List Bk} {β : Be} {I : Im} {a : Act} {w : World} {K : List D → List Bk → Prop} (hok : zR7 T ops ord m ps = true) (hu : unkAt ops ps sl = true) (hq : seqW P T ops true (ord.map fun i => ops.getD i default) sl st K) (h : Sim β I w sl st a.tmps.toList)
  (hP : ∀ c a w, ¬ Q (.panic c) a w) (hQ : ∀ a' w', zQq T K β I w a.defers a' w' → Q .normal a' w') : (Code.region id ops true).wp P Q a w := by
 have F := RegL.of (P := P) hok
 obtain ⟨S, R, s1, s2, s3, s4⟩ := zVy _ sl st K hq
 rw [List.length_map, F.g.len] at s3
 have htr : ∀ (p : Nat) i o, ord[p]? = some i → ops[i]? = some o → zA1 P T ops o (S p) (R p) (Eqs (S (p + 1)) (R (p + 1))) := fun p i o hp ho => by
  refine s4 p o ?_
  rw [List.getElem?_map, hp]
  obtain ⟨k1, k2⟩ := Array.getElem?_eq_some_iff.1 ho
  simp [k1, k2]
 have hle : m ≤ ops.size := by have := F.size; omega
 have seg : Seg P T ops ord S R 0 m := ⟨Nat.zero_le _, fun p _ hp => by
  have h1 : p < ord.length := by rw [F.g.len]; omega
  have h2 : ord[p] < ops.size := (F.g.mem _).2 (List.getElem_mem h1)
  have e1 : ord[p]? = some ord[p] := List.getElem?_eq_getElem h1
  have e2 : ops[ord[p]]? = some ops[ord[p]] := by simp [h2]
  refine ⟨ord[p], ops[ord[p]], e1, e2, F.non _ _ e2 (by rw [zAa F.g.nodup e1]; exact hp), htr _ _ _ e1 e2⟩⟩
 refine wp_region_any hm ?_
 have hfix : Fix I w I { w with drawn := w.drawn + 1 } := fun b o hi => ⟨hi, fun v hv => hv, fun _ _ h => h⟩
 have noL : ∀ i, ¬ Ls (Array.replicate ops.size false) i := fun i hl => by
  revert hl
  unfold Ls
  simp only [Array.getD_eq_getD_getElem?, Array.getElem?_replicate]
  split <;> simp
 refine zVm (β0 := β) (I0 := I) (w0 := w) (df := a.defers) h.gl hM F seg htr (fun l c hc => ?_) s3 hP hQ ops.size _ a _ (by simp) ?_ rfl ⟨β, I, S 0, fun _ => 0, ⟨?_, rfl, fun x _ => rfl, fun p i o x _ _ hl => absurd hl (noL i), fun k b c hk => ?_, h.inj, fun k b c j e hk he hj => ?_, h.imb, ?_, fun k x hk => .inl (by rw [s2]; exact h.dom k x hk)⟩, fun l c _ hl => absurd hl (noL _), fun l l' c c' _ _ hl => absurd hl (noL _)⟩ (by simp)
 ·rw [List.getElem?_map] at hc
  obtain ⟨p, hp, rfl⟩ := Option.map_eq_some_iff.1 hc
  unfold unkAt at hu
  have := List.all_eq_true.1 hu p (List.mem_of_getElem? hp)
  rw [Bool.and_eq_true, decide_eq_true_eq] at this
  rw [s1]
  refine ⟨?_, this.2⟩
  have h1 := this.1
  unfold isUnk at h1
  split at h1
  ·assumption
  ·cases h1
 ·intro k ok _ hl
  exact absurd hl (noL k)
 ·rw [s1]; exact RelT.mono hfix _ _ (BeLe.refl _) _ _ h.rel
 ·obtain ⟨e, m1, m2⟩ := h.sr k b c hk
  rw [← s2] at m1
  obtain ⟨e', n1, n2⟩ := (seg.store' (Nat.le_refl _) (Nat.zero_le _) (Nat.le_refl _)).2 k e m1
  exact ⟨e', n1, (OwnRel.same n2).1 (OwnRel.mono m2 rfl hfix (BeLe.refl _))⟩
 ·obtain ⟨e0, m1, m2⟩ := h.sr k b c hk
  have m1' := m1
  rw [← s2] at m1
  obtain ⟨e', n1, n2⟩ := (seg.store' (Nat.le_refl _) (Nat.zero_le _) (Nat.le_refl _)).2 k e0 m1
  rw [he] at n1; cases n1
  have := h.fz k b c j e0 hk m1' hj
  exact ⟨n2.2.2.2.2.2 this.1, by rw [n2.1, n2.2.2.2.2.1]; exact this.2⟩
 ·exact ⟨⟨hfix, Nat.le_refl _, fun _ _ _ => rfl, rfl, rfl, rfl, Nat.le_succ _, fun k b c hk => .inl ⟨k, c, hk⟩, fun _ _ h => .inl h⟩, Kp.refl _ _⟩
end
end
section
open Go.RowKit
section
variable {P : Program} {T : Par}
def okE : Exit → Prop
 | .normal | .exit _ | .ret => True
 | _ => False
def Lift (T : Par) (Q : Exit → List D → List Bk → Prop) (β : Be) (I : Im) (w : World) (df : List Deferred) : Exit → Act → World → Prop := fun e a' w' => okE e ∧ zQq T (Q e) β I w df a' w'
def InLoop (P : Program) (c : Code) (Q : Exit → Act → World → Prop) (a : Act) (w : World) : Prop := ∀ b k cs, ∃ e a' w', Q e a' w' ∧ Arrives P (lone (b.at a (.code c :: .inLoop c :: k)) cs w) b k cs e a' w'
theorem InLoop.wp {c : Code} {Q : Exit → Act → World → Prop} {a : Act} {w : World} (h : InLoop P c Q a w) : (Code.loop c).wp P Q a w := by
 intro b k cs
 obtain ⟨e, a', w', hq, harr⟩ := h b k cs
 exact ⟨e, a', w', hq, .of_steps (.one step_loop) harr⟩
theorem InLoop.of_round {c : Code} {Q : Exit → Act → World → Prop} {a : Act} {w : World} (h : c.wp P (Exit.then (InLoop P c Q) Q) a w) : InLoop P c Q a w := by
 intro b k cs
 obtain ⟨e, a₁, w₁, hq, harr⟩ := h b (.inLoop c :: k) cs
 cases e with
 | normal =>
  obtain ⟨e₂, a₂, w₂, hq₂, harr₂⟩ := hq b k cs
  exact ⟨e₂, a₂, w₂, hq₂, .of_steps (Steps.trans harr (.one step_inLoop)) harr₂⟩
 | exit id => exact ⟨_, a₁, w₁, hq, .pass (x := .inLoop c) rfl (fun _ _ => .inl (by simp)) harr⟩
 | goto l => exact ⟨_, a₁, w₁, hq, .pass (x := .inLoop c) rfl (fun _ _ => .inl (by simp)) harr⟩
 | ret => exact ⟨_, a₁, w₁, hq, .pass (x := .inLoop c) rfl (fun _ _ => .inl (by simp)) harr⟩
 | panic ch => exact ⟨_, a₁, w₁, hq, .pass (x := .inLoop c) rfl (fun _ _ => .inl (by simp)) harr⟩
 | outgrown => exact ⟨_, a₁, w₁, hq, .pass (x := .inLoop c) rfl (fun _ _ => .inl (by simp)) harr⟩
theorem zQf (hM : zBi P T) (hm : P.follows .mixedOrders = true) : ∀ (c : Code) (Q : Exit → List D → List Bk → Prop) (sl : List D) (st : List Bk) (β : Be) (I : Im) (a : Act) (w : World),
  awp P T c Q sl st → Sim β I w sl st a.tmps.toList → c.wp P (Lift T Q β I w a.defers) a w := by
 intro c
 induction c with
 | skip => intro Q sl st β I a w h hs; exact wp_skip ⟨trivial, sl, st, β, I, h, hs, Stp.refl _ _ _, rfl, Kp.refl _ _⟩
 | region id ops dr =>
  intro Q sl st β I a w h hs
  simp only [awp] at h
  cases dr with
  | true =>
   simp only [if_true] at h
   rcases h with ⟨ord, h1, h2⟩ | ⟨l0, its, h1, h2⟩
   ·rcases h1 with h1 | ⟨m, ps, h1, hu⟩
    ·exact zRd hM hm h1 h2 hs (fun c a w hx => hx.1) (fun a' w' hx => ⟨trivial, hx⟩)
    ·exact zP6 hM hm h1 hu h2 hs (fun c a w hx => hx.1) (fun a' w' hx => ⟨trivial, hx⟩)
   ·exact zH6 hM hm h1 h2 hs (fun c a w hx => hx.1) (fun a' w' hx => ⟨trivial, hx⟩)
  | false =>
   simp only [Bool.false_eq_true, if_false] at h
   refine wp_region (zJ1 hM (List.range ops.size) ops.toList ?_ sl st β I a w _ h hs (fun a' w' hx => ⟨trivial, hx⟩))
   apply List.ext_getElem?
   intro i
   rw [List.getElem?_map, List.getElem?_map]
   rcases Nat.lt_or_ge i ops.size with h1 | h1
   ·rw [List.getElem?_range h1]; simp [h1]
   ·rw [List.getElem?_eq_none (by simpa using h1), List.getElem?_eq_none (by simpa using h1)]; rfl
 | seq x y ihx ihy =>
  intro Q sl st β I a w h hs
  simp only [awp] at h
  refine wp_seq (wp_mono (ihx _ sl st β I a w h hs) fun e a' w' hq => ?_)
  obtain ⟨h1, sl', st', β', I', q1, q2, q3, q4, q5⟩ := hq
  cases e with
  | normal =>
   obtain ⟨sl1, st1, m1, m2⟩ := q1
   obtain ⟨β1, I1, k1, k2, k3⟩ := m1 β' I' w' _ q2
   refine wp_mono (ihy Q sl1 st1 β1 I1 a' w' m2 k1) fun e a'' w'' hq => ?_
   obtain ⟨h1, sl'', st'', β'', I'', r1, r2, r3, r4, r5⟩ := hq
   exact ⟨h1, sl'', st'', β'', I'', r1, r2, (q3.trans k2).trans r3, r4.trans q4, (q5.trans k3).trans r5⟩
  | exit id => exact ⟨trivial, sl', st', β', I', q1, q2, q3, q4, q5⟩
  | ret => exact ⟨trivial, sl', st', β', I', q1, q2, q3, q4, q5⟩
  | _ => exact h1.elim
 | cond c x y ihx ihy =>
  intro Q sl st β I a w h hs
  simp only [awp] at h
  have hc := zAb hs.rel c
  split at h
  ·rename_i t ht
   rw [ht] at hc
   simp only [Rel] at hc
   exact wp_cond_split hc (fun hx => ihx Q sl st β I a w (h.1 hx) hs) (fun hx => ihy Q sl st β I a w (h.2 hx) hs)
  ·exact h.elim
 | block id b ih =>
  intro Q sl st β I a w h hs
  simp only [awp] at h
  refine wp_block (wp_mono (ih _ sl st β I a w h hs) fun e a' w' hq => ?_)
  obtain ⟨h1, sl', st', β', I', q1, q2, q3, q4, q5⟩ := hq
  cases e with
  | normal => exact ⟨trivial, sl', st', β', I', q1, q2, q3, q4, q5⟩
  | exit j =>
   simp only [zAg] at q1
   simp only [Exit.inBlock]
   by_cases hj : j = id
   ·rw [if_pos hj] at q1
    simp only [hj, if_true]
    exact ⟨trivial, sl', st', β', I', q1, q2, q3, q4, q5⟩
   ·rw [if_neg hj] at q1
    simp only [hj, if_false]
    exact ⟨trivial, sl', st', β', I', q1, q2, q3, q4, q5⟩
  | ret => exact ⟨trivial, sl', st', β', I', q1, q2, q3, q4, q5⟩
  | _ => exact h1.elim
 | loop b ih =>
  intro Q sl st β I a w h hs
  simp only [awp] at h
  have hX := h (fun sl1 st1 => ∀ β1 I1 a1 w1, Sim β1 I1 w1 sl1 st1 a1.tmps.toList → Stp β I w β1 I1 w1 → a1.defers = a.defers → Kp T β β1 → InLoop P b (Lift T Q β I w a.defers) a1 w1) ?_
  ·obtain ⟨sl', st', h1, h2⟩ := hX
   obtain ⟨β', I', k1, k2, k3⟩ := h1 β I w _ hs
   exact (h2 β' I' a w k1 k2 rfl k3).wp
  ·intro Y sl1 st1 hY hb β1 I1 a1 w1 j2 j3 j4 j5
   refine InLoop.of_round (wp_mono (ih _ sl1 st1 β1 I1 a1 w1 hb j2) fun e a' w' hq => ?_)
   obtain ⟨e1, sl2, st2, β2, I2, q1, q2, q3, q4, q5⟩ := hq
   cases e with
   | normal =>
    obtain ⟨sl3, st3, m2, m3⟩ := hY sl2 st2 q1
    obtain ⟨β3, I3, k3, k4, k5⟩ := m2 β2 I2 w' _ q2
    exact m3 β3 I3 a' w' k3 ((j3.trans q3).trans k4) (q4.trans j4) ((j5.trans q5).trans k5)
   | exit id => exact ⟨trivial, sl2, st2, β2, I2, q1, q2, j3.trans q3, q4.trans j4, j5.trans q5⟩
   | ret => exact ⟨trivial, sl2, st2, β2, I2, q1, q2, j3.trans q3, q4.trans j4, j5.trans q5⟩
   | _ => exact e1.elim
 | exit id => intro Q sl st β I a w h hs; exact wp_exit ⟨trivial, sl, st, β, I, h, hs, Stp.refl _ _ _, rfl, Kp.refl _ _⟩
 | label l => intro Q sl st β I a w h hs; exact wp_label ⟨trivial, sl, st, β, I, h, hs, Stp.refl _ _ _, rfl, Kp.refl _ _⟩
 | ret => intro Q sl st β I a w h hs; exact wp_ret ⟨trivial, sl, st, β, I, h, hs, Stp.refl _ _ _, rfl, Kp.refl _ _⟩
 | _ => intro Q sl st β I a w h hs; exact h.elim
end
end
section
open Go.RowKit
def LeD (d d' : D) : Prop := ∀ I w β v, Rel I w β d v → Rel I w β d' v
mutual
/-- nil as an empty row, throughout -/
def zE0 : D → D
 | .val v => match v with
  | .slice none 0 0 => .row [] 0
  | v => .val v
 | .agg cs => .agg (zF4 cs)
 | .tup cs => .tup (zF4 cs)
 | .ifc t d => .ifc t (zE0 d)
 | d => d
def zF4 : List D → List D
 | [] => []
 | d :: ds => zE0 d :: zF4 ds
end
mutual
theorem zFh {I : Im} {w : World} {β : Be} : ∀ (d : D) (v : Value), Rel I w β d v → Rel I w β (zE0 d) v
 | .val u, v, h => by
  simp only [zE0]
  split
  ·simp only [Rel] at h ⊢; exact ⟨none, 0, h, Nat.le_refl _, by decide, fun _ => rfl, .inl trivial⟩
  ·exact h
 | .agg cs, v, h => by
  simp only [zE0, Rel] at h ⊢
  obtain ⟨vs, rfl, h⟩ := h
  exact ⟨vs, rfl, zH5 cs vs h⟩
 | .tup cs, v, h => by
  simp only [zE0, Rel] at h ⊢
  obtain ⟨vs, rfl, h⟩ := h
  exact ⟨vs, rfl, zH4 cs vs h⟩
 | .ifc t d, v, h => by
  simp only [zE0, Rel] at h ⊢
  obtain ⟨u, rfl, h⟩ := h
  exact ⟨u, rfl, zFh d u h⟩
 | .unk, v, h => h
 | .row cs n, v, h => h
 | .ptr cs, v, h => h
 | .clo f x y, v, h => h
 | .own k o, v, h => h
 | .osl k o n m b, v, h => h
 | .mref k, v, h => h
 | .mfz ks cs, v, h => h
 | .fx d, v, h => h
 | .osr .., v, h => h
theorem zH5 {I : Im} {w : World} {β : Be} : ∀ (ds : List D) (vs : List Value), RelL I w β ds vs → RelL I w β (zF4 ds) vs
 | [], vs, h => h
 | d :: ds, vs, h => by
  simp only [zF4, RelL] at h ⊢
  obtain ⟨v, us, rfl, h1, h2, h3⟩ := h
  exact ⟨v, us, rfl, h1, zFh d v h2, zH5 ds us h3⟩
theorem zH4 {I : Im} {w : World} {β : Be} : ∀ (ds : List D) (vs : List Value), RelT I w β ds vs → RelT I w β (zF4 ds) vs
 | [], vs, h => h
 | d :: ds, vs, h => by
  simp only [zF4, RelT] at h ⊢
  obtain ⟨v, us, rfl, h2, h3⟩ := h
  exact ⟨v, us, rfl, zFh d v h2, zH4 ds us h3⟩
end
theorem zWt (d : D) : LeD d (zE0 d) := fun I w β v h => zFh d v h
section
variable {P : Program} {T : Par}
def zLs (P : Program) (sl : List D) (st : List Bk) : ResultVar → Eff
 | .tmp t => .get True (sl.getD t .unk)
 | .cell a t => match sl.getD a .unk with
  | .ptr cs => ldP P t cs .get
  | .own k off => match st[k]? with
   | some e => if e.kd.isMap then .bad else ldP P t (e.cells.drop off) .get
   | none => .bad
  | _ => .bad
def retL (P : Program) (sl : List D) (st : List Bk) : List ResultVar → (List D → Prop) → Prop
 | [], K => K []
 | r :: rs, K => match zLs P sl st r with
  | .get p d => p ∧ retL P sl st rs (fun ds => K (d :: ds))
  | _ => False
def oneD : List D → D
 | [d] => d
 | ds => .tup ds
theorem zN5 {sl : List D} {st : List Bk} {β : Be} {I : Im} {w : World} {a : Act} (h : Sim β I w sl st a.tmps.toList) (r : ResultVar) {p : Prop} {d : D} (he : zLs P sl st r = .get p d) (hp : p) :
  ∃ v, (match r with
   | .tmp t => pure (a.tmps.getD t undef)
   | .cell x t => do loadVar t (← asAddr (a.tmps.getD x undef)) : Sem Value).run P w = .ok v w ∧ Rel I w β d v := by
 cases r with
 | tmp t =>
  simp only [zLs, Eff.get.injEq] at he
  obtain ⟨rfl, rfl⟩ := he
  have := zAb h.rel (.tmp t)
  exact ⟨_, rfl, this⟩
 | cell x t =>
  have hx : Rel I w β (sl.getD x .unk) (a.tmps.getD x undef) := zAb h.rel (.tmp x)
  have key : ∀ (b o : Nat) (v : Value), (Instr.loadAt t (.pointer (some ⟨b, o, none⟩))).run P w = .ok v w → (loadVar t ⟨b, o, none⟩).run P w = .ok v w := by
   intro b o v hl
   simpa [Instr.loadAt, Instr.sureAddr] using hl
  simp only [zLs] at he
  split at he
  ·rename_i cs hc
   rw [hc] at hx
   simp only [Rel] at hx
   obtain ⟨b, o, hv, hr⟩ := hx
   obtain ⟨v, k1, k2⟩ := zGs (I := I) (w := w) (β := β) (b := b) (o := o) (fun j x hx => by
    obtain ⟨_, v, k1, k2, k3⟩ := hr.get j x hx
    exact ⟨v, k1, k2, k3.no⟩) he hp
   exact ⟨v, by simp [hv, asAddr, key _ _ _ k1], k2⟩
  ·rename_i k off hc
   rw [hc] at hx
   simp only [Rel] at hx
   obtain ⟨b, c, hb, hv⟩ := hx
   split at he
   ·rename_i e hk
    split at he
    ·cases he
    rename_i hmap
    have ho' := (h.sr.weak k b c e hb hk).c (by simpa using hmap)
    obtain ⟨v, k1, k2⟩ := zGs (I := I) (w := w) (β := β) (b := b) (o := off) (fun j x hx => by
     rw [List.getElem?_drop] at hx
     obtain ⟨v, k1, k2, k3⟩ := ho'.cells_get hx
     refine ⟨v, k1, k2, ?_⟩
     cases ha : e.nob <;> simp only [ha, if_true, if_false, Bool.false_eq_true] at k3
     ·exact k3
     ·exact k3.no) he hp
    exact ⟨v, by simp [hv, asAddr, key _ _ _ k1], k2⟩
   ·cases he
  ·cases he
theorem zLr {sl : List D} {st : List Bk} {β : Be} {I : Im} {w : World} {a : Act} (h : Sim β I w sl st a.tmps.toList) : ∀ (rs : List ResultVar) (K : List D → Prop), retL P sl st rs K → ∃ ds vs, K ds ∧ RelT I w β ds vs ∧ vs.length = rs.length ∧
  (rs.mapM (m := Sem) fun r => match r with
   | .tmp t => pure (a.tmps.getD t undef)
   | .cell x t => do loadVar t (← asAddr (a.tmps.getD x undef))).run P w = .ok vs w
 | [], K, hk => ⟨[], [], hk, by simp only [RelT], rfl, by simp⟩
 | r :: rs, K, hk => by
  simp only [retL] at hk
  split at hk
  ·rename_i p d hd
   obtain ⟨v, k1, k2⟩ := zN5 (P := P) h r hd hk.1
   obtain ⟨ds, vs, m1, m2, m3, m4⟩ := zLr h rs _ hk.2
   refine ⟨d :: ds, v :: vs, m1, by simp only [RelT]; exact ⟨v, vs, rfl, k2, m2⟩, by simp [m3], ?_⟩
   rw [List.mapM_cons, Sem.run_bind, k1]
   simp only [Result.andThen_ok, Sem.run_bind, m4, Sem.run_pure]
  ·exact hk.elim
theorem zGh {fn : Func} {sl : List D} {st : List Bk} {β : Be} {I : Im} {w : World} {a : Act} (h : Sim β I w sl st a.tmps.toList) {K : List D → Prop} (hk : retL P sl st fn.results.toList K) :
  ∃ ds v, K ds ∧ Rel I w β (oneD ds) v ∧ (results fn a.tmps).run P w = .ok v w := by
 obtain ⟨ds, vs, m1, m2, m3, m4⟩ := zLr (P := P) h _ K hk
 have hl := m2.length
 refine ⟨ds, if h : vs.toArray.size = 1 then vs.toArray[0] else .tuple vs.toArray, m1, ?_, ?_⟩
 ·match ds, m2, hl with
  | [], m2, hl => simp only [RelT] at m2; subst m2; simp [oneD, Rel, RelT]
  | [d], m2, hl =>
   simp only [RelT] at m2
   obtain ⟨v, us, rfl, h1, rfl⟩ := m2
   simpa [oneD] using h1
  | d :: d' :: ds, m2, hl =>
   have : ¬ (vs.toArray.size = 1) := by simp [← hl]
   rw [dif_neg this]
   simp only [oneD, Rel]
   exact ⟨vs, rfl, m2⟩
 ·unfold results
  have hm := zBk (P := P) fn.results _ vs w m4
  rw [Sem.run_bind]
  erw [hm]
  rfl
theorem zNy {I : Im} {w : World} {β : Be} {args : List D} {vs : List Value} (h : RelT I w β args vs) (n : Nat) : RelT I w β (args ++ List.replicate n .unk) (vs.toArray ++ Array.replicate n undef).toList := by
 have hrep : RelT I w β (List.replicate n .unk) (List.replicate n undef) := by
  induction n with
  | zero => simp only [List.replicate_zero, RelT]
  | succ n ih => simp only [List.replicate_succ, RelT]; exact ⟨_, _, rfl, by simp only [Rel], ih⟩
 have := h.append hrep
 simpa using this
theorem zL (hM : zBi P T) (hm : P.follows .mixedOrders = true) {f : FuncId} {fn : Func} {c : Code} (hf : P.funcs[f]? = some fn) (hb : fn.body = some c) {args : List D} {x : D}
  (h : awp P T c (fun e sl st => (e = .normal ∨ e = .ret) ∧ retL P sl st fn.results.toList (fun ds => ∃ y ks, frz true st zAl (oneD ds) = some (y, ks) ∧ LeD y x)) (args ++ List.replicate (fn.ntmps - args.length) .unk) []) : Pure P f args [] x := by
 intro I w vs hr hi hg
 have hlen := hr.length
 refine calls_of_wp hf hb ?_
 have hsim : Sim noB I w (args ++ List.replicate (fn.ntmps - args.length) .unk) [] (vs.toArray ++ Array.replicate (fn.ntmps - vs.toArray.size) undef).toList := by
  refine ⟨?_, ?_, ?_, ?_, ?_, hi, hg⟩
  ·have := zNy hr (fn.ntmps - args.length)
   rw [hlen] at this ⊢
   simpa using this
  ·intro k b c h; cases h
  ·intro k k' b c c' h; cases h
  ·intro k b c j e h; cases h
  ·intro k x h; cases h
 refine wp_mono (zQf hM hm c _ _ _ noB I { tmps := vs.toArray ++ Array.replicate (fn.ntmps - vs.toArray.size) undef, defers := [] } w h hsim) fun e a' w' hq => ?_
 obtain ⟨e1, sl', st', β', I', ⟨q0, q1⟩, q2, q3, q4, q5⟩ := hq
 have fin : a'.defers = [] ∧ ∃ v, (results fn a'.tmps).run P w' = .ok v w' ∧ ∃ v' I' γ, Ending.returned v = .returned v' ∧ Ext w w' ∧ ImB I' w' ∧ Fix I w I' w' ∧ (∀ b o, I' b o → I b o ∨ w.heap.size ≤ b) ∧
  (∀ k b c, γ k = some (b, c) → w.heap.size ≤ b) ∧ SR γ I' w' [] ∧ Inj γ ∧ FZ γ I' [] ∧ (∀ k y, γ k = some y → k < ([] : List Bk).length) ∧ Rel I' w' γ x v' ∧ (∀ e ∈ ([] : List Bk), e.arr = true ∧ e.kd = .plain) := by
  obtain ⟨ds, v, ⟨y, ks, k1, kle⟩, k2, k3⟩ := zGh (P := P) (fn := fn) q2 q1
  have k4 := zBf q2.sr.weak _ _ _ _ _ k1 k2
  refine ⟨q4, v, k3, v, fixI I' β' st' ks, noB, rfl, ⟨⟨q3.os, q3.tape, q3.output, q3.size, fun b hb => q3.out b hb (fun k c h => by cases h)⟩, q3.dr⟩, zDp q2.sr.weak q2.imb ks, q3.fix.trans (zAd ks), fun b o hx => ?_, fun k b c h => (by cases h), fun k b c h => (by cases h), fun k k' b c c' h => (by cases h), fun k b c j e h => (by cases h), fun k y h => (by cases h), kle _ _ _ _ k4, by simp⟩
  rcases hx with hx | ⟨k, _, c, e, hk, _⟩
  ·rcases q3.im b o hx with h1 | h1 | ⟨k, c, h1⟩
   ·exact .inl h1
   ·exact .inr h1
   ·cases h1
  ·rcases q3.be k b c hk with ⟨k', c', h1⟩ | h1
   ·cases h1
   ·exact .inr h1
 rcases q0 with rfl | rfl
 ·exact fin
 ·exact fin
theorem zA8 (hM : zBi P T) (hm : P.follows .mixedOrders = true) {f : FuncId} {fn : Func} {c : Code} (hf : P.funcs[f]? = some fn) (hb : fn.body = some c) {args : List D} {st st' : List Bk} {x : D} {ch : List Nat} (hkeep : ∀ k, k < st.length → T.keep k = true ∨ k ∈ ch)
  (h : awp P T c (fun e sl s => (e = .normal ∨ e = .ret) ∧ retL P sl s fn.results.toList (fun ds => oneD ds = x ∧ s = st')) (args ++ List.replicate (fn.ntmps - args.length) .unk) st) : Acts P f args st ch x st' := by
 intro β I w vs hr hsr hinj hfz hdom hi hg
 have hlen := hr.length
 refine calls_of_wp hf hb ?_
 have hsim : Sim β I w (args ++ List.replicate (fn.ntmps - args.length) .unk) st (vs.toArray ++ Array.replicate (fn.ntmps - vs.toArray.size) undef).toList := by
  refine ⟨?_, hsr, hinj, hfz, hdom, hi, hg⟩
  have := zNy hr (fn.ntmps - args.length)
  rw [hlen] at this ⊢
  simpa using this
 refine wp_mono (zQf hM hm c _ _ _ β I { tmps := vs.toArray ++ Array.replicate (fn.ntmps - vs.toArray.size) undef, defers := [] } w h hsim) fun e a' w' hq => ?_
 obtain ⟨e1, sl', s', β', I', ⟨q0, q1⟩, q2, q3, q4, q5⟩ := hq
 have fin : a'.defers = [] ∧ ∃ v, (results fn a'.tmps).run P w' = .ok v w' ∧ ∃ v' β' I', Ending.returned v = .returned v' ∧ ImB I' w' ∧ Stp β I w β' I' w' ∧
  (∀ k y, k ∉ ch → β k = some y → β' k = some y) ∧ SR β' I' w' st' ∧ Inj β' ∧ FZ β' I' st' ∧ (∀ k y, β' k = some y → k < st'.length) ∧ Rel I' w' β' x v' := by
  obtain ⟨ds, v, ⟨k1, rfl⟩, k2, k3⟩ := zGh (P := P) (fn := fn) q2 q1
  exact ⟨q4, v, k3, v, β', I', rfl, q2.imb, q3, fun k y hc hk => q5 k y ((hkeep k (hdom k y hk)).resolve_right hc) hk, q2.sr, q2.inj, q2.fz, q2.dom, k1 ▸ k2⟩
 rcases q0 with rfl | rfl
 ·exact fin
 ·exact fin
theorem zEp (hM : zBi P T) (hm : P.follows .mixedOrders = true) {f : FuncId} {fn : Func} {c : Code} (hf : P.funcs[f]? = some fn) (hb : fn.body = some c) {args : List D} {st st' : List Bk} {x : D} (hkeep : ∀ k, k < st.length → T.keep k = true)
  (h : awp P T c (fun e sl s => (e = .normal ∨ e = .ret) ∧ retL P sl s fn.results.toList (fun ds => oneD ds = x ∧ s = st')) (args ++ List.replicate (fn.ntmps - args.length) .unk) st) : Acts P f args st [] x st' :=
 zA8 hM hm hf hb (fun k hk => .inl (hkeep k hk)) h
end
end
section
open Go.RowKit
theorem LeD.refl (d : D) : LeD d d := fun _ _ _ _ h => h
theorem LeD.unk (d : D) : LeD d .unk := fun _ _ _ _ _ => by simp only [Rel]
theorem LeD.eq {d d' : D} (h : d = d') : LeD d d' := h ▸ LeD.refl d
theorem LeD.nil (k : Nat) (b : Bool) : LeD (.val (.slice none 0 0)) (.osl k 0 0 0 b) := fun _ _ _ v h => by
 simp only [Rel] at h ⊢; exact .inl ⟨trivial, trivial, h⟩
theorem LeD.nil_row : LeD (.val (.slice none 0 0)) (.row [] 0) := fun _ _ _ v h => by
 simp only [Rel] at h ⊢; exact ⟨none, 0, h, Nat.le_refl _, by decide, fun _ => rfl, .inl trivial⟩
inductive LeL : List D → List D → Prop
 | nil : LeL [] []
 | cons {d d' : D} {ds ds' : List D} : LeD d d' → LeL ds ds' → LeL (d :: ds) (d' :: ds')
theorem LeL.rel {I : Im} {w : World} {β : Be} {ds ds' : List D} (h : LeL ds ds') : ∀ {vs : List Value}, RelT I w β ds vs → RelT I w β ds' vs := by
 induction h with
 | nil => exact fun h => h
 | cons h1 _ ih =>
  intro vs h
  simp only [RelT] at h ⊢
  obtain ⟨v, us, e, h2, h3⟩ := h
  exact ⟨v, us, e, h1 _ _ _ _ h2, ih h3⟩
theorem LeL.refl : ∀ ds, LeL ds ds
 | [] => .nil
 | d :: ds => .cons (.refl d) (LeL.refl ds)
theorem LeL.of_eq {ds ds' : List D} (h : ds = ds') : LeL ds ds' := h ▸ LeL.refl ds
section
variable {P : Program} {T : Par}
theorem Weak.refl (sl : List D) (st : List Bk) : Weak T sl st sl st := fun β I w tm h => ⟨β, I, h, Stp.refl _ _ _, Kp.refl _ _⟩
theorem Weak.trans {sl sl' sl'' : List D} {st st' st'' : List Bk} (h : Weak T sl st sl' st') (k : Weak T sl' st' sl'' st'') : Weak T sl st sl'' st'' := fun β I w tm hs => by
 obtain ⟨β', I', h1, h2, h3⟩ := h β I w tm hs
 obtain ⟨β'', I'', k1, k2, k3⟩ := k β' I' w tm h1
 exact ⟨β'', I'', k1, h2.trans k2, h3.trans k3⟩
theorem Weak.slots {sl sl' : List D} {st : List Bk} (h : LeL sl sl') : Weak T sl st sl' st := fun β I w tm hs =>
 ⟨β, I, ⟨h.rel hs.rel, hs.sr, hs.inj, hs.fz, hs.dom, hs.imb, hs.gl⟩, Stp.refl _ _ _, Kp.refl _ _⟩
theorem Weak.more {sl : List D} {st : List Bk} (bs : List Bk) : Weak T sl st sl (st ++ bs) := fun β I w tm hs => by
 refine ⟨β, I, ⟨hs.rel, fun k b c hk => ?_, hs.inj, fun k b c j e hk he hi => ?_, fun k x hk => ?_, hs.imb, hs.gl⟩, Stp.refl _ _ _, Kp.refl _ _⟩
 ·obtain ⟨e, h1, h2⟩ := hs.sr k b c hk
  exact ⟨e, by rw [List.getElem?_append_left (hs.dom k _ hk)]; exact h1, h2⟩
 ·rw [List.getElem?_append_left (hs.dom k _ hk)] at he
  exact hs.fz k b c j e hk he hi
 ·have := hs.dom k x hk
  rw [List.length_append]; omega
theorem OwnRel.congr {I : Im} {w : World} {β β' : Be} {b c : Nat} {e : Bk} (h : OwnRel I w β b c e) (hb : e.nob = false → ∀ k x, zCv k e.cells = true → β k = some x → β' k = some x) : OwnRel I w β' b c e := by
 rcases e.kd.cases with hk | ⟨ks, hk⟩
 ·obtain ⟨cur, h1, h2, h3, h4⟩ := h.c hk
  refine OwnC.r ⟨cur, h1, h2, ?_, h4⟩ hk
  cases ha : e.nob <;> rw [ha] at h3
  ·exact RelL.congr _ _ (hb ha) h3
  ·exact h3
 ·obtain ⟨vs, h1, h2⟩ := h.m hk
  refine OwnM.r ⟨vs, h1, ?_⟩ hk
  cases ha : e.nob <;> rw [ha] at h2
  ·exact RelT.congr _ _ (hb ha) h2
  ·exact h2
def zKg (sl : List D) (st : List Bk) (m n : Nat) : Bool := (List.range (n - m)).all fun i => !zCv (m + i) sl && (st.take m).all fun e => e.nob || !zCv (m + i) e.cells
theorem Weak.cut {sl : List D} {st : List Bk} (m : Nat) (h : zKg sl st m st.length = true) (hk : ∀ k, m ≤ k → T.keep k = false) : Weak T sl st sl (st.take m) := fun β I w tm hs => by
 have hno : ∀ k, m ≤ k → k < st.length → zCv k sl = false ∧ ∀ e ∈ st.take m, e.nob = true ∨ zCv k e.cells = false := by
  intro k h1 h2
  simp only [zKg, List.all_eq_true, List.mem_range, Bool.and_eq_true, Bool.not_eq_true', Bool.or_eq_true] at h
  have := h (k - m) (by omega)
  rw [show m + (k - m) = k by omega] at this
  exact this
 have hcut : ∀ (k : Nat) (x : Nat × Nat), (if k < m then β k else none) = some x → β k = some x ∧ k < m := by
  intro k x hx
  split at hx
  ·exact ⟨hx, by assumption⟩
  ·cases hx
 refine ⟨fun k => if k < m then β k else none, I, ⟨?_, fun k b c hk => ?_, fun k k' b c c' hk hk' => ?_, fun k b c j e hk he hi => ?_, fun k x hk => ?_, hs.imb, hs.gl⟩, ⟨Fix.refl _ _, Nat.le_refl _, fun _ _ _ => rfl, rfl, rfl, rfl, Nat.le_refl _, fun k b c hk => .inl ⟨k, c, (hcut k _ hk).1⟩, fun _ _ h => .inl h⟩, fun k x hx hb => ?_⟩
 ·refine RelT.congr sl tm (fun k x hr hx => ?_) hs.rel
  by_cases hm : k < m
  ·simp only [hm, if_true]; exact hx
  ·have := (hno k (by omega) (hs.dom k x hx)).1
   rw [this] at hr; cases hr
 ·obtain ⟨h1, h2⟩ := hcut k _ hk
  obtain ⟨e, k1, k2⟩ := hs.sr k b c h1
  refine ⟨e, by rw [List.getElem?_take, if_pos h2]; exact k1, k2.congr fun ha j x hr hx => ?_⟩
  by_cases hm : j < m
  ·simp only [hm, if_true]; exact hx
  ·have hmem : e ∈ st.take m := List.mem_of_getElem? (by rw [List.getElem?_take, if_pos h2]; exact k1)
   rcases (hno j (by omega) (hs.dom j x hx)).2 e hmem with h3 | h3
   ·rw [ha] at h3; cases h3
   ·rw [h3] at hr; cases hr
 ·exact hs.inj k k' b c c' (hcut k _ hk).1 (hcut k' _ hk').1
 ·obtain ⟨h1, h2⟩ := hcut k _ hk
  rw [List.getElem?_take, if_pos h2] at he
  exact hs.fz k b c j e h1 he hi
 ·obtain ⟨h1, h2⟩ := hcut k _ hk
  have := hs.dom k x h1
  rw [List.length_take]; omega
 ·simp only
  by_cases hm : k < m
  ·simp only [hm, if_true]; exact hb
  ·rw [hk k (by omega)] at hx; cases hx
theorem zQg {b : Code} {Q : Exit → List D → List Bk → Prop} {sl : List D} {st : List Bk} (Inv : Nat → List D → List Bk → Prop) (h0 : ∃ n sl' st', Weak T sl st sl' st' ∧ Inv n sl' st')
  (h : ∀ n sl st, Inv n sl st → awp P T b (zAf (fun sl' st' => ∃ m sl'' st'', m < n ∧ Weak T sl' st' sl'' st'' ∧ Inv m sl'' st'') Q) sl st) : awp P T (.loop b) Q sl st := by
 intro X hX
 have key : ∀ n sl st, Inv n sl st → X sl st := by
  intro n
  induction n using Nat.strongRecOn with
  | _ n ih =>
   intro sl st hi
   refine hX _ sl st (fun sl' st' hY => ?_) (h n sl st hi)
   obtain ⟨m, sl'', st'', h1, h2, h3⟩ := hY
   exact ⟨sl'', st'', h2, ih m h1 sl'' st'' h3⟩
 obtain ⟨n, sl', st', h1, h2⟩ := h0
 exact ⟨sl', st', h1, key n sl' st' h2⟩
theorem zAr {b : Code} {Q : Exit → List D → List Bk → Prop} {sl : List D} {st : List Bk} (h : awp P T b (zAf (fun sl' st' => awp P T (.loop b) Q sl' st') Q) sl st) : awp P T (.loop b) Q sl st := by
 intro X hX
 exact ⟨sl, st, Weak.refl _ _, hX _ sl st (fun sl' st' hY => hY X hX) h⟩
theorem zNh {α : Type} {b : Code} {Q : Exit → List D → List Bk → Prop} {sl : List D} {st : List Bk} (S : α → List D) (B : α → List Bk) (μ : α → Nat) (J : α → Prop) (x₀ : α) (h₀ : J x₀) (hw : Weak T sl st (S x₀) (B x₀))
  (step : ∀ x, J x → awp P T b (zAf (fun sl' st' => ∃ y, J y ∧ μ y < μ x ∧ Weak T sl' st' (S y) (B y)) Q) (S x) (B x)) : awp P T (.loop b) Q sl st := by
 refine zQg (fun n sl st => ∃ x, J x ∧ μ x = n ∧ sl = S x ∧ st = B x) ⟨μ x₀, _, _, hw, x₀, h₀, rfl, rfl, rfl⟩ ?_
 rintro n sl st ⟨x, hx, rfl, rfl, rfl⟩
 have := step x hx
 have e : (zAf (fun sl' st' => ∃ y, J y ∧ μ y < μ x ∧ Weak T sl' st' (S y) (B y)) Q) = (zAf (fun sl' st' => ∃ m sl'' st'', m < μ x ∧ Weak T sl' st' sl'' st'' ∧ ∃ x, J x ∧ μ x = m ∧ sl'' = S x ∧ st'' = B x) Q) := by
  funext e sl st
  cases e <;> simp only [zAf]
  apply propext
  constructor
  ·rintro ⟨y, h1, h2, h3⟩
   exact ⟨μ y, _, _, h2, h3, y, h1, rfl, rfl, rfl⟩
  ·rintro ⟨m, sl, st, h1, h2, y, h3, rfl, rfl, rfl⟩
   exact ⟨y, h3, h1, h2⟩
 rw [← e]; exact this
end
end
section
open Go.RowKit
section
variable {P : Program} {T : Par} {ops : Array Oper} {dr : Bool} {o : Oper} {r : List Oper} {sl sl' : List D} {st st' : List Bk} {K : List D → List Bk → Prop} {p : Prop} {d : D} {b : Bk} {k : Nat} {fz : List Nat} {f : FuncId} {args : List D}
def goW (P : Program) (T : Par) (ops : Array Oper) (dr : Bool) (o : Oper) (r : List Oper) (sl : List D) (st : List Bk) (K : List D → List Bk → Prop) : Prop := match aeff P T o.op o.type (evD sl) st with
   | .bad => False
   | .lit p d => zV T o.op = true ∧ p ∧ seqW P T ops dr r (putD sl o.dst d) st K
   | .get p d => zV T o.op = false ∧ p ∧ seqW P T ops dr r (putD sl o.dst d) st K
   | .new p b d fz => zV T o.op = false ∧ p ∧ seqW P T ops dr r (putD sl o.dst d) (zAe st fz ++ [b]) K
   | .call f args fz => zV T o.op = false ∧ ∃ news x, Pure P f args news x ∧ seqW P T ops dr r (putD sl o.dst (if news.isEmpty then x else zA2 st.length x)) (zAe st fz ++ news) K
   | .put p k b fz => isE T o.op = true ∧ p ∧ seqW P T ops dr r (putD sl o.dst .unk) ((zAe st fz).set k b) K
   | .app p k b d => isE T o.op = true ∧ (T.keep k = false ∧ p) ∧ seqW P T ops dr r (putD (sl.map (zA5 k)) o.dst d) ((st.map (zBy k)).set k b) K
   | .act f args => zV T o.op = false ∧ (dr = false ∨ isE T o.op = true) ∧ ∃ ch x st', (Acts P f args st ch x st' ∧ ∀ k ∈ ch, T.keep k = false) ∧ seqW P T ops dr r (putD (sl.map (zB6 ch)) o.dst x) st' K
theorem zCe (hg : o.guard = none) (h : goW P T ops dr o r sl st K) : seqW P T ops dr (o :: r) sl st K := by
 simp only [seqW, hg]; exact h
theorem zY5 {j : Nat} {want : Bool} {x : Array Value} (hg : o.guard = some (j, want)) (hb : ((ops[j]?).bind (·.dst)).map (fun t => sl.getD t .unk) = some (.val (.tuple x))) (hs : putD sl o.dst (.val undef) = sl') (h : seqW P T ops dr r sl' st K) : seqW P T ops dr (o :: r) sl st K := by
 subst hs; simp only [seqW, hg, hb]; exact h
theorem zN2 {j : Nat} {want t : Bool} (hg : o.guard = some (j, want)) (hb : ((ops[j]?).bind (·.dst)).map (fun t => sl.getD t .unk) = some (.val (.bool t))) (hs : putD sl o.dst (.val undef) = sl') (h : t = want → goW P T ops dr o r sl st K) (h' : t = !want → seqW P T ops dr r sl' st K) : seqW P T ops dr (o :: r) sl st K := by
 subst hs; simp only [seqW, hg, hb]; exact ⟨h, h'⟩
theorem zXf (hE : aeff P T o.op o.type (evD sl) st = .lit p d) (hl : zV T o.op = true) (hp : p) (hs : putD sl o.dst d = sl') (h : seqW P T ops dr r sl' st K) : goW P T ops dr o r sl st K := by
 subst hs; simp only [goW, hE]; exact ⟨hl, hp, h⟩
theorem go_get (hE : aeff P T o.op o.type (evD sl) st = .get p d) (hl : zV T o.op = false) (hp : p) (hs : putD sl o.dst d = sl') (h : seqW P T ops dr r sl' st K) : goW P T ops dr o r sl st K := by
 subst hs; simp only [goW, hE]; exact ⟨hl, hp, h⟩
theorem zXe (hE : aeff P T o.op o.type (evD sl) st = .new p b d fz) (hl : zV T o.op = false) (hp : p) (hs : putD sl o.dst d = sl') (ht : zAe st fz ++ [b] = st') (h : seqW P T ops dr r sl' st' K) : goW P T ops dr o r sl st K := by
 subst hs ht; simp only [goW, hE]; exact ⟨hl, hp, h⟩
theorem zXd (hE : aeff P T o.op o.type (evD sl) st = .put p k b fz) (hl : isE T o.op = true) (hp : p) (hs : putD sl o.dst .unk = sl') (ht : (zAe st fz).set k b = st') (h : seqW P T ops dr r sl' st' K) : goW P T ops dr o r sl st K := by
 subst hs ht; simp only [goW, hE]; exact ⟨hl, hp, h⟩
theorem go_app (hE : aeff P T o.op o.type (evD sl) st = .app p k b d) (hl : isE T o.op = true) (hk : T.keep k = false) (hp : p) (hs : putD (sl.map (zA5 k)) o.dst d = sl') (ht : (st.map (zBy k)).set k b = st') (h : seqW P T ops dr r sl' st' K) : goW P T ops dr o r sl st K := by
 subst hs ht; simp only [goW, hE]; exact ⟨hl, ⟨hk, hp⟩, h⟩
theorem go_call {x : D} (hE : aeff P T o.op o.type (evD sl) st = .call f args fz) (hl : zV T o.op = false) (hc : Pure P f args [] x) (hs : putD sl o.dst x = sl') (ht : zAe st fz = st') (h : seqW P T ops dr r sl' st' K) : goW P T ops dr o r sl st K := by
 subst hs ht; simp only [goW, hE]; exact ⟨hl, [], x, hc, by simpa using h⟩
theorem zZ7 {x : D} {n : Bk} {news : List Bk} (hE : aeff P T o.op o.type (evD sl) st = .call f args fz) (hl : zV T o.op = false) (hc : Pure P f args (n :: news) x) (hs : putD sl o.dst (zA2 st.length x) = sl') (ht : zAe st fz ++ n :: news = st') (h : seqW P T ops dr r sl' st' K) : goW P T ops dr o r sl st K := by
 subst hs ht; simp only [goW, hE]; exact ⟨hl, n :: news, x, hc, by simpa using h⟩
theorem go_act {x : D} {st'' : List Bk} (hE : aeff P T o.op o.type (evD sl) st = .act f args) (hl : zV T o.op = false) (hd : dr = false ∨ isE T o.op = true) (hc : Acts P f args st [] x st'') (hs : putD sl o.dst x = sl') (h : seqW P T ops dr r sl' st'' K) : goW P T ops dr o r sl st K := by
 subst hs; simp only [goW, hE]
 refine ⟨hl, hd, [], x, st'', ⟨hc, by simp⟩, ?_⟩
 have : sl.map (zB6 []) = sl := by
  conv => rhs; rw [← List.map_id sl]
  exact List.map_congr_left fun d _ => by simp [zB6]
 rw [this]; exact h
end
section
variable {P : Program} {T : Par} {sl : List D} {st : List Bk} {Q : Exit → List D → List Bk → Prop}
theorem zG (h : Q .normal sl st) : awp P T .skip Q sl st := h
def zAo (P : Program) (T : Par) (b : Code) (Q : Exit → List D → List Bk → Prop) (sl : List D) (st : List Bk) : Prop := ∃ sl' st', Weak T sl st sl' st' ∧ awp P T b Q sl' st'
theorem zD {b : Code} (h : awp P T b Q sl st) : zAo P T b Q sl st := ⟨sl, st, Weak.refl _ _, h⟩
theorem zB {a b : Code} (h : awp P T a (zAf (zAo P T b Q) Q) sl st) : awp P T (.seq a b) Q sl st := h
theorem zA {i : Nat} {ops : Array Oper} {l : List Oper} (hl : ops.toList = l) (h : seqW P T ops false l sl st (Q .normal)) : awp P T (.region i ops false) Q sl st := by subst hl; exact h
theorem zX2 {i : Nat} {ops : Array Oper} (ord : List Nat) {l : List Oper} (hr : zTt T ops ord = true) (hl : (ord.map fun i => ops.getD i default) = l) (h : seqW P T ops true l sl st (Q .normal)) : awp P T (.region i ops true) Q sl st := by subst hl; exact .inl ⟨ord, .inl hr, h⟩
theorem zD1 {i : Nat} {ops : Array Oper} (l0 : List Nat) (its : List zHv) {l : List Oper} (hr : zJ4 T ops l0 its = true) (hl : (l0.map fun i => ops.getD i default) = l) (h : seqW P T ops true l sl st fun sl st => seqI P T ops its sl st (Q .normal)) : awp P T (.region i ops true) Q sl st := by subst hl; exact .inr ⟨l0, its, hr, h⟩
theorem zGg {ops : Array Oper} {K : List D → List Bk → Prop} (h : K sl st) : seqI P T ops [] sl st K := h
def freesB (o : Oper) (c : List (Nat × Nat)) (sl : List D) (st : List Bk) : Bool := c.all fun x => Nat.ble st.length x.2 || o.op.operands.toList.all fun y => !refs x.2 (evD sl y)
theorem zD7 {ops : Array Oper} {K : List D → List Bk → Prop} {e : Nat} {c : List (Nat × Nat)} {l : List Nat} {r : List zHv} {o : Oper} {l' : List Oper} (ho : ops.getD e default = o) (hl : (l.map fun i => ops.getD i default) = l') (hf : freesB o c sl st = true)
  (h : seqW P T ops true [o] sl st fun sl' st' => zW4 P T ops c st.length sl' st' ∧ seqW P T ops true l' sl' st' fun sl st => seqI P T ops r sl st K) : seqI P T ops ((e, c, l) :: r) sl st K := by
 subst ho hl
 refine ⟨fun x hx hlt y hy => ?_, h⟩
 have h1 := List.all_eq_true.1 hf x hx
 rw [Bool.or_eq_true] at h1
 rcases h1 with h1 | h1
 ·have := Nat.le_of_ble_eq_true h1; omega
 ·have := List.all_eq_true.1 h1 y (by simpa using hy)
  simpa using this
def lateL (P : Program) (T : Par) (ops : Array Oper) (o : Oper) (n : Nat) (sl : List D) (st : List Bk) : Option (List Prop) := match gv ops o sl with
 | some true => match aeff P T o.op o.type (evD sl) (st.take n), o.dst with
  | .lit p d, some x => if zV T o.op then some [p, sl[x]? = some d] else none
  | .get p d, some x => if zV T o.op then none else some [p, sl[x]? = some d]
  | .new p b d fz, some x => match st[n]?, b with
   | some e, ⟨cells, ty, sz, arr, false, kd⟩ => if zV T o.op || !fz.isEmpty then none else some [p, sl[x]? = some d, e.cells = cells, e.ty = ty, e.sz = sz, e.arr = arr, e.kd = kd]
   | _, _ => none
  | _, _ => none
 | _ => none
def zS0 (P : Program) (T : Par) (ops : Array Oper) (sl : List D) (st : List Bk) : List (Nat × Nat) → Option (List Prop)
 | [] => some []
 | x :: r => match lateL P T ops (ops.getD x.1 default) x.2 sl st, zS0 P T ops sl st r with
  | some l, some m => some (l ++ m)
  | _, _ => none
def AllP : List Prop → Prop
 | [] => True
 | [p] => p
 | p :: q :: r => p ∧ AllP (q :: r)
theorem AllP.mem : ∀ {l : List Prop}, AllP l → ∀ p ∈ l, p
 | [], _, p, hp => by cases hp
 | [q], h, p, hp => by rw [List.mem_singleton] at hp; rw [hp]; exact h
 | q :: r :: l, h, p, hp => by
  rcases List.mem_cons.1 hp with rfl | hp
  ·exact h.1
  ·exact AllP.mem (l := r :: l) h.2 p hp
theorem zZ2 {ops : Array Oper} {o : Oper} {n : Nat} {l : List Prop} (h : lateL P T ops o n sl st = some l) (hl : ∀ p ∈ l, p) : zGt P T ops o n sl st := by
 unfold lateL at h
 unfold zGt
 split at h
 ·rename_i hg
  rw [hg]
  simp only
  split at h
  ·rename_i p d x he hx
   rw [he]
   split at h
   ·rename_i hli
    cases h
    exact ⟨hli, hl _ (by simp), fun y hy => by rw [hx] at hy; cases hy; exact hl (sl[x]? = some d) (by simp)⟩
   ·cases h
  ·rename_i p d x he hx
   rw [he]
   split at h
   ·cases h
   ·rename_i hli
    cases h
    exact ⟨by simpa using hli, hl _ (by simp), fun y hy => by rw [hx] at hy; cases hy; exact hl (sl[x]? = some d) (by simp)⟩
  ·rename_i p b d fz x he hx
   rw [he]
   split at h
   ·rename_i e cells ty sz arr kd hst
    split at h
    ·cases h
    ·rename_i hli
     have hl1 : zV T o.op = false := by cases hq : zV T o.op <;> simp_all
     have hl2 : fz = [] := by cases fz <;> simp_all
     cases h
     exact ⟨hl1, hl _ (by simp), hl2, ⟨x, hx, hl (sl[x]? = some d) (by simp)⟩, e, hst, hl (e.cells = cells) (by simp), hl (e.ty = ty) (by simp), hl (e.sz = sz) (by simp), hl (e.arr = arr) (by simp), hl (e.kd = kd) (by simp), fun h => by cases h⟩
   ·cases h
  ·cases h
 ·cases h
theorem zPu {ops : Array Oper} : ∀ {c : List (Nat × Nat)} {l : List Prop}, zS0 P T ops sl st c = some l → (∀ p ∈ l, p) → zW5 P T ops c sl st
 | [], l, h, hl => fun x hx => by cases hx
 | y :: c, l, h, hl => by
  unfold zS0 at h
  split at h
  ·rename_i l1 l2 h1 h2
   cases h
   intro x hx
   rcases List.mem_cons.1 hx with rfl | hx
   ·exact zZ2 h1 fun p hp => hl p (List.mem_append_left _ hp)
   ·exact zPu h2 (fun p hp => hl p (List.mem_append_right _ hp)) x hx
  ·cases h
theorem zD6 {ops : Array Oper} {K : List D → List Bk → Prop} {c : List (Nat × Nat)} {l : List Oper} {C : Prop} {n : Nat} (h : (zS0 P T ops sl st c).map AllP = some C) (hc : C) (hn : Nat.ble n st.length = true) (k : seqW P T ops true l sl st K) : zW4 P T ops c n sl st ∧ seqW P T ops true l sl st K := by
 obtain ⟨l, h1, rfl⟩ := Option.map_eq_some_iff.1 h
 exact ⟨⟨Nat.le_of_ble_eq_true hn, zPu h1 hc.mem⟩, k⟩
theorem zR {c : Operand} {x y : Code} {t : Bool} (hc : evD sl c = .val (.bool t)) (h : t = true → awp P T x Q sl st) (h' : t = false → awp P T y Q sl st) : awp P T (.cond c x y) Q sl st := by
 simp only [awp, hc]; exact ⟨h, h'⟩
theorem zF {i : Nat} {b : Code} (h : awp P T b (zAg i Q) sl st) : awp P T (.block i b) Q sl st := h
theorem zQ {i : Nat} (h : Q (.exit i) sl st) : awp P T (.exit i) Q sl st := h
theorem zM (h : Q .ret sl st) : awp P T .ret Q sl st := h
variable {K : List D → List Bk → Prop}
theorem zC (h : K sl st) : zAf K Q .normal sl st := h
theorem zH {i : Nat} (h : Q (.exit i) sl st) : zAf K Q (.exit i) sl st := h
theorem zJ (h : Q .ret sl st) : zAf K Q .ret sl st := h
theorem zE {i : Nat} (h : Q .normal sl st) : zAg i Q .normal sl st := h
theorem zN {i : Nat} (h : Q .ret sl st) : zAg i Q .ret sl st := h
theorem zP {i j : Nat} (e : j = i) (h : Q .normal sl st) : zAg i Q (.exit j) sl st := by simp only [zAg, e, if_true]; exact h
end
theorem wrap_i64 {x : Int} (h1 : -9223372036854775808 ≤ x) (h2 : x ≤ 9223372036854775807) : IntKind.i64.wrap x = x := by
 simp only [IntKind.wrap, IntKind.bits, IntKind.signed, Bool.true_and, Bool.false_and, Bool.false_eq_true, if_false, decide_eq_true_eq, ge_iff_le]; (try split) <;> omega
theorem zBa {x : Int} (h1 : 0 ≤ x) (h2 : x ≤ 4294967295) : IntKind.u32.wrap x = x := by
 simp only [IntKind.wrap, IntKind.bits, IntKind.signed, Bool.true_and, Bool.false_and, Bool.false_eq_true, if_false, decide_eq_true_eq, ge_iff_le]; (try split) <;> omega
def hvOf (P : Program) : Op → Bool
 | .convert s d _ => match P.underlying s, P.underlying d with
  | some (.slice _), some .string => true
  | _, _ => false
 | .call { callee := .builtin .len, argTypes := t, .. } => match (t.toList.head?).bind P.underlying with
  | some (.map _ _) => true
  | _ => false
 | _ => false
def shOf (P : Program) (t : TypeId) : Bool := match P.underlying t with
 | some (.map _ _) | some (.pointer _) => true
 | some (.slice e) => match P.underlying e with
  | some (.pointer _) => true
  | _ => false
 | _ => false
def TM (P : Program) (imp : FuncId → Bool) (keep : Nat → Bool) : Par := ⟨imp, zKk P, keep, hvOf P, shOf P⟩
theorem zRp (P : Program) (imp : FuncId → Bool) (keep : Nat → Bool) : zBi P (TM P imp keep) := fun t name f h v W => by
 obtain ⟨n, hn⟩ : ∃ n, P.types.size + Made.depth = n + 1 := ⟨P.types.size + Made.depth - 1, by have : Made.depth = 100 := rfl; omega⟩
 rw [hn]
 exact zT4 h n v W
end
section
open Go.RowKit
abbrev U : D := .unk
abbrev iD (x : Int) : D := .val (.int .i64 x)
abbrev bD (b : Bool) : D := .val (.bool b)
def updS (sl : List D) : List (Nat × D) → List D
 | [] => sl
 | (i, d) :: r => updS (sl.set i d) r
def zAw (sl : List D) : List Nat → List D
 | [] => sl
 | i :: r => zAw (sl.set i .unk) r
def Alls : List Prop → Prop
 | [] => True
 | [p] => p
 | p :: q :: r => p ∧ Alls (q :: r)
theorem Alls.cons {p : Prop} {r : List Prop} (h : Alls (p :: r)) : p ∧ Alls r := by
 cases r with
 | nil => exact ⟨h, trivial⟩
 | cons q r => exact h
theorem Alls.app : ∀ {l r : List Prop}, Alls (l ++ r) → Alls l ∧ Alls r
 | [], r, h => ⟨trivial, h⟩
 | [p], r, h => ⟨h.cons.1, h.cons.2⟩
 | p :: q :: l, r, h => by
  have h1 := Alls.cons (r := q :: l ++ r) h
  have h2 := Alls.app (l := q :: l) h1.2
  exact ⟨⟨h1.1, h2.1⟩, h2.2⟩
def inK : IntKind → Int → Prop
 | .i64, x => -9223372036854775808 ≤ x ∧ x ≤ 9223372036854775807
 | .u64, x => 0 ≤ x ∧ x ≤ 18446744073709551615
 | .i32, x => -2147483648 ≤ x ∧ x ≤ 2147483647
 | .u32, x => 0 ≤ x ∧ x ≤ 4294967295
 | .i16, x => -32768 ≤ x ∧ x ≤ 32767
 | .u16, x => 0 ≤ x ∧ x ≤ 65535
 | .i8, x => -128 ≤ x ∧ x ≤ 127
 | .u8, x => 0 ≤ x ∧ x ≤ 255
theorem zCy {k : IntKind} {x : Int} (h : inK k x) : k.wrap x = x := by
 cases k <;> simp only [inK] at h <;> simp only [IntKind.wrap, IntKind.bits, IntKind.signed, Bool.true_and, Bool.false_and, Bool.false_eq_true, if_false, decide_eq_true_eq, ge_iff_le] <;> (try split) <;> omega
def exBin : BinOp → Int → Int → Option Int
 | .add, a, b => some (a + b)
 | .sub, a, b => some (a - b)
 | .mul, a, b => some (a * b)
 | .quo, a, b => some (a.tdiv b)
 | _, _, _ => none
section
variable (P : Program) (T : Par)
def isQuo : BinOp → Bool
 | .quo => true
 | _ => false
def zRm (o : Op) (ty : TypeId) (ρ : Operand → D) (st : List Bk) : Eff := match o with
 | .binOp op t x y u => match ρ x, ρ y with
  | .val (.int k a), .val (.int k' b) => match exBin op a b with
   | some z => if k = k' then .lit (if isQuo op then b ≠ 0 ∧ inK k z else inK k z) (.val (.int k z)) else .bad
   | none => aeff P T (.binOp op t x y u) ty ρ st
  | _, _ => aeff P T (.binOp op t x y u) ty ρ st
 | .unOp .neg t x => match ρ x with
  | .val (.int k a) => .lit (inK k (0 - a)) (.val (.int k (0 - a)))
  | _ => .bad
 | .convert s d x => match P.underlying s, P.underlying d, ρ x with
  | some (.int _), some (.int k), .val (.int _ n) => if T.hv (.convert s d x) then .bad else .lit (inK k n) (.val (.int k n))
  | _, _, _ => aeff P T (.convert s d x) ty ρ st
 | o => aeff P T o ty ρ st
theorem zYg {o : Op} {ty : TypeId} {ρ : Operand → D} {st : List Bk} {p : Prop} {d : D} (h : zRm P T o ty ρ st = .lit p d) (hp : p) : ∃ q, aeff P T o ty ρ st = .lit q d ∧ q := by
 unfold zRm at h
 split at h
 ·rename_i op t x y u
  split at h
  ·rename_i k a k' b hx hy
   split at h
   ·rename_i z hz
    split at h
    ·rename_i hk
     subst hk
     simp only [Eff.lit.injEq] at h
     obtain ⟨rfl, rfl⟩ := h
     cases op <;> simp only [exBin, Option.some.injEq, reduceCtorEq] at hz
     all_goals
      subst hz
      simp only [isQuo, if_true, if_false, Bool.false_eq_true] at hp
     ·exact ⟨True, by simp [aeff, aBin, hx, hy, aInt, zCy hp], trivial⟩
     ·exact ⟨True, by simp [aeff, aBin, hx, hy, aInt, zCy hp], trivial⟩
     ·exact ⟨True, by simp [aeff, aBin, hx, hy, aInt, zCy hp], trivial⟩
     ·exact ⟨b ≠ 0, by simp [aeff, aBin, hx, hy, aInt, zCy hp.2], hp.1⟩
    ·cases h
   ·exact ⟨p, h, hp⟩
  ·exact ⟨p, h, hp⟩
 ·rename_i t x
  split at h
  ·rename_i k a hx
   simp only [Eff.lit.injEq] at h
   obtain ⟨rfl, rfl⟩ := h
   exact ⟨True, by simp only [aeff, hx, aUn, zCy hp], trivial⟩
  ·cases h
 ·rename_i s t x
  split at h
  ·rename_i k0 k k1 n hs hd hx
   split at h
   ·cases h
   ·rename_i hv
    simp only [Eff.lit.injEq] at h
    obtain ⟨rfl, rfl⟩ := h
    exact ⟨True, by simp only [aeff, hv, Bool.false_eq_true, if_false, aConv, hs, hd, hx, zCy hp], trivial⟩
  ·exact ⟨p, h, hp⟩
 ·exact ⟨p, h, hp⟩
theorem zYf {o : Op} {ty : TypeId} {ρ : Operand → D} {st : List Bk} {e : Eff} (h : zRm P T o ty ρ st = e) (hn : ∀ p d, e ≠ .lit p d) (hb : e ≠ .bad) : aeff P T o ty ρ st = e := by
 unfold zRm at h
 (repeat' split at h) <;> first | exact h | (subst h; exact absurd rfl (hn _ _)) | (subst h; exact absurd rfl hb)
def zKs : Op → Bool
 | .move _ | .assign _ | .pick .. | .alloc _ | .box .. | .nilCheck _ => true
 | .binOp op .. => match op with
  | .lss | .leq | .gtr | .geq => true
  | _ => false
 | .unOp .not .. => true
 | .makeInterface .. | .makeFunc .. => true
 | .call { callee := .builtin .len, .. } | .call { callee := .builtin .min, .. } | .call { callee := .builtin .max, .. } => true
 | _ => false
def effP : Eff → Prop
 | .lit p _ | .get p _ | .new p _ _ _ | .put p _ _ _ | .app p _ _ _ => p
 | _ => True
theorem zVx {o : Op} {ty : TypeId} {ρ : Operand → D} {st : List Bk} (h : zKs o = true) : effP (aeff P T o ty ρ st) := by
 unfold zKs at h
 split at h <;> first | cases h | skip
 all_goals simp only [aeff]
 all_goals first
  | trivial
  | ((repeat' split) <;> trivial)
  | skip
 ·rename_i op t x y u
  cases op <;> simp only [Bool.false_eq_true] at h <;> simp only [aBin] <;> (repeat' split) <;> first | trivial | (simp only [aInt]; trivial) | (simp only [aStr]; trivial) | (simp only [aNil]; (repeat' split) <;> trivial) | (simp only [aEqS]; (repeat' split) <;> trivial) | (simp only [zJg]; (repeat' split) <;> trivial) | skip
 ·unfold aUn; (repeat' split) <;> trivial
 ·split
  ·split
   ·unfold zVr; (repeat' split) <;> trivial
   ·unfold aLen; (repeat' split) <;> trivial
  ·trivial
end
section
variable (P : Program) (T : Par)
inductive Gd where
 | bad
 | skip (cs : List Prop) (gs : List (Nat × Bool)) (sl : List D)
 | go (cs : List Prop) (gs : List (Nat × Bool)) (sl : List D)
def assocB (gs : List (Nat × Bool)) (j : Nat) : Option Bool := match gs with
 | [] => none
 | (i, b) :: r => if i == j then some b else assocB r j
def gdec (ops : Array Oper) (o : Oper) (gs : List (Nat × Bool)) (sl : List D) : Gd := match o.guard with
 | none => .go [] gs sl
 | some (j, want) => match (ops[j]?).bind (·.dst) with
  | none => .bad
  | some t => match sl.getD t .unk with
   | .val (.bool b) => match assocB gs j with
    | some g => if g == want then .go [b = g] (gs.filter fun x => x.1 != j) (sl.set t (.val (.bool g))) else .skip [b = g] (gs.filter fun x => x.1 != j) (sl.set t (.val (.bool g)))
    | none => if b == want then .go [] gs sl else .skip [] gs sl
   | .val (.tuple _) => .skip [] gs sl
   | _ => .bad
def memN (l : List Nat) (n : Nat) : Bool := match l with
 | [] => false
 | i :: r => if i == n then true else memN r n
def rawOf (raws : List Nat) (o : Oper) : Bool := match o.dst with
 | some d => memN raws d
 | none => false
def zRl (raws : List Nat) (o : Oper) (sl : List D) (st : List Bk) : Eff := if rawOf raws o then aeff P T o.op o.type (evD sl) st else zRm P T o.op o.type (evD sl) st
def zK4 (o : Op) (p : Prop) : List Prop := if zKs o then [] else [p]
def runL (ops : Array Oper) (raws : List Nat) : List Oper → List (Nat × Bool) → List D → List Bk → Option (List Prop × List D × List Bk)
 | [], _, sl, st => some ([], sl, st)
 | o :: r, gs, sl, st => match gdec ops o gs sl with
  | .bad => none
  | .skip cs gs sl => (runL ops raws r gs (putD sl o.dst (.val undef)) st).map fun x => (cs ++ x.1, x.2)
  | .go cs gs sl => match zRl P T raws o sl st with
   | .lit p d => if zV T o.op then (runL ops raws r gs (putD sl o.dst d) st).map fun x => (cs ++ zK4 o.op p ++ x.1, x.2) else none
   | .get p d => if zV T o.op then none else (runL ops raws r gs (putD sl o.dst d) st).map fun x => (cs ++ zK4 o.op p ++ x.1, x.2)
   | .new p b d fz => if zV T o.op then none else (runL ops raws r gs (putD sl o.dst d) (zAe st fz ++ [b])).map fun x => (cs ++ zK4 o.op p ++ x.1, x.2)
   | .put p k b fz => if isE T o.op then (runL ops raws r gs (putD sl o.dst .unk) ((zAe st fz).set k b)).map fun x => (cs ++ zK4 o.op p ++ x.1, x.2) else none
   | .app p k b d => if isE T o.op && !T.keep k then (runL ops raws r gs (putD (sl.map (zA5 k)) o.dst d) ((st.map (zBy k)).set k b)).map fun x => (cs ++ zK4 o.op p ++ x.1, x.2) else none
   | _ => none
theorem zD9 {sl : List D} {t : Nat} {d : D} (h : sl.getD t .unk = d) (hd : d ≠ .unk) : sl.set t d = sl := by
 subst h
 apply List.ext_getElem?
 intro i
 rw [List.getElem?_set]
 split
 ·rename_i e
  subst e
  rw [List.getD_eq_getElem?_getD] at hd ⊢
  cases h : sl[t]? with
  | none => rw [h] at hd; exact absurd rfl hd
  | some x => simp; rw [List.getElem?_eq_some_iff] at h; exact h.1
 ·rfl
variable {P T}
theorem zE6 {ops : Array Oper} {o : Oper} {gs gs' : List (Nat × Bool)} {sl sl' : List D} {cs : List Prop} (h : gdec ops o gs sl = .go cs gs' sl') (hc : Alls cs) : sl' = sl ∧ ∀ {dr : Bool} {r : List Oper} {st : List Bk} {K : List D → List Bk → Prop}, goW P T ops dr o r sl st K → seqW P T ops dr (o :: r) sl st K := by
 unfold gdec at h
 split at h
 ·rename_i hg
  simp only [Gd.go.injEq] at h
  exact ⟨h.2.2.symm, fun hgo => zCe hg hgo⟩
 ·rename_i j want hg
  split at h
  ·cases h
  ·rename_i t ht
   split at h
   ·rename_i b hb
    have key : b = want → ∀ {dr : Bool} {r : List Oper} {st : List Bk} {K : List D → List Bk → Prop}, goW P T ops dr o r sl st K → seqW P T ops dr (o :: r) sl st K := fun hbw {dr r st K} hgo =>
     zN2 (t := b) hg (by rw [ht]; simp only [Option.map_some, hb]) rfl (fun _ => hgo) (fun hx => by subst hbw; cases b <;> cases hx)
    split at h
    ·rename_i g hgs
     split at h
     ·rename_i hw
      simp only [Gd.go.injEq] at h
      obtain ⟨rfl, _, rfl⟩ := h
      have hbg : b = g := hc
      subst hbg
      exact ⟨zD9 hb (by simp), key (by simpa using hw)⟩
     ·cases h
    ·split at h
     ·rename_i hw
      simp only [Gd.go.injEq] at h
      exact ⟨h.2.2.symm, key (by simpa using hw)⟩
     ·cases h
   ·cases h
   ·cases h
theorem zXh {ops : Array Oper} {o : Oper} {gs gs' : List (Nat × Bool)} {sl sl' : List D} {cs : List Prop} (h : gdec ops o gs sl = .skip cs gs' sl') (hc : Alls cs) : sl' = sl ∧ ∀ {dr : Bool} {r : List Oper} {st : List Bk} {K : List D → List Bk → Prop}, seqW P T ops dr r (putD sl o.dst (.val undef)) st K → seqW P T ops dr (o :: r) sl st K := by
 unfold gdec at h
 split at h
 ·cases h
 ·rename_i j want hg
  split at h
  ·cases h
  ·rename_i t ht
   split at h
   ·rename_i b hb
    have key : b = !want → ∀ {dr : Bool} {r : List Oper} {st : List Bk} {K : List D → List Bk → Prop}, seqW P T ops dr r (putD sl o.dst (.val undef)) st K → seqW P T ops dr (o :: r) sl st K := fun hbw {dr r st K} hgo =>
     zN2 (t := b) hg (by rw [ht]; simp only [Option.map_some, hb]) rfl (fun hx => by subst hx; cases b <;> cases hbw) (fun _ => hgo)
    split at h
    ·rename_i g hgs
     split at h
     ·cases h
     ·rename_i hw
      simp only [Gd.skip.injEq] at h
      obtain ⟨rfl, _, rfl⟩ := h
      have hbg : b = g := hc
      subst hbg
      exact ⟨zD9 hb (by simp), key (by cases b <;> cases want <;> simp at hw ⊢)⟩
    ·split at h
     ·cases h
     ·rename_i hw
      simp only [Gd.skip.injEq] at h
      exact ⟨h.2.2.symm, key (by cases b <;> cases want <;> simp at hw ⊢)⟩
   ·rename_i x hb
    simp only [Gd.skip.injEq] at h
    exact ⟨h.2.2.symm, fun hgo => zY5 (x := x) hg (by rw [ht]; simp only [Option.map_some, hb]) rfl hgo⟩
   ·cases h
theorem zYe {raws : List Nat} {o : Oper} {sl : List D} {st : List Bk} {p : Prop} {d : D} (h : zRl P T raws o sl st = .lit p d) (hp : p) : ∃ q, aeff P T o.op o.type (evD sl) st = .lit q d ∧ q := by
 unfold zRl at h
 split at h
 ·exact ⟨p, h, hp⟩
 ·exact zYg P T h hp
theorem zGz {raws : List Nat} {o : Oper} {sl : List D} {st : List Bk} {e : Eff} (h : zRl P T raws o sl st = e) (hn : ∀ p d, e ≠ .lit p d) (hb : e ≠ .bad) : aeff P T o.op o.type (evD sl) st = e := by
 unfold zRl at h
 split at h
 ·exact h
 ·exact zYf P T h hn hb
theorem zVp {o : Op} {ty : TypeId} {ρ : Operand → D} {st : List Bk} (h : zKs o = true) : effP (zRm P T o ty ρ st) := by
 have h0 := zVx P T (o := o) (ty := ty) (ρ := ρ) (st := st) h
 unfold zRm
 split
 ·rename_i op t x y u
  split
  ·split
   ·rename_i z hz
    cases op <;> simp only [exBin, reduceCtorEq] at hz <;> simp [zKs] at h
   ·exact h0
  ·exact h0
 ·simp [zKs] at h
 ·simp [zKs] at h
 ·exact h0
theorem zK3 {raws : List Nat} {o : Oper} {sl : List D} {st : List Bk} {e : Eff} {p : Prop} (h : zRl P T raws o sl st = e) (he : effP e = p) (hc : Alls (zK4 o.op p)) : p := by
 unfold zK4 at hc
 split at hc
 ·rename_i ht
  rw [← he, ← h]
  unfold zRl
  split
  ·exact zVx P T ht
  ·exact zVp ht
 ·exact hc
theorem zBj {ops : Array Oper} {dr : Bool} {raws : List Nat} {K : List D → List Bk → Prop} : ∀ (l l' : List Oper) (gs : List (Nat × Bool)) (sl : List D) (st : List Bk) (cs : List Prop) (sl' : List D) (st' : List Bk), runL P T ops raws l gs sl st = some (cs, sl', st') → Alls cs → seqW P T ops dr l' sl' st' K → seqW P T ops dr (l ++ l') sl st K
 | [], l', gs, sl, st, cs, sl', st', h, hc, k => by
  simp only [runL, Option.some.injEq, Prod.mk.injEq] at h
  obtain ⟨_, rfl, rfl⟩ := h
  exact k
 | o :: r, l', gs, sl, st, cs, sl', st', h, hc, k => by
  simp only [runL] at h
  split at h
  ·cases h
  ·rename_i c1 gs1 sl1 hg
   simp only [Option.map_eq_some_iff, Prod.exists, Prod.mk.injEq] at h
   obtain ⟨c2, sl2, st2, h1, rfl, rfl, rfl⟩ := h
   obtain ⟨a1, a2⟩ := Alls.app hc
   obtain ⟨rfl, g2⟩ := zXh (P := P) (T := T) hg a1
   exact g2 (zBj r l' _ _ _ _ _ _ h1 a2 k)
  ·rename_i c1 gs1 sl1 hg
   split at h
   ·rename_i p d he
    split at h
    ·rename_i hl
     simp only [Option.map_eq_some_iff, Prod.exists, Prod.mk.injEq] at h
     obtain ⟨c2, sl2, st2, h1, rfl, rfl, rfl⟩ := h
     obtain ⟨a1, a2⟩ := Alls.app hc
     obtain ⟨a1, a3⟩ := Alls.app a1
     obtain ⟨rfl, g2⟩ := zE6 (P := P) (T := T) hg a1
     obtain ⟨q, e1, e2⟩ := zYe he (zK3 he rfl a3)
     exact g2 (zXf e1 hl e2 rfl (zBj r l' _ _ _ _ _ _ h1 a2 k))
    ·cases h
   ·rename_i p d he
    split at h
    ·cases h
    ·rename_i hl
     simp only [Option.map_eq_some_iff, Prod.exists, Prod.mk.injEq] at h
     obtain ⟨c2, sl2, st2, h1, rfl, rfl, rfl⟩ := h
     obtain ⟨a1, a2⟩ := Alls.app hc
     obtain ⟨a1, a3⟩ := Alls.app a1
     obtain ⟨rfl, g2⟩ := zE6 (P := P) (T := T) hg a1
     exact g2 (go_get (zGz he (by simp) (by simp)) (by simpa using hl) (zK3 he rfl a3) rfl (zBj r l' _ _ _ _ _ _ h1 a2 k))
   ·rename_i p b d fz he
    split at h
    ·cases h
    ·rename_i hl
     simp only [Option.map_eq_some_iff, Prod.exists, Prod.mk.injEq] at h
     obtain ⟨c2, sl2, st2, h1, rfl, rfl, rfl⟩ := h
     obtain ⟨a1, a2⟩ := Alls.app hc
     obtain ⟨a1, a3⟩ := Alls.app a1
     obtain ⟨rfl, g2⟩ := zE6 (P := P) (T := T) hg a1
     exact g2 (zXe (zGz he (by simp) (by simp)) (by simpa using hl) (zK3 he rfl a3) rfl rfl (zBj r l' _ _ _ _ _ _ h1 a2 k))
   ·rename_i p n b fz he
    split at h
    ·rename_i hl
     simp only [Option.map_eq_some_iff, Prod.exists, Prod.mk.injEq] at h
     obtain ⟨c2, sl2, st2, h1, rfl, rfl, rfl⟩ := h
     obtain ⟨a1, a2⟩ := Alls.app hc
     obtain ⟨a1, a3⟩ := Alls.app a1
     obtain ⟨rfl, g2⟩ := zE6 (P := P) (T := T) hg a1
     exact g2 (zXd (zGz he (by simp) (by simp)) hl (zK3 he rfl a3) rfl rfl (zBj r l' _ _ _ _ _ _ h1 a2 k))
    ·cases h
   ·rename_i p n b d he
    split at h
    ·rename_i hl
     simp only [Bool.and_eq_true, Bool.not_eq_true'] at hl
     simp only [Option.map_eq_some_iff, Prod.exists, Prod.mk.injEq] at h
     obtain ⟨c2, sl2, st2, h1, rfl, rfl, rfl⟩ := h
     obtain ⟨a1, a2⟩ := Alls.app hc
     obtain ⟨a1, a3⟩ := Alls.app a1
     obtain ⟨rfl, g2⟩ := zE6 (P := P) (T := T) hg a1
     exact g2 (go_app (zGz he (by simp) (by simp)) hl.1 hl.2 (zK3 he rfl a3) rfl rfl (zBj r l' _ _ _ _ _ _ h1 a2 k))
    ·cases h
   ·cases h
end
end
end Go.Proofs.YtmfamhoopjeaiaaDoor

/- A region that draws its order: whatever order is drawn, the walk along the one that was checked serves. -/
import Derived.Test.YtgbhoceamcomfaaGreatAb18
namespace Go.Proofs.YtgbhoceamcomfaaGreat
open Go.RowKit
set_option linter.unusedVariables false
set_option linter.unusedSimpArgs false
section
variable {P : Program} {T : Par} {ops : Array Oper} {ord : List Nat} {W : Nat → Nat → Bool} {S : Nat → List D} {R : Nat → List Bk} {Q : Exit → Act → World → Prop}
/-- In the midst of a region: all before s is done, nothing from t on, and between s and t nothing writes. -/
structure Inv (P : Program) (T : Par) (ops : Array Oper) (ord : List Nat) (S : Nat → List D) (R : Nat → List Bk) (β0 : Be) (I0 : Im) (w0 : World) (df : List Deferred) (s t : Nat) (listed : Array Bool) (a : Act) (w : World) : Prop where
  size : listed.size = ops.size
  cl : Closed .any ops listed
  tn : t ≤ ops.size
  seg : Seg P T ops ord S R s t
  lo : ∀ p i, p < s → ord[p]? = some i → Ls listed i
  hi : ∀ p i, t ≤ p → ord[p]? = some i → ¬ Ls listed i
  atT : t = ops.size ∨ ∃ i o, ord[t]? = some i ∧ ops[i]? = some o ∧ isE T o.op = true
  df : a.defers = df
  ex : ∃ β I SL, RelT I w β SL a.tmps.toList ∧ SL.length = (S s).length ∧
    (∀ x, (∀ p i o, s ≤ p → p < t → ord[p]? = some i → Ls listed i → ops[i]? = some o → o.dst ≠ some x) → SL[x]? = (S s)[x]?) ∧
    (∀ p i o x, s ≤ p → p < t → ord[p]? = some i → Ls listed i → ops[i]? = some o → o.dst = some x → SL[x]? = (S (p + 1))[x]?) ∧
    (∀ k b c, β k = some (b, c) → ∃ e, (R t)[k]? = some e ∧ OwnRel I w β b c e) ∧ Inj β ∧ FZ β I (R t) ∧ ImB I w ∧ (Stp β0 I0 w0 β I w ∧ Kp T β0 β) ∧
    (∀ k x, β k = some x → k < (R s).length ∨ ∃ p i, s ≤ p ∧ p < t ∧ ord[p]? = some i ∧ Ls listed i ∧ (R p).length ≤ k ∧ k < (R (p + 1)).length)
variable {β0 : Be} {I0 : Im} {w0 : World} {df : List Deferred} {s t : Nat} {listed : Array Bool} {a : Act} {w : World}
theorem op_at (F : RegF T ops ord W) {i : Nat} {o : Oper} (ho : ops[i]? = some o) : ord[pos ord i]? = some i ∧ pos ord i < ops.size := by
  have hi : i ∈ ord := (F.mem i).1 (Array.getElem?_eq_some_iff.1 ho).1
  have := pos_get hi
  rw [F.len] at this
  exact this
/-- where a ready operation lies -/
theorem Inv.place (F : RegF T ops ord W) (h : Inv P T ops ord S R β0 I0 w0 df s t listed a w) {i : Nat} (hr : i ∈ Region.ready .any ops listed) : ∃ o, ops[i]? = some o ∧ ord[pos ord i]? = some i ∧ s ≤ pos ord i ∧ (pos ord i < t ∨ pos ord i = t) := by
  obtain ⟨hn, o, ho, hd⟩ := (ready_iff h.size).1 hr
  obtain ⟨hp, hlt⟩ := op_at F ho
  refine ⟨o, ho, hp, ?_, ?_⟩
  · rcases Nat.lt_or_ge (pos ord i) s with h1 | h1
    · exact absurd (h.lo _ i h1 hp) hn
    · exact h1
  · rcases Nat.lt_trichotomy (pos ord i) t with h1 | h1 | h1
    · exact .inl h1
    · exact .inr h1
    · exfalso
      rcases h.atT with h2 | ⟨j, oj, j1, j2, j3⟩
      · omega
      · have hpj : pos ord j = t := pos_eq F.nodup j1
        have hne : j ≠ i := fun e => by rw [e] at hpj; omega
        obtain ⟨d, d1, d2⟩ := F.eff2 j i oj o j2 ho hne j3 (by omega)
        have hod : d < ops.size := by
          have := (F.dep i o ho d d1).1
          have := (Array.getElem?_eq_some_iff.1 ho).1
          omega
        have hpd := pos_get ((F.mem d).1 hod)
        exact h.hi _ d (by omega) hpd.1 (hd d d1)
/-- slots that an operation between s and t looks at -/
theorem Inv.look (F : RegF T ops ord W) (h : Inv P T ops ord S R β0 I0 w0 df s t listed a w) {i : Nat} {o : Oper} (ho : ops[i]? = some o) (hn : ¬ Ls listed i) (hd : ∀ d ∈ deps o, Ls listed d) (h1 : s ≤ pos ord i) (h2 : pos ord i < t) {SL : List D}
    (k1 : SL.length = (S s).length) (k2 : ∀ x, (∀ p i o, s ≤ p → p < t → ord[p]? = some i → Ls listed i → ops[i]? = some o → o.dst ≠ some x) → SL[x]? = (S s)[x]?)
    (k3 : ∀ p i o x, s ≤ p → p < t → ord[p]? = some i → Ls listed i → ops[i]? = some o → o.dst = some x → SL[x]? = (S (p + 1))[x]?) :
    ∀ x ∈ o.looksAt ops, SL.getD x .unk = (S (pos ord i)).getD x .unk := by
  intro x hx
  have goal : SL[x]? = (S (pos ord i))[x]? := by
    by_cases hw : ∃ p j oj, s ≤ p ∧ p < t ∧ ord[p]? = some j ∧ Ls listed j ∧ ops[j]? = some oj ∧ oj.dst = some x
    · obtain ⟨p, j, oj, a1, a2, a3, a4, a5, a6⟩ := hw
      rw [k3 p j oj x a1 a2 a3 a4 a5 a6]
      have hpj : pos ord j = p := pos_eq F.nodup a3
      have hne : i ≠ j := fun e => hn (e ▸ a4)
      have hlt : p < pos ord i := by
        rcases F.haz i j o oj x ho a5 hne a6 hx with hz | hz
        · rcases Nat.lt_or_ge p (pos ord i) with h3 | h3
          · exact h3
          · exfalso
            -- an ancestor lies before
            have anc_pos : ∀ (i : Nat) (o : Oper) (x : Nat), ops[i]? = some o → x < ops.size → W i x = true → pos ord x < pos ord i := by
              intro i
              induction i using Nat.strongRecOn with
              | _ i ih =>
                intro o x ho hx hw
                obtain ⟨d, hd', h1⟩ := F.anc i o x ho hx hw
                have hdp := F.dep i o ho d hd'
                rcases h1 with rfl | h1
                · exact hdp.2
                · have hi := (Array.getElem?_eq_some_iff.1 ho).1
                  have hod : ops[d]? = some ops[d] := by simp [show d < ops.size by omega]
                  have := ih d hdp.1 _ x hod hx h1
                  omega
            have := anc_pos i o j ho (Array.getElem?_eq_some_iff.1 a5).1 hz
            omega
        · exact absurd (anc_listed F h.cl j oj i a5 (Array.getElem?_eq_some_iff.1 ho).1 (closed_deps h.cl a5 a4) hz) hn
      refine ((h.seg.slot' (by omega) (show p + 1 ≤ pos ord i by omega) (by omega)).2 x fun r k ok b1 b2 b3 b4 b5 => ?_).symm
      have hpk : pos ord k = r := pos_eq F.nodup b3
      have hkj : k ≠ j := fun e => by rw [e, hpj] at hpk; omega
      exact F.dst k j ok oj x b4 a5 hkj b5 a6
    · rw [k2 x (fun p j oj a1 a2 a3 a4 a5 a6 => hw ⟨p, j, oj, a1, a2, a3, a4, a5, a6⟩)]
      refine ((h.seg.slot' (Nat.le_refl _) h1 (by omega)).2 x fun r k ok b1 b2 b3 b4 b5 => ?_).symm
      have hpk : pos ord k = r := pos_eq F.nodup b3
      have hne : i ≠ k := fun e => by rw [← e] at hpk; omega
      rcases F.haz i k o ok x ho b4 hne b5 hx with hz | hz
      · have : Ls listed k := anc_listed F h.cl i o k ho (Array.getElem?_eq_some_iff.1 b4).1 hd hz
        exact hw ⟨r, k, ok, b1, by omega, b3, this, b4, b5⟩
      · have anc_pos : ∀ (i : Nat) (o : Oper) (x : Nat), ops[i]? = some o → x < ops.size → W i x = true → pos ord x < pos ord i := by
          intro i
          induction i using Nat.strongRecOn with
          | _ i ih =>
            intro o x ho hx hw
            obtain ⟨d, hd', h1⟩ := F.anc i o x ho hx hw
            have hdp := F.dep i o ho d hd'
            rcases h1 with rfl | h1
            · exact hdp.2
            · have hi := (Array.getElem?_eq_some_iff.1 ho).1
              have hod : ops[d]? = some ops[d] := by simp [show d < ops.size by omega]
              have := ih d hdp.1 _ x hod hx h1
              omega
        have := anc_pos k ok i b4 (Array.getElem?_eq_some_iff.1 ho).1 hz
        omega
  rw [List.getD_eq_getElem?_getD, List.getD_eq_getElem?_getD, goal]
/-- Behind an operation that wrote nothing. -/
theorem Inv.next (F : RegF T ops ord W) (h : Inv P T ops ord S R β0 I0 w0 df s t listed a w) {i : Nat} {o : Oper} (hr : i ∈ Region.ready .any ops listed) (ho : ops[i]? = some o) (h1 : s ≤ pos ord i) (h2 : pos ord i < t) {β : Be} {I : Im} {SL : List D}
    (k0 : RelT I w β SL a.tmps.toList) (k1 : SL.length = (S s).length) (k2 : ∀ x, (∀ p i o, s ≤ p → p < t → ord[p]? = some i → Ls listed i → ops[i]? = some o → o.dst ≠ some x) → SL[x]? = (S s)[x]?)
    (k3 : ∀ p i o x, s ≤ p → p < t → ord[p]? = some i → Ls listed i → ops[i]? = some o → o.dst = some x → SL[x]? = (S (p + 1))[x]?)
    (k4 : ∀ k b c, β k = some (b, c) → ∃ e, (R t)[k]? = some e ∧ OwnRel I w β b c e) (k5 : Inj β) (k6 : FZ β I (R t)) (k7 : ImB I w) (k8 : Stp β0 I0 w0 β I w ∧ Kp T β0 β)
    (k9 : ∀ k x, β k = some x → k < (R s).length ∨ ∃ p i, s ≤ p ∧ p < t ∧ ord[p]? = some i ∧ Ls listed i ∧ (R p).length ≤ k ∧ k < (R (p + 1)).length)
    {d : D} {fz : List Nat} {news : List Bk} {β' : Be} {I' : Im} {w' : World} {v : Value} (e1 : S (pos ord i + 1) = putD (S (pos ord i)) o.dst d) (e2 : R (pos ord i + 1) = setFz (R (pos ord i)) fz ++ news)
    (hout : OutN β I w (R (pos ord i)) news fz β' I' w') (hd : Rel I' w' β' d v) : Inv P T ops ord S R β0 I0 w0 df s t (listed.setIfInBounds i true) (a.put o.dst v) w' := by
  have hisz : i < listed.size := by rw [h.size]; exact (Array.getElem?_eq_some_iff.1 ho).1
  have hls : ∀ j, Ls (listed.setIfInBounds i true) j ↔ j = i ∨ Ls listed j := fun j => ls_set hisz
  have hpi : ord[pos ord i]? = some i := (op_at F ho).1
  have hnl : ¬ Ls listed i := ((ready_iff h.size).1 hr).1
  -- ids of the new blocks are not taken yet
  have hfr : ∀ k, (R (pos ord i)).length ≤ k → k < (R (pos ord i + 1)).length → β k = none := by
    intro k hk1 hk2
    cases hb : β k with
    | none => rfl
    | some x =>
      exfalso
      rcases k9 k x hb with h3 | ⟨p, j, a1, a2, a3, a4, a5, a6⟩
      · have := (h.seg.store' (Nat.le_refl _) h1 (by omega)).1
        omega
      · rcases Nat.lt_trichotomy p (pos ord i) with h3 | h3 | h3
        · have := (h.seg.store' (show s ≤ p + 1 by omega) (show p + 1 ≤ pos ord i by omega) (by omega)).1
          omega
        · subst h3
          rw [hpi] at a3; cases a3
          exact hnl a4
        · have := (h.seg.store' (show s ≤ pos ord i + 1 by omega) (show pos ord i + 1 ≤ p by omega) (by omega)).1
          omega
  have hlen : (R (pos ord i + 1)).length = (R (pos ord i)).length + news.length := by rw [e2, List.length_append, setFz_length]
  have hle : BeLe β β' := fun k x hk => by
    rw [hout.be k ?_]
    · exact hk
    · rcases Nat.lt_or_ge k (R (pos ord i)).length with h3 | h3
      · exact .inl h3
      · rcases Nat.lt_or_ge k (R (pos ord i + 1)).length with h4 | h4
        · rw [hfr k h3 h4] at hk; cases hk
        · exact .inr (by omega)
  have oldlt : ∀ k b c, β k = some (b, c) → b < w.heap.size := fun k b c hk => by
    obtain ⟨e, _, h2⟩ := k4 k b c hk
    exact h2.lt
  -- an id is old, or new
  have cs : ∀ k b c, β' k = some (b, c) → β k = some (b, c) ∨ ((R (pos ord i)).length ≤ k ∧ k < (R (pos ord i)).length + news.length) := by
    intro k b c hk
    rcases Nat.lt_or_ge k (R (pos ord i)).length with h3 | h3
    · left; rw [← hout.be k (.inl h3)]; exact hk
    · rcases Nat.lt_or_ge k ((R (pos ord i)).length + news.length) with h4 | h4
      · exact .inr ⟨h3, h4⟩
      · left; rw [← hout.be k (.inr h4)]; exact hk
  have newE : ∀ k e, (R (pos ord i)).length ≤ k → news[k - (R (pos ord i)).length]? = some e → ∃ e', (R t)[k]? = some e' ∧ SameB e e' := by
    intro k e hk he
    refine (h.seg.store' (show s ≤ pos ord i + 1 by omega) (show pos ord i + 1 ≤ t by omega) (Nat.le_refl _)).2 k e ?_
    rw [e2, List.getElem?_append_right (by rw [setFz_length]; exact hk), setFz_length]
    exact he
  have hstp : Stp β I w β' I' w' := ⟨hout.fix, hout.ext.size, fun b hb _ => Below.block hout.ext b hb, Below.os hout.ext, Below.tape hout.ext, Below.output hout.ext, fun k b c hk => by
      rcases cs k b c hk with h3 | ⟨h3, h4⟩
      · exact .inl ⟨k, c, h3⟩
      · exact .inr (hout.nb k b c h3 h4 hk).1, fun b o' hi => by
      rcases hout.im b o' hi with (hi | ⟨k', _, c', _, m1, _⟩) | hi
      · exact .inl hi
      · exact .inr (.inr ⟨k', c', m1⟩)
      · exact .inr (.inl hi)⟩
  refine ⟨by rw [Array.size_setIfInBounds]; exact h.size, h.cl.set hr, h.tn, h.seg, fun p j hp hj => (hls j).2 (.inr (h.lo p j hp hj)), fun p j hp hj hl => ?_, h.atT, by rw [put_defers]; exact h.df, β', I', putD SL o.dst d, put_rel (RelT.mono hout.fix β β' hle _ _ k0) hd o.dst, by rw [putD_length, k1], fun x hx => ?_, fun p j oj x a1 a2 a3 a4 a5 a6 => ?_, fun k b c hk => ?_, fun k k' b c c' hk hk' => ?_, fun k b c j e hk he hj => ?_, hout.imb k7, ⟨k8.1.trans hstp, k8.2.trans hle.kp⟩, fun k x hk => ?_⟩
  · rcases (hls j).1 hl with rfl | hl
    · have := pos_eq F.nodup hj
      omega
    · exact h.hi p j hp hj hl
  · have hne : o.dst ≠ some x := hx (pos ord i) i o h1 h2 hpi ((hls i).2 (.inl rfl)) ho
    rw [putD_ne hne]
    exact k2 x fun p j oj a1 a2 a3 a4 a5 => hx p j oj a1 a2 a3 ((hls j).2 (.inr a4)) a5
  · rcases (hls j).1 a4 with rfl | a4
    · rw [ho] at a5; cases a5
      have hp := pos_eq F.nodup a3
      subst hp
      rw [e1, a6]
      simp only [putD]
      have hl2 : (S (pos ord j)).length = SL.length := by rw [k1]; exact (h.seg.slot' (Nat.le_refl _) h1 (by omega)).1
      rcases Nat.lt_or_ge x SL.length with h3 | h3
      · rw [List.getElem?_set_self h3, List.getElem?_set_self (by omega)]
      · rw [List.getElem?_eq_none (by simpa using h3), List.getElem?_eq_none (by simp; omega)]
    · have hne : o.dst ≠ some x := fun e => F.dst j i oj o x a5 ho (fun e => hnl (e ▸ a4)) a6 e
      rw [putD_ne hne]
      exact k3 p j oj x a1 a2 a3 a4 a5 a6
  · rcases cs k b c hk with h3 | ⟨h3, h4⟩
    · obtain ⟨e, m1, m2⟩ := k4 k b c h3
      exact ⟨e, m1, OwnRel.mono m2 (Below.block hout.ext b (oldlt k b c h3)) hout.fix hle⟩
    · obtain ⟨_, e, m1, m2, _⟩ := hout.nb k b c h3 h4 hk
      obtain ⟨e', n1, n2⟩ := newE k e h3 m1
      exact ⟨e', n1, (OwnRel.same n2).1 m2⟩
  · rcases cs k b c hk with h3 | ⟨h3, h4⟩ <;> rcases cs k' b c' hk' with h5 | ⟨h5, h6⟩
    · exact k5 k k' b c c' h3 h5
    · have := oldlt _ _ _ h3
      have := (hout.nb k' b c' h5 h6 hk').1
      omega
    · have := oldlt _ _ _ h5
      have := (hout.nb k b c h3 h4 hk).1
      omega
    · exact hout.inj k k' b c c' h3 h4 h5 h6 hk hk'
  · rcases cs k b c hk with h3 | ⟨h3, h4⟩
    · have hlt := oldlt _ _ _ h3
      rcases hout.im b j hj with (hi | ⟨k', hk', c', e', m1, m2, m3⟩) | hi
      · exact k6 k b c j e h3 he hi
      · have := k5 k' k b c' c m1 h3
        subst this
        obtain ⟨e1', n1, n2⟩ := (h.seg.store' (show s ≤ pos ord i + 1 by omega) (show pos ord i + 1 ≤ t by omega) (Nat.le_refl _)).2 k' { e' with fz := true } (by
          rw [e2, List.getElem?_append_left (by rw [setFz_length]; exact (List.getElem?_eq_some_iff.1 m2).1), setFz_get, m2]
          simp [hk'])
        rw [he] at n1; cases n1
        exact ⟨n2.2.2.2.2 rfl, by rw [n2.1]; exact m3⟩
      · omega
    · obtain ⟨_, e', m1, _, m3⟩ := hout.nb k b c h3 h4 hk
      obtain ⟨e'', n1, n2⟩ := newE k e' h3 m1
      rw [he] at n1; cases n1
      exact ⟨n2.2.2.2.2 (m3 j hj).1, by rw [n2.1]; exact (m3 j hj).2⟩
  · obtain ⟨b, c⟩ := x
    rcases cs k b c hk with h3 | ⟨h3, h4⟩
    · rcases k9 k _ h3 with h5 | ⟨p, j, a1, a2, a3, a4, a5⟩
      · exact .inl h5
      · exact .inr ⟨p, j, a1, a2, a3, (hls j).2 (.inr a4), a5⟩
    · exact .inr ⟨pos ord i, i, h1, h2, hpi, (hls i).2 (.inl rfl), h3, by omega⟩
/-- All up to t is done: the frame means the data there. -/
theorem Inv.full (F : RegF T ops ord W) (h : Inv P T ops ord S R β0 I0 w0 df s t listed a w) (hall : ∀ p i, p < t → ord[p]? = some i → Ls listed i) : ∃ β I, Sim β I w (S t) (R t) a.tmps.toList ∧ Stp β0 I0 w0 β I w ∧ Kp T β0 β := by
  obtain ⟨β, I, SL, k0, k1, k2, k3, k4, k5, k6, k7, k8, k9⟩ := h.ex
  have hSL : SL = S t := by
    apply List.ext_getElem?
    intro x
    by_cases hw : ∃ p j oj, s ≤ p ∧ p < t ∧ ord[p]? = some j ∧ Ls listed j ∧ ops[j]? = some oj ∧ oj.dst = some x
    · obtain ⟨p, j, oj, a1, a2, a3, a4, a5, a6⟩ := hw
      rw [k3 p j oj x a1 a2 a3 a4 a5 a6]
      have hpj : pos ord j = p := pos_eq F.nodup a3
      refine ((h.seg.slot' (by omega) (show p + 1 ≤ t by omega) (Nat.le_refl _)).2 x fun r k ok b1 b2 b3 b4 b5 => ?_).symm
      have hpk : pos ord k = r := pos_eq F.nodup b3
      have hkj : k ≠ j := fun e => by rw [e, hpj] at hpk; omega
      exact F.dst k j ok oj x b4 a5 hkj b5 a6
    · rw [k2 x (fun p j oj a1 a2 a3 a4 a5 a6 => hw ⟨p, j, oj, a1, a2, a3, a4, a5, a6⟩)]
      refine ((h.seg.slot' (Nat.le_refl _) h.seg.le (Nat.le_refl _)).2 x fun r k ok b1 b2 b3 b4 b5 => ?_).symm
      exact hw ⟨r, k, ok, b1, b2, b3, hall r k b2 b3, b4, b5⟩
  refine ⟨β, I, ⟨hSL ▸ k0, k4, k5, k6, fun k x hk => ?_, k7⟩, k8⟩
  rcases k9 k x hk with h3 | ⟨p, j, a1, a2, a3, a4, a5, a6⟩
  · have := (h.seg.store' (Nat.le_refl _) h.seg.le (Nat.le_refl _)).1
    omega
  · have := (h.seg.store' (show s ≤ p + 1 by omega) (show p + 1 ≤ t by omega) (Nat.le_refl _)).1
    omega
/-- The next segment. -/
theorem next_seg (htr : ∀ (p : Nat) i o, ord[p]? = some i → ops[i]? = some o → StepOK P T ops o (S p) (R p) (Eqs (S (p + 1)) (R (p + 1)))) (hop : ∀ p, p < ops.size → ∃ i o, ord[p]? = some i ∧ ops[i]? = some o) :
    ∀ n s, s + n = ops.size → ∃ t, t ≤ ops.size ∧ Seg P T ops ord S R s t ∧ (t = ops.size ∨ ∃ i o, ord[t]? = some i ∧ ops[i]? = some o ∧ isE T o.op = true) := by
  intro n
  induction n with
  | zero => intro s hs; exact ⟨s, by omega, ⟨Nat.le_refl _, fun p h1 h2 => by omega⟩, .inl (by omega)⟩
  | succ n ih =>
    intro s hs
    obtain ⟨i, o, h1, h2⟩ := hop s (by omega)
    cases hE : isE T o.op with
    | true => exact ⟨s, by omega, ⟨Nat.le_refl _, fun p h1 h2 => by omega⟩, .inr ⟨i, o, h1, h2, hE⟩⟩
    | false =>
      obtain ⟨t, t1, t2, t3⟩ := ih (s + 1) (by omega)
      refine ⟨t, t1, ⟨by have := t2.le; omega, fun p p1 p2 => ?_⟩, t3⟩
      rcases Nat.eq_or_lt_of_le p1 with rfl | p1
      · exact ⟨i, o, h1, h2, hE, htr _ i o h1 h2⟩
      · exact t2.step p p1 p2
end
end Go.Proofs.YtgbhoceamcomfaaGreat

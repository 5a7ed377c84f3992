/- Regions and code: the walk over data is the model's. -/
import Derived.Test.YtgbhoceamcomfaaGreatAb19
namespace Go.Proofs.YtgbhoceamcomfaaGreat
open Go.RowKit
set_option linter.unusedVariables false
set_option linter.unusedSimpArgs false
section
variable {P : Program} {T : Par} {ops : Array Oper} {ord : List Nat} {W : Nat → Nat → Bool} {S : Nat → List D} {R : Nat → List Bk} {Q : Exit → Act → World → Prop} {K : List D → List Bk → Prop}
variable {β0 : Be} {I0 : Im} {w0 : World} {df : List Deferred}
theorem count_set {l : List Bool} {i : Nat} (h : l[i]? = some false) : (l.set i true).count false + 1 = l.count false := by
  induction l generalizing i with
  | nil => simp at h
  | cons b l ih =>
    cases i with
    | zero => simp at h; subst h; simp
    | succ i =>
      have := ih (i := i) (by simpa using h)
      cases b <;> simp at this ⊢ <;> omega
theorem any_sound (hM : MethOk P T) (F : RegF T ops ord W) (hS : ops.size = ord.length) (htr : ∀ (p : Nat) i o, ord[p]? = some i → ops[i]? = some o → StepOK P T ops o (S p) (R p) (Eqs (S (p + 1)) (R (p + 1)))) (hK : K (S ops.size) (R ops.size))
    (hP : ∀ c a w, ¬ Q (.panic c) a w) (hQ : ∀ a' w', After T K β0 I0 w0 df a' w' → Q .normal a' w') :
    ∀ (fuel : Nat) (listed : Array Bool) (a : Act) (w : World) (s t : Nat), Inv P T ops ord S R β0 I0 w0 df s t listed a w → listed.toList.count false ≤ fuel → wpAny P .any ops Q fuel listed a w := by
  have hop : ∀ p, p < ops.size → ∃ i o, ord[p]? = some i ∧ ops[i]? = some o := fun p hp => by
    have h1 : p < ord.length := by omega
    refine ⟨ord[p], ops[ord[p]]'((F.mem _).2 (List.getElem_mem h1)), List.getElem?_eq_getElem h1, by simp [(F.mem _).2 (List.getElem_mem h1)]⟩
  have finish : ∀ (listed : Array Bool) (a : Act) (w : World) (s t : Nat), Inv P T ops ord S R β0 I0 w0 df s t listed a w → Region.ready .any ops listed = [] → Q .normal a w := by
    intro listed a w s t h hr
    have hall : ∀ i, i < ops.size → Ls listed i := by
      intro i
      induction i using Nat.strongRecOn with
      | _ i ih =>
        intro hi
        by_cases hl : Ls listed i
        · exact hl
        · exfalso
          have : i ∈ Region.ready .any ops listed := (ready_iff h.size).2 ⟨hl, ops[i], by simp [hi], fun d hd => by
            have := (F.dep i ops[i] (by simp [hi]) d hd).1
            exact ih d this (by omega)⟩
          rw [hr] at this; cases this
    have ht : t = ops.size := by
      rcases h.atT with h1 | ⟨i, o, h1, h2, h3⟩
      · exact h1
      · exact absurd (hall i (Array.getElem?_eq_some_iff.1 h2).1) (h.hi t i (Nat.le_refl _) h1)
    subst ht
    obtain ⟨β, I, k1, k2, k3⟩ := h.full F fun p i hp hi => hall i ((F.mem i).2 (List.mem_of_getElem? hi))
    exact hQ a w ⟨_, _, β, I, hK, k1, k2, h.df, k3⟩
  intro fuel
  induction fuel with
  | zero =>
    intro listed a w s t h hc
    have hr : Region.ready .any ops listed = [] := by
      cases hx : Region.ready .any ops listed with
      | nil => rfl
      | cons i l =>
        exfalso
        have hi : i ∈ Region.ready .any ops listed := by rw [hx]; simp
        obtain ⟨hn, o, ho, _⟩ := (ready_iff h.size).1 hi
        have hlt : i < listed.size := by rw [h.size]; exact (Array.getElem?_eq_some_iff.1 ho).1
        have : listed.toList[i]? = some false := by
          unfold Ls at hn
          simp [hlt] at hn ⊢; exact hn
        have := List.count_pos_iff.2 (List.mem_of_getElem? this)
        omega
    exact ⟨hr, finish listed a w s t h hr⟩
  | succ fuel ih =>
    intro listed a w s t h hc
    have hcount : ∀ i, i ∈ Region.ready .any ops listed → (listed.setIfInBounds i true).toList.count false ≤ fuel := by
      intro i hi
      obtain ⟨hn, o, ho, _⟩ := (ready_iff h.size).1 hi
      have hlt : i < listed.size := by rw [h.size]; exact (Array.getElem?_eq_some_iff.1 ho).1
      have h1 : listed.toList[i]? = some false := by
        unfold Ls at hn
        simp [hlt] at hn ⊢; exact hn
      have := count_set h1
      rw [Array.toList_setIfInBounds]
      omega
    by_cases hlight : ∃ i o, i ∈ Region.ready .any ops listed ∧ ops[i]? = some o ∧ isLight o.op = true
    · obtain ⟨i, o, hi, ho, hl⟩ := hlight
      obtain ⟨o', ho', hpi, hp1, hp2⟩ := h.place F hi
      rw [ho] at ho'; cases ho'
      obtain ⟨hn, o2, ho2, hd⟩ := (ready_iff h.size).1 hi
      rw [ho] at ho2; cases ho2
      have hElight : isE T o.op = false := by
        revert hl
        cases o.op <;> simp [isLight, isE]
        rename_i c
        obtain ⟨callee, args, ts⟩ := c
        cases callee with
        | value f => simp
        | invoke r n => simp
        | builtin b => cases b <;> simp
      have hlt : pos ord i < t := by
        rcases hp2 with h1 | h1
        · exact h1
        · exfalso
          rcases h.atT with h2 | ⟨j, oj, j1, j2, j3⟩
          · have := (op_at F ho).2; omega
          · rw [← h1, hpi] at j1; cases j1
            rw [ho] at j2; cases j2
            rw [hElight] at j3; cases j3
      obtain ⟨β, I, SL, k0, k1, k2, k3, k4, k5, k6, k7, k8, k9⟩ := h.ex
      have hlook := h.look F ho hn hd hp1 hlt k1 k2 k3
      have hst := step_N hElight (htr (pos ord i) i o hpi ho)
      rcases hst with ⟨g1, d, fz, news, n1, n2, n3⟩ | ⟨g1, n2, n3⟩
      · obtain ⟨rfl, rfl, v, v1, v2⟩ := (n1.look hlook).light hl k0
        have hw := gv_sound (ops := ops) k0 ((gv_look hlook).trans g1)
        have hinv := h.next F hi ho hp1 hlt k0 k1 k2 k3 k4 k5 k6 k7 k8 k9 n2 n3 (OutN.stay β I w _) v2
        refine wpAny_first ho (Region.noSelect_spec F.nosel) (fun c a w hx => absurd hx (hP c _ _)) fuel listed a w (fun j oj hj hne hun hno => ?_) hi (.inl ⟨hw, v1⟩) (ih _ _ _ s t hinv (hcount i hi))
        rcases F.lig i j o oj ho hj (Ne.symm hne) hl with h1 | h1 | h1
        · exact h1
        · obtain ⟨e, e1, e2, e3⟩ := mem_deps.1 h1
          exact absurd e3 (hno e e1 e2)
        · exfalso
          have := anc_listed F h.cl i o j ho (Array.getElem?_eq_some_iff.1 hj).1 hd h1
          unfold Ls at this
          have hjl : j < listed.size := by rw [h.size]; exact (Array.getElem?_eq_some_iff.1 hj).1
          simp [hjl] at this hun
          rw [this] at hun; cases hun
      · have hw := gv_sound (ops := ops) k0 ((gv_look hlook).trans g1)
        have hinv := h.next (fz := []) (news := []) F hi ho hp1 hlt k0 k1 k2 k3 k4 k5 k6 k7 k8 k9 n2 (by rw [n3]; simp [setFz]) (OutN.stay β I w _) (Rel.valI undef)
        refine wpAny_first ho (Region.noSelect_spec F.nosel) (fun c a w hx => absurd hx (hP c _ _)) fuel listed a w (fun j oj hj hne hun hno => ?_) hi (.inr ⟨hw, rfl⟩) (ih _ _ _ s t hinv (hcount i hi))
        rcases F.lig i j o oj ho hj (Ne.symm hne) hl with h1 | h1 | h1
        · exact h1
        · obtain ⟨e, e1, e2, e3⟩ := mem_deps.1 h1
          exact absurd e3 (hno e e1 e2)
        · exfalso
          have := anc_listed F h.cl i o j ho (Array.getElem?_eq_some_iff.1 hj).1 hd h1
          unfold Ls at this
          have hjl : j < listed.size := by rw [h.size]; exact (Array.getElem?_eq_some_iff.1 hj).1
          simp [hjl] at this hun
          rw [this] at hun; cases hun
    · refine ⟨finish listed a w s t h, fun i hi => ?_⟩
      obtain ⟨o, ho, hpi, hp1, hp2⟩ := h.place F hi
      obtain ⟨hn, o2, ho2, hd⟩ := (ready_iff h.size).1 hi
      rw [ho] at ho2; cases ho2
      have hl : isLight o.op = false := by
        cases hx : isLight o.op with
        | false => rfl
        | true => exact absurd ⟨i, o, hi, ho, hx⟩ hlight
      rcases hp2 with hlt | hpt
      · have hE : isE T o.op = false := by
          obtain ⟨j, oj, j1, j2, j3, _⟩ := h.seg.step _ hp1 hlt
          rw [hpi] at j1; cases j1
          rw [ho] at j2; cases j2
          exact j3
        obtain ⟨β, I, SL, k0, k1, k2, k3, k4, k5, k6, k7, k8, k9⟩ := h.ex
        have hlook := h.look F ho hn hd hp1 hlt k1 k2 k3
        have hst := step_N hE (htr (pos ord i) i o hpi ho)
        unfold wpOp
        simp only [ho]
        rcases hst with ⟨g1, d, fz, news, n1, n2, n3⟩ | ⟨g1, n2, n3⟩
        · rw [if_pos (gv_sound (ops := ops) k0 ((gv_look hlook).trans g1))]
          have hsr : SRw β I w (R (pos ord i)) := fun k b c e hk he => by
            obtain ⟨e', m1, m2⟩ := k4 k b c hk
            obtain ⟨e'', n1, n2⟩ := (h.seg.store' hp1 (Nat.le_of_lt hlt) (Nat.le_refl _)).2 k e he
            rw [m1] at n1; cases n1
            exact (OwnRel.same n2).2 m2
          have hfr : ∀ j, j < news.length → β ((R (pos ord i)).length + j) = none := by
            intro j hj
            cases hb : β ((R (pos ord i)).length + j) with
            | none => rfl
            | some x =>
              exfalso
              have hlen : (R (pos ord i + 1)).length = (R (pos ord i)).length + news.length := by rw [n3, List.length_append, setFz_length]
              rcases k9 _ x hb with h3 | ⟨p, j', a1, a2, a3, a4, a5, a6⟩
              · have := (h.seg.store' (Nat.le_refl _) hp1 (by omega)).1
                omega
              · rcases Nat.lt_trichotomy p (pos ord i) with h3 | h3 | h3
                · have := (h.seg.store' (show s ≤ p + 1 by omega) (show p + 1 ≤ pos ord i by omega) (by omega)).1
                  omega
                · subst h3
                  rw [hpi] at a3; cases a3
                  exact hn a4
                · have := (h.seg.store' (show s ≤ pos ord i + 1 by omega) (show pos ord i + 1 ≤ p by omega) (by omega)).1
                  omega
          refine .inl (Oper.wp_mono (fun a' w' hx => ?_) ((n1.look hlook).heavy hM hl k0 hsr k7 hfr Q))
          obtain ⟨v, β', I', rfl, o1, o2⟩ := hx
          exact ih _ _ _ s t (h.next F hi ho hp1 hlt k0 k1 k2 k3 k4 k5 k6 k7 k8 k9 n2 n3 o1 o2) (hcount i hi)
        · rw [if_neg (by rw [gv_sound (ops := ops) k0 ((gv_look hlook).trans g1)]; simp)]
          exact ih _ _ _ s t (h.next (fz := []) (news := []) F hi ho hp1 hlt k0 k1 k2 k3 k4 k5 k6 k7 k8 k9 n2 (by rw [n3]; simp [setFz]) (OutN.stay β I w _) (Rel.valI undef)) (hcount i hi)
      · have hE : isE T o.op = true := by
          rcases h.atT with h1 | ⟨j, oj, j1, j2, j3⟩
          · have := (op_at F ho).2; omega
          · rw [← hpt, hpi] at j1; cases j1
            rw [ho] at j2; cases j2
            exact j3
        have hheavy : ∀ x ox, ops[x]? = some ox → pos ord x < t → isLight ox.op = false → Ls listed x := by
          intro x ox hx hp hlx
          have hne : i ≠ x := fun e => by rw [← e] at hp; omega
          rcases F.eff1 i x o ox ho hx hne hE (by omega) with h1 | h1
          · rw [hlx] at h1; cases h1
          · exact anc_listed F h.cl i o x ho (Array.getElem?_eq_some_iff.1 hx).1 hd h1
        have hallL : ∀ x ox, ops[x]? = some ox → pos ord x < t → Ls listed x := by
          intro x
          induction x using Nat.strongRecOn with
          | _ x ihx =>
            intro ox hx hp
            cases hlx : isLight ox.op with
            | false => exact hheavy x ox hx hp hlx
            | true =>
              by_cases hls : Ls listed x
              · exact hls
              · exfalso
                refine hlight ⟨x, ox, (ready_iff h.size).2 ⟨hls, ox, hx, fun d hd' => ?_⟩, hx, hlx⟩
                have h1 := F.dep x ox hx d hd'
                have hxs := (Array.getElem?_eq_some_iff.1 hx).1
                exact ihx d h1.1 ops[d] (by simp [show d < ops.size by omega]) (by omega)
        have hall : ∀ p j, p < t → ord[p]? = some j → Ls listed j := fun p j hp hj => by
          have hjm := (F.mem j).2 (List.mem_of_getElem? hj)
          exact hallL j ops[j] (by simp [hjm]) (by rw [pos_eq F.nodup hj]; exact hp)
        obtain ⟨β, I, sim, stp, kp⟩ := h.full F hall
        have htlt : t < ops.size := by rw [← hpt]; exact (op_at F ho).2
        obtain ⟨t', t1, t2, t3⟩ := next_seg (P := P) (T := T) htr hop (ops.size - (t + 1)) (t + 1) (by omega)
        have hls : ∀ j, Ls (listed.setIfInBounds i true) j ↔ j = i ∨ Ls listed j := fun j => ls_set (by rw [h.size]; exact (Array.getElem?_eq_some_iff.1 ho).1)
        have hpi' : ord[t]? = some i := hpt ▸ hpi
        have cont : ∀ a' w' β' I', Sim β' I' w' (S (t + 1)) (R (t + 1)) a'.tmps.toList → Stp β I w β' I' w' → a'.defers = a.defers → Kp T β β' → wpAny P .any ops Q fuel (listed.setIfInBounds i true) a' w' := by
          intro a' w' β' I' q1 q2 q3 q4
          refine ih _ _ _ (t + 1) t' ⟨by rw [Array.size_setIfInBounds]; exact h.size, h.cl.set hi, t1, t2, fun p j hp hj => (hls j).2 ?_, fun p j hp hj hl' => ?_, t3, q3.trans h.df, β', I', S (t + 1), q1.rel, rfl, fun x _ => rfl, fun p j oj x a1 a2 a3 a4 a5 a6 => ?_, fun k b c hk => ?_, q1.inj, fun k b c j e hk he hj => ?_, q1.imb, ⟨stp.trans q2, kp.trans q4⟩, fun k x hk => .inl (q1.dom k x hk)⟩ (hcount i hi)
          · rcases Nat.lt_or_ge p t with h5 | h5
            · exact .inr (hall p j h5 hj)
            · have : p = t := by omega
              subst this
              rw [hpi'] at hj; cases hj
              exact .inl rfl
          · have := t2.le
            rcases (hls j).1 hl' with rfl | h5
            · have := pos_eq F.nodup hj; omega
            · exact h.hi p j (by omega) hj h5
          · exfalso
            rcases (hls j).1 a4 with rfl | h5
            · have := pos_eq F.nodup a3; omega
            · exact h.hi p j (by omega) a3 h5
          · obtain ⟨e, m1, m2⟩ := q1.sr k b c hk
            obtain ⟨e', n1, n2⟩ := (t2.store' (Nat.le_refl _) t2.le (Nat.le_refl _)).2 k e m1
            exact ⟨e', n1, (OwnRel.same n2).1 m2⟩
          · obtain ⟨e0, m1, m2⟩ := q1.sr k b c hk
            obtain ⟨e', n1, n2⟩ := (t2.store' (Nat.le_refl _) t2.le (Nat.le_refl _)).2 k e0 m1
            rw [he] at n1; cases n1
            have := q1.fz k b c j e0 hk m1 hj
            exact ⟨n2.2.2.2.2 this.1, by rw [n2.1]; exact this.2⟩
        have hst := htr t i o hpi' ho
        unfold wpOp
        simp only [ho]
        rcases guard_sound (ops := ops) (N := Eqs (S (t + 1)) (R (t + 1))) sim hst with ⟨g1, g2⟩ | ⟨g1, g2, g3⟩
        · rw [if_pos g1]
          refine .inl (Oper.wp_mono (fun a' w' hx => ?_) (effW_sound hM o g2 sim Q))
          obtain ⟨sl', st', β', I', ⟨rfl, rfl⟩, q2, q3, q4, q5⟩ := hx
          exact cont a' w' β' I' q2 q3 q4 q5
        · rw [if_neg (by simp [g1])]
          refine cont _ _ β I ?_ (Stp.refl _ _ _) (put_defers _ _ _) (Kp.refl _ _)
          rw [← g2, ← g3]
          exact sim.skip o.dst
/-- A REGION THAT DRAWS ITS ORDER. -/
theorem drawn_sound (hM : MethOk P T) (hm : P.follows .mixedOrders = true) {id : Nat} {sl : List D} {st : List Bk} {β : Be} {I : Im} {a : Act} {w : World} (hok : regOk T ops ord = true) (hq : seqW P T ops true (ord.map fun i => ops.getD i default) sl st K) (h : Sim β I w sl st a.tmps.toList)
    (hP : ∀ c a w, ¬ Q (.panic c) a w) (hQ : ∀ a' w', After T K β I w a.defers a' w' → Q .normal a' w') : (Code.region id ops true).wp P Q a w := by
  have F := RegF.of hok
  obtain ⟨S, R, s1, s2, s3, s4⟩ := trace _ sl st K hq
  rw [List.length_map, F.len] at s3
  have htr : ∀ (p : Nat) i o, ord[p]? = some i → ops[i]? = some o → StepOK P T ops o (S p) (R p) (Eqs (S (p + 1)) (R (p + 1))) := fun p i o hp ho => by
    refine s4 p o ?_
    rw [List.getElem?_map, hp]
    obtain ⟨k1, k2⟩ := Array.getElem?_eq_some_iff.1 ho
    simp [k1, k2]
  have hop : ∀ p, p < ops.size → ∃ i o, ord[p]? = some i ∧ ops[i]? = some o := fun p hp => by
    have h1 : p < ord.length := by rw [F.len]; exact hp
    refine ⟨ord[p], ops[ord[p]]'((F.mem _).2 (List.getElem_mem h1)), List.getElem?_eq_getElem h1, by simp [(F.mem _).2 (List.getElem_mem h1)]⟩
  obtain ⟨t, t1, t2, t3⟩ := next_seg (P := P) (T := T) htr hop ops.size 0 (by omega)
  refine wp_region_any hm ?_
  have hfix : Fix I w I { w with drawn := w.drawn + 1 } := fun b o hi => ⟨hi, fun v hv => hv⟩
  refine any_sound (β0 := β) (I0 := I) (w0 := w) (df := a.defers) hM F F.len.symm htr s3 hP hQ ops.size _ a _ 0 t ⟨by simp, ?_, t1, t2, fun p i hp => by omega, fun p i _ _ hl => ?_, t3, rfl, β, I, S 0, ?_, rfl, fun x _ => rfl, fun p i o x _ _ _ hl => ?_, fun k b c hk => ?_, h.inj, fun k b c j e hk he hj => ?_, h.imb, ?_, fun k x hk => .inl (by rw [s2]; exact h.dom k x hk)⟩ ?_
  · intro k ok _ hl
    exfalso
    revert hl
    simp only [Array.getD_eq_getD_getElem?, Array.getElem?_replicate]
    split <;> simp
  · revert hl
    unfold Ls
    simp only [Array.getD_eq_getD_getElem?, Array.getElem?_replicate]
    split <;> simp
  · rw [s1]; exact RelT.mono hfix _ _ (BeLe.refl _) _ _ h.rel
  · exfalso
    revert hl
    unfold Ls
    simp only [Array.getD_eq_getD_getElem?, Array.getElem?_replicate]
    split <;> simp
  · obtain ⟨e, m1, m2⟩ := h.sr k b c hk
    rw [← s2] at m1
    obtain ⟨e', n1, n2⟩ := (t2.store' (Nat.le_refl _) t2.le (Nat.le_refl _)).2 k e m1
    refine ⟨e', n1, (OwnRel.same n2).1 (OwnRel.mono m2 rfl hfix (BeLe.refl _))⟩
  · obtain ⟨e0, m1, m2⟩ := h.sr k b c hk
    have m1' := m1
    rw [← s2] at m1
    obtain ⟨e', n1, n2⟩ := (t2.store' (Nat.le_refl _) t2.le (Nat.le_refl _)).2 k e0 m1
    rw [he] at n1; cases n1
    have := h.fz k b c j e0 hk m1' hj
    exact ⟨n2.2.2.2.2 this.1, by rw [n2.1]; exact this.2⟩
  · exact ⟨⟨hfix, Nat.le_refl _, fun _ _ _ => rfl, rfl, rfl, rfl, fun k b c hk => .inl ⟨k, c, hk⟩, fun _ _ h => .inl h⟩, Kp.refl _ _⟩
  · simp
end
end Go.Proofs.YtgbhoceamcomfaaGreat

/- Steps of the walk in batches: regions, calls, conditions, results, joins. -/
import Derived.Test.YtgbhoceamcomfaaAb27
namespace Go.Proofs.Ytgbhoceamcomfaa
open Go.RowKit
set_option linter.unusedVariables false
set_option linter.unusedSimpArgs false
section
variable {P : Program} {T : Par}
theorem LeD.trans {a b c : D} (h : LeD a b) (k : LeD b c) : LeD a c := fun I w β v hv => k I w β v (h I w β v hv)
theorem LeL.trans {a b c : List D} (h : LeL a b) : LeL b c → LeL a c := by
  induction h generalizing c with
  | nil => exact fun h => h
  | cons h1 _ ih =>
    intro k
    cases k with
    | cons k1 k2 => exact .cons (h1.trans k1) (ih k2)
theorem nilRows_le : ∀ ds : List D, LeL ds (nilRows ds)
  | [] => .nil
  | d :: ds => .cons (nilRow_le d) (nilRows_le ds)
theorem LeL.set (sl : List D) (i : Nat) : LeL sl (sl.set i .unk) := by
  induction sl generalizing i with
  | nil => exact .nil
  | cons d ds ih =>
    cases i with
    | zero => exact .cons (.unk _) (.refl _)
    | succ i => exact .cons (.refl _) (ih i)
theorem LeL.dead (dead : List Nat) : ∀ sl : List D, LeL sl (deadS sl dead) := by
  induction dead with
  | nil => exact fun sl => .refl sl
  | cons i r ih => exact fun sl => (LeL.set sl i).trans (ih _)
/-- a result in a new own array, as a row that no one writes any more -/
theorem Pure.frozen {f : FuncId} {args : List D} {b : Bk} {n m : Nat} {wh : Bool} {cs : List D} (h : Pure P f args [b] (.osl 0 0 n m wh)) (hb : b.arr = true) (hc : b.cells.take m = cs) : Pure P f args [] (.row cs n) := by
  intro I w vs hr hi
  refine (h I w vs hr hi).mono ?_
  rintro e w' ⟨v, I', γ, he, h1, h2, h3, h4, h5, h6, h7, h8, h9, h10, h11⟩
  have hs : Sim γ I' w' [.osl 0 0 n m wh] [b] [v] := ⟨by simp only [RelT]; exact ⟨v, [], rfl, h10, rfl⟩, h6, h7, h8, h9, h2⟩
  have hf : frz true [b] frzDepth (.osl 0 0 n m wh) = some (.row cs n, [0]) := by simp [frz, frzDepth, hb, hc]
  have h12 := frz_sound hs.sr.weak _ _ _ _ _ hf h10
  refine ⟨v, fixI I' γ [b] [0], noB, he, h1, fixI_lt hs.sr.weak h2 [0], h3.trans (fixI_le [0]), fun x o hx => ?_, fun k b c h => (by cases h), fun k b c h => (by cases h), fun k k' b c c' h => (by cases h), fun k b c j e h => (by cases h), fun k y h => (by cases h), h12, by simp⟩
  rcases hx with hx | ⟨k, _, c, e, hk, _⟩
  · exact h4 x o hx
  · exact .inr (h5 k x c hk)
theorem Pure.le {f : FuncId} {args args' : List D} {news : List Bk} {x : D} (h : Pure P f args' news x) (ha : LeL args args') : Pure P f args news x := fun I w vs hr hi => h I w vs (ha.rel hr) hi
theorem Acts.le {f : FuncId} {args args' : List D} {st st' : List Bk} {x : D} {ch : List Nat} (h : Acts P f args' st ch x st') (ha : LeL args args') : Acts P f args st ch x st' := fun β I w vs hr => h β I w vs (ha.rel hr)
section
variable {ops : Array Oper} {dr : Bool} {l : List Oper} {sl : List D} {st : List Bk} {K : List D → List Bk → Prop}
theorem st_run (n : Nat) (raws : List Nat) (gs : List (Nat × Bool)) (C : Prop) (ch : List (Nat × D)) (st' : List Bk) (h : (runL P T ops raws (l.take n) gs sl st).map (fun x => (Alls x.1, x.2.1, x.2.2)) = some (C, updS sl ch, st')) (hc : C) (k : seqW P T ops dr (l.drop n) (updS sl ch) st' K) : seqW P T ops dr l sl st K := by
  rw [Option.map_eq_some_iff] at h
  obtain ⟨⟨c, s1, s2⟩, h1, h2⟩ := h
  simp only [Prod.mk.injEq] at h2
  obtain ⟨rfl, rfl, rfl⟩ := h2
  have := run_sound (P := P) (T := T) (dr := dr) (K := K) (l.take n) (l.drop n) gs sl st c _ _ h1 hc k
  rwa [List.take_append_drop] at this
theorem st_end {b : Code} {Q Q' : Exit → List D → List Bk → Prop} (raws : List Nat) (gs : List (Nat × Bool)) (dead : List Nat) (C : Prop) (ch : List (Nat × D)) (st' : List Bk) (h : (runL P T ops raws l gs sl st).map (fun x => (Alls x.1, deadS x.2.1 dead, x.2.2)) = some (C, updS (deadS sl dead) ch, st')) (hc : C) (k : awp P T b Q (updS (deadS sl dead) ch) st') : seqW P T ops dr l sl st (thenW (nextW P T b Q) Q' .normal) := by
  rw [Option.map_eq_some_iff] at h
  obtain ⟨⟨c, s1, s2⟩, h1, h2⟩ := h
  simp only [Prod.mk.injEq] at h2
  obtain ⟨rfl, e, rfl⟩ := h2
  have := run_sound (P := P) (T := T) (dr := dr) (K := thenW (nextW P T b Q) Q' .normal) l [] gs sl st c s1 s2 h1 hc ?_
  · rwa [List.append_nil] at this
  · exact ⟨_, _, Weak.slots (LeL.dead dead s1), e ▸ k⟩
theorem st_run0 (n : Nat) (raws : List Nat) (gs : List (Nat × Bool)) (C : Prop) (ch : List (Nat × D)) (h : (runL P T ops raws (l.take n) gs sl st).map (fun x => (Alls x.1, x.2.1, x.2.2)) = some (C, updS sl ch, st)) (hc : C) (k : seqW P T ops dr (l.drop n) (updS sl ch) st K) : seqW P T ops dr l sl st K := st_run n raws gs C ch st h hc k
theorem st_end0 {b : Code} {Q Q' : Exit → List D → List Bk → Prop} (raws : List Nat) (gs : List (Nat × Bool)) (dead : List Nat) (C : Prop) (ch : List (Nat × D)) (h : (runL P T ops raws l gs sl st).map (fun x => (Alls x.1, deadS x.2.1 dead, x.2.2)) = some (C, updS (deadS sl dead) ch, st)) (hc : C) (k : awp P T b Q (updS (deadS sl dead) ch) st) : seqW P T ops dr l sl st (thenW (nextW P T b Q) Q' .normal) := st_end raws gs dead C ch st h hc k
/-- a slot's data in other words -/
theorem st_slot (i : Nat) (d0 d : D) (h : sl.getD i .unk = d0) (hd : d0 = d) (hu : isCell d || isVar d || (match d with | .tup _ => true | _ => false) = true) (k : seqW P T ops dr l (sl.set i d) st K) : seqW P T ops dr l sl st K := by
  subst hd
  rwa [set_same h (by intro e; subst e; simp [isCell, isVar] at hu)] at k
/-- an own block in other words -/
theorem st_blk (i : Nat) (b0 b : Bk) (h : st[i]? = some b0) (hd : b0 = b) (k : seqW P T ops dr l sl (st.set i b) K) : seqW P T ops dr l sl st K := by
  subst hd
  rwa [show st.set i b0 = st from by
    apply List.ext_getElem?
    intro j
    rw [List.getElem?_set]
    split
    · rename_i e
      subst e
      rw [h]
      split
      · rfl
      · rename_i hx; rw [List.getElem?_eq_none (by omega)] at h; cases h
    · rfl] at k
def hdst (l : List Oper) : Option Nat := (l.head?).bind (·.dst)
def callL (P : Program) (T : Par) (ops : Array Oper) (l : List Oper) (gs : List (Nat × Bool)) (sl : List D) (st : List Bk) : Option (List Prop × FuncId × List D × List Bk) := match l with
  | [] => none
  | o :: _ => match gdec ops o gs sl with
    | .go cs _ sl => match aeff P T o.op o.type (evD sl) st with
      | .call f args fz => if isLight o.op then none else some (cs, f, args, setFz st fz)
      | _ => none
    | _ => none
theorem callL_ok {gs : List (Nat × Bool)} {cs : List Prop} {f : FuncId} {args : List D} {st' : List Bk} (h : callL P T ops l gs sl st = some (cs, f, args, st')) (hc : Alls cs) : ∃ o r fz, l = o :: r ∧ isLight o.op = false ∧ aeff P T o.op o.type (evD sl) st = .call f args fz ∧ st' = setFz st fz ∧ ∀ {K : List D → List Bk → Prop}, goW P T ops dr o r sl st K → seqW P T ops dr (o :: r) sl st K := by
  unfold callL at h
  split at h
  · cases h
  · rename_i o r
    split at h
    · rename_i c1 g1 s1 hg
      split at h
      · rename_i f1 a1 fz he
        split at h
        · cases h
        · rename_i hl
          simp only [Option.some.injEq, Prod.mk.injEq] at h
          obtain ⟨rfl, rfl, rfl, rfl⟩ := h
          obtain ⟨rfl, g2⟩ := gdec_go (P := P) (T := T) hg hc
          exact ⟨o, r, fz, rfl, by simpa using hl, he, rfl, fun k => g2 k⟩
      · cases h
    · cases h
theorem st_call (gs : List (Nat × Bool)) (cs : List Prop) {f : FuncId} (args : List D) (st' : List Bk) {x : D} (args' : List D) (h : callL P T ops l gs sl st = some (cs, f, args, st')) (hc : Alls cs) (ha : LeL args args') (hp : Pure P f args' [] x) (k : seqW P T ops dr l.tail (putD sl (hdst l) x) st' K) : seqW P T ops dr l sl st K := by
  obtain ⟨o, r, fz, rfl, hl, he, rfl, g⟩ := callL_ok (dr := dr) h hc
  exact g (go_call he hl (hp.le ha) rfl rfl k)
theorem st_callN (gs : List (Nat × Bool)) (cs : List Prop) {f : FuncId} (args : List D) (st' : List Bk) {x : D} {n : Bk} {news : List Bk} (args' : List D) (h : callL P T ops l gs sl st = some (cs, f, args, st')) (hc : Alls cs) (ha : LeL args args') (hp : Pure P f args' (n :: news) x) (k : seqW P T ops dr l.tail (putD sl (hdst l) (shiftD st.length x)) (st' ++ n :: news) K) : seqW P T ops dr l sl st K := by
  obtain ⟨o, r, fz, rfl, hl, he, rfl, g⟩ := callL_ok (dr := dr) h hc
  exact g (go_callN he hl (hp.le ha) rfl rfl k)
theorem st_call0 {f : FuncId} (args : List D) {x : D} (args' : List D) (h : callL P T ops l [] sl st = some ([], f, args, st)) (ha : LeL args args') (hp : Pure P f args' [] x) (k : seqW P T ops dr l.tail (putD sl (hdst l) x) st K) : seqW P T ops dr l sl st K := st_call [] [] args st args' h trivial ha hp k
def actL (P : Program) (T : Par) (ops : Array Oper) (dr : Bool) (l : List Oper) (gs : List (Nat × Bool)) (sl : List D) (st : List Bk) : Option (List Prop × FuncId × List D) := match l with
  | [] => none
  | o :: _ => match gdec ops o gs sl with
    | .go cs _ sl => match aeff P T o.op o.type (evD sl) st with
      | .act f args => if !isLight o.op && (!dr || isE T o.op) then some (cs, f, args) else none
      | _ => none
    | _ => none
theorem st_act (gs : List (Nat × Bool)) (cs : List Prop) {f : FuncId} (args : List D) {x : D} {st' : List Bk} (args' : List D) (h : actL P T ops dr l gs sl st = some (cs, f, args)) (hc : Alls cs) (ha : LeL args args') (hp : Acts P f args' st [] x st') (k : seqW P T ops dr l.tail (putD sl (hdst l) x) st' K) : seqW P T ops dr l sl st K := by
  unfold actL at h
  split at h
  · cases h
  · rename_i o r
    split at h
    · rename_i c1 g1 s1 hg
      split at h
      · rename_i f1 a1 he
        split at h
        · rename_i hl
          simp only [Option.some.injEq, Prod.mk.injEq] at h
          obtain ⟨rfl, rfl, rfl⟩ := h
          obtain ⟨rfl, g2⟩ := gdec_go (P := P) (T := T) hg hc
          simp only [Bool.and_eq_true, Bool.not_eq_true', Bool.or_eq_true] at hl
          exact g2 (go_act he hl.1 hl.2 (hp.le ha) rfl k)
        · cases h
      · cases h
    · cases h
theorem st_nil (k : K sl st) (e : l = []) : seqW P T ops dr l sl st K := by subst e; exact k
/-- a guard both ways -/
def guardL (ops : Array Oper) (l : List Oper) (sl : List D) : Option (Nat × Bool) := match l with
  | [] => none
  | o :: _ => match o.guard with
    | none => none
    | some (j, _) => match (ops[j]?).bind (·.dst) with
      | none => none
      | some t => match sl.getD t .unk with
        | .val (.bool b) => some (t, b)
        | _ => none
theorem st_split (t : Nat) (b : Bool) (h : guardL ops l sl = some (t, b)) (k1 : b = true → seqW P T ops dr l (sl.set t (.val (.bool true))) st K) (k2 : b = false → seqW P T ops dr l (sl.set t (.val (.bool false))) st K) : seqW P T ops dr l sl st K := by
  unfold guardL at h
  (repeat' split at h) <;> try cases h
  rename_i hb
  cases b with
  | true => rw [← set_same hb (by simp)]; exact k1 rfl
  | false => rw [← set_same hb (by simp)]; exact k2 rfl
theorem seqW_mono {K' : List D → List Bk → Prop} (hK : ∀ sl st, K sl st → K' sl st) : ∀ (l : List Oper) (sl : List D) (st : List Bk), seqW P T ops dr l sl st K → seqW P T ops dr l sl st K'
  | [], sl, st, h => hK _ _ h
  | o :: r, sl, st, h => by
    have ih := seqW_mono hK r
    have go : goW P T ops dr o r sl st K → goW P T ops dr o r sl st K' := by
      unfold goW
      split
      · exact fun h => h
      · exact fun h => ⟨h.1, h.2.1, ih _ _ h.2.2⟩
      · exact fun h => ⟨h.1, h.2.1, ih _ _ h.2.2⟩
      · exact fun h => ⟨h.1, h.2.1, ih _ _ h.2.2⟩
      · rintro ⟨h1, n, x, h2, h3⟩; exact ⟨h1, n, x, h2, ih _ _ h3⟩
      · exact fun h => ⟨h.1, h.2.1, ih _ _ h.2.2⟩
      · exact fun h => ⟨h.1, h.2.1, ih _ _ h.2.2⟩
      · rintro ⟨h1, h4, c, x, s, h2, h3⟩; exact ⟨h1, h4, c, x, s, h2, ih _ _ h3⟩
    cases hg : o.guard with
    | none =>
      simp only [seqW, hg] at h
      exact seq_none hg (go h)
    | some jw =>
      obtain ⟨j, want⟩ := jw
      simp only [seqW, hg] at h ⊢
      split at h
      · exact ⟨fun e => go (h.1 e), fun e => ih _ _ (h.2 e)⟩
      · exact ih _ _ h
      · exact h.elim
end
theorem awp_mono : ∀ (c : Code) {Q Q' : Exit → List D → List Bk → Prop} (hQ : ∀ e sl st, Q e sl st → Q' e sl st) (sl : List D) (st : List Bk), awp P T c Q sl st → awp P T c Q' sl st := by
  intro c
  induction c with
  | skip => intro Q Q' hQ sl st h; exact hQ _ _ _ h
  | region id ops dr =>
    intro Q Q' hQ sl st h
    simp only [awp] at h ⊢
    split
    · rename_i hd
      rw [if_pos hd] at h
      obtain ⟨o, h1, h2⟩ := h
      exact ⟨o, h1, seqW_mono (hQ .normal) _ _ _ h2⟩
    · rename_i hd
      rw [if_neg hd] at h
      exact seqW_mono (hQ .normal) _ _ _ h
  | seq x y ihx ihy =>
    intro Q Q' hQ sl st h
    simp only [awp] at h ⊢
    refine ihx (fun e sl st hk => ?_) sl st h
    cases e <;> simp only [thenW] at hk ⊢ <;> first | exact hQ _ _ _ hk | skip
    obtain ⟨a, b, c, d⟩ := hk
    exact ⟨a, b, c, ihy hQ _ _ d⟩
  | cond c x y ihx ihy =>
    intro Q Q' hQ sl st h
    simp only [awp] at h ⊢
    split at h
    · exact ⟨fun e => ihx hQ _ _ (h.1 e), fun e => ihy hQ _ _ (h.2 e)⟩
    · exact h.elim
  | block id b ih =>
    intro Q Q' hQ sl st h
    simp only [awp] at h ⊢
    refine ih (fun e sl st hk => ?_) sl st h
    cases e <;> simp only [blockW] at hk ⊢ <;> first | exact hQ _ _ _ hk | skip
    split at hk
    · rename_i e; rw [if_pos e]; exact hQ _ _ _ hk
    · rename_i e; rw [if_neg e]; exact hQ _ _ _ hk
  | loop b ih =>
    intro Q Q' hQ sl st h
    simp only [awp] at h ⊢
    obtain ⟨Inv, h1, h2⟩ := h
    refine ⟨Inv, h1, fun n sl st hi => ih (fun e sl st hk => ?_) sl st (h2 n sl st hi)⟩
    cases e <;> simp only [thenW] at hk ⊢ <;> first | exact hQ _ _ _ hk | exact hk
  | exit id => intro Q Q' hQ sl st h; exact hQ _ _ _ h
  | label l => intro Q Q' hQ sl st h; exact hQ _ _ _ h
  | ret => intro Q Q' hQ sl st h; exact hQ _ _ _ h
  | _ => intro Q Q' hQ sl st h; exact h.elim
variable {Q : Exit → List D → List Bk → Prop} {sl : List D} {st : List Bk}
/-- several ways meet -/
theorem awp_cut {α : Type} {a b : Code} (S : α → List D) (B : α → List Bk) (J : α → Prop) (h : awp P T a (thenW (fun sl st => ∃ x, J x ∧ Weak T sl st (S x) (B x)) Q) sl st) (k : ∀ x, J x → awp P T b Q (S x) (B x)) : awp P T (.seq a b) Q sl st := by
  refine awp_mono a (fun e sl st hk => ?_) sl st h
  cases e <;> simp only [thenW] at hk ⊢ <;> first | exact hk | skip
  obtain ⟨x, h1, h2⟩ := hk
  exact ⟨_, _, h2, k x h1⟩
theorem cond_t {c : Operand} {x y : Code} {t : Bool} (hc : evD sl c = .val (.bool t)) (ht : t = true) (h : awp P T x Q sl st) : awp P T (.cond c x y) Q sl st :=
  awp_cond hc (fun _ => h) (fun e => by rw [ht] at e; cases e)
theorem cond_f {c : Operand} {x y : Code} {t : Bool} (hc : evD sl c = .val (.bool t)) (ht : t = false) (h : awp P T y Q sl st) : awp P T (.cond c x y) Q sl st :=
  awp_cond hc (fun e => by rw [ht] at e; cases e) (fun _ => h)
/-- results -/
def resL (P : Program) (sl : List D) (st : List Bk) : List ResultVar → Option (List Prop × List D)
  | [] => some ([], [])
  | .tmp t :: rs => (resL P sl st rs).map fun x => (x.1, sl.getD t .unk :: x.2)
  | r :: rs => match resOne P sl st r with
    | .get p d => (resL P sl st rs).map fun x => (p :: x.1, d :: x.2)
    | _ => none
theorem resL_ok : ∀ {rs : List ResultVar} {cs : List Prop} {ds : List D} {K : List D → Prop}, resL P sl st rs = some (cs, ds) → Alls cs → K ds → retL P sl st rs K
  | [], cs, ds, K, h, hc, k => by
    simp only [resL, Option.some.injEq, Prod.mk.injEq] at h
    obtain ⟨_, rfl⟩ := h
    exact k
  | r :: rs, cs, ds, K, h, hc, k => by
    have key : ∀ p d, resOne P sl st r = .get p d → (∃ c1 d1, resL P sl st rs = some (c1, d1) ∧ (p ∧ Alls c1) ∧ ds = d :: d1) → retL P sl st (r :: rs) K := by
      rintro p d e ⟨c1, d1, h1, ⟨h2, h3⟩, rfl⟩
      simp only [retL, e]
      exact ⟨h2, resL_ok h1 h3 k⟩
    cases r with
    | tmp t =>
      simp only [resL, Option.map_eq_some_iff, Prod.exists, Prod.mk.injEq] at h
      obtain ⟨c1, d1, h1, rfl, rfl⟩ := h
      exact key True _ rfl ⟨c1, d1, h1, ⟨trivial, hc⟩, rfl⟩
    | cell a t =>
      simp only [resL] at h
      split at h
      · rename_i p d he
        simp only [Option.map_eq_some_iff, Prod.exists, Prod.mk.injEq] at h
        obtain ⟨c1, d1, h1, rfl, rfl⟩ := h
        exact key p d he ⟨c1, d1, h1, hc.cons, rfl⟩
      · cases h
def retC (P : Program) (rs : List ResultVar) (sl : List D) (st : List Bk) : Option (List Prop × D) := match resL P sl st rs with
  | none => none
  | some (cs, ds) => (frz true st frzDepth (oneD ds)).map fun y => (cs, y.1)
theorem ret_run {rs : List ResultVar} {e : Exit} {x : D} (C : Prop) (y y' : D) (he : e = .normal ∨ e = .ret) (h : (retC P rs sl st).map (fun x => (Alls x.1, nilRow x.2)) = some (C, y)) (hc : C) (hy : y = y') (hx : y' = x) : (e = .normal ∨ e = .ret) ∧ retL P sl st rs (fun ds => ∃ y ks, frz true st frzDepth (oneD ds) = some (y, ks) ∧ LeD y x) := by
  subst hy
  refine ⟨he, ?_⟩
  rw [Option.map_eq_some_iff] at h
  obtain ⟨⟨c, y0⟩, h, h0⟩ := h
  simp only [Prod.mk.injEq] at h0
  obtain ⟨rfl, rfl⟩ := h0
  unfold retC at h
  split at h
  · cases h
  · rename_i c1 ds h1
    rw [Option.map_eq_some_iff] at h
    obtain ⟨⟨y1, ks⟩, h2, h3⟩ := h
    simp only [Prod.mk.injEq] at h3
    obtain ⟨rfl, rfl⟩ := h3
    exact resL_ok h1 hc ⟨y1, ks, h2, hx ▸ nilRow_le y1⟩
/-- the same, with nil as it is -/
theorem ret_exact {rs : List ResultVar} {e : Exit} (C : Prop) (y : D) (he : e = .normal ∨ e = .ret) (h : (retC P rs sl st).map (fun x => (Alls x.1, x.2)) = some (C, y)) (hc : C) : (e = .normal ∨ e = .ret) ∧ retL P sl st rs (fun ds => ∃ z ks, frz true st frzDepth (oneD ds) = some (z, ks) ∧ LeD z y) := by
  refine ⟨he, ?_⟩
  rw [Option.map_eq_some_iff] at h
  obtain ⟨⟨c, y0⟩, h, h0⟩ := h
  simp only [Prod.mk.injEq] at h0
  obtain ⟨rfl, rfl⟩ := h0
  unfold retC at h
  split at h
  · cases h
  · rename_i c1 ds h1
    rw [Option.map_eq_some_iff] at h
    obtain ⟨⟨y1, ks⟩, h2, h3⟩ := h
    simp only [Prod.mk.injEq] at h3
    obtain ⟨rfl, rfl⟩ := h3
    exact resL_ok h1 hc ⟨y1, ks, h2, LeD.refl _⟩
theorem ret_list {rs : List ResultVar} {e : Exit} {K : List D → Prop} (C : Prop) (ds : List D) (he : e = .normal ∨ e = .ret) (h : (resL P sl st rs).map (fun x => (Alls x.1, x.2)) = some (C, ds)) (hc : C) (hk : K ds) : (e = .normal ∨ e = .ret) ∧ retL P sl st rs K := by
  rw [Option.map_eq_some_iff] at h
  obtain ⟨⟨c, y0⟩, h, h0⟩ := h
  simp only [Prod.mk.injEq] at h0
  obtain ⟨rfl, rfl⟩ := h0
  exact ⟨he, resL_ok h hc hk⟩
theorem awp_loop1 {α : Type} {b0 : Code} (S : α → List D) (B : α → List Bk) (μ : α → Nat) (J : α → Prop) (a₀ : α) (h₀ : J a₀) (hw : Weak T sl st (S a₀) (B a₀))
    (step : ∀ a, J a → awp P T b0 (thenW (fun sl' st' => ∃ a', J a' ∧ μ a' < μ a ∧ Weak T sl' st' (S a') (B a')) Q) (S a) (B a)) : awp P T (.loop b0) Q sl st := by
  refine awp_loop (α := α) (S) (B) (μ) (J) a₀ h₀ hw ?_
  rintro a hj
  refine awp_mono b0 (fun e sl st hk => ?_) _ _ (step a hj)
  cases e <;> simp only [thenW] at hk ⊢ <;> first | exact hk | skip
theorem awp_cut1 {α : Type} {a0 b0 : Code} (S : α → List D) (B : α → List Bk) (J : α → Prop) (h : awp P T a0 (thenW (fun sl' st' => ∃ a', J a' ∧ Weak T sl' st' (S a') (B a')) Q) sl st) (k : ∀ a, J a → awp P T b0 Q (S a) (B a)) : awp P T (.seq a0 b0) Q sl st := by
  refine awp_cut (α := α) (S) (B) (J) (awp_mono a0 (fun e sl st hk => ?_) _ _ h) ?_
  · cases e <;> simp only [thenW] at hk ⊢ <;> first | exact hk | skip
  · rintro a hj
    exact k a hj
theorem awp_loop2 {α : Type} {β : Type} {b0 : Code} (S : α → β → List D) (B : α → β → List Bk) (μ : α → β → Nat) (J : α → β → Prop) (a₀ : α) (b₀ : β) (h₀ : J a₀ b₀) (hw : Weak T sl st (S a₀ b₀) (B a₀ b₀))
    (step : ∀ a b, J a b → awp P T b0 (thenW (fun sl' st' => ∃ a' b', J a' b' ∧ μ a' b' < μ a b ∧ Weak T sl' st' (S a' b') (B a' b')) Q) (S a b) (B a b)) : awp P T (.loop b0) Q sl st := by
  refine awp_loop (α := α × β) (fun x => S x.1 x.2) (fun x => B x.1 x.2) (fun x => μ x.1 x.2) (fun x => J x.1 x.2) (a₀, b₀) h₀ hw ?_
  rintro ⟨a, b⟩ hj
  refine awp_mono b0 (fun e sl st hk => ?_) _ _ (step a b hj)
  cases e <;> simp only [thenW] at hk ⊢ <;> first | exact hk | skip
  obtain ⟨a', b', h1, h2, h3⟩ := hk
  exact ⟨(a', b'), h1, h2, h3⟩
theorem awp_cut2 {α : Type} {β : Type} {a0 b0 : Code} (S : α → β → List D) (B : α → β → List Bk) (J : α → β → Prop) (h : awp P T a0 (thenW (fun sl' st' => ∃ a' b', J a' b' ∧ Weak T sl' st' (S a' b') (B a' b')) Q) sl st) (k : ∀ a b, J a b → awp P T b0 Q (S a b) (B a b)) : awp P T (.seq a0 b0) Q sl st := by
  refine awp_cut (α := α × β) (fun x => S x.1 x.2) (fun x => B x.1 x.2) (fun x => J x.1 x.2) (awp_mono a0 (fun e sl st hk => ?_) _ _ h) ?_
  · cases e <;> simp only [thenW] at hk ⊢ <;> first | exact hk | skip
    obtain ⟨a', b', h1, h3⟩ := hk
    exact ⟨(a', b'), h1, h3⟩
  · rintro ⟨a, b⟩ hj
    exact k a b hj
theorem awp_loop3 {α : Type} {β : Type} {γ : Type} {b0 : Code} (S : α → β → γ → List D) (B : α → β → γ → List Bk) (μ : α → β → γ → Nat) (J : α → β → γ → Prop) (a₀ : α) (b₀ : β) (c₀ : γ) (h₀ : J a₀ b₀ c₀) (hw : Weak T sl st (S a₀ b₀ c₀) (B a₀ b₀ c₀))
    (step : ∀ a b c, J a b c → awp P T b0 (thenW (fun sl' st' => ∃ a' b' c', J a' b' c' ∧ μ a' b' c' < μ a b c ∧ Weak T sl' st' (S a' b' c') (B a' b' c')) Q) (S a b c) (B a b c)) : awp P T (.loop b0) Q sl st := by
  refine awp_loop (α := α × β × γ) (fun x => S x.1 x.2.1 x.2.2) (fun x => B x.1 x.2.1 x.2.2) (fun x => μ x.1 x.2.1 x.2.2) (fun x => J x.1 x.2.1 x.2.2) (a₀, b₀, c₀) h₀ hw ?_
  rintro ⟨a, b, c⟩ hj
  refine awp_mono b0 (fun e sl st hk => ?_) _ _ (step a b c hj)
  cases e <;> simp only [thenW] at hk ⊢ <;> first | exact hk | skip
  obtain ⟨a', b', c', h1, h2, h3⟩ := hk
  exact ⟨(a', b', c'), h1, h2, h3⟩
theorem awp_cut3 {α : Type} {β : Type} {γ : Type} {a0 b0 : Code} (S : α → β → γ → List D) (B : α → β → γ → List Bk) (J : α → β → γ → Prop) (h : awp P T a0 (thenW (fun sl' st' => ∃ a' b' c', J a' b' c' ∧ Weak T sl' st' (S a' b' c') (B a' b' c')) Q) sl st) (k : ∀ a b c, J a b c → awp P T b0 Q (S a b c) (B a b c)) : awp P T (.seq a0 b0) Q sl st := by
  refine awp_cut (α := α × β × γ) (fun x => S x.1 x.2.1 x.2.2) (fun x => B x.1 x.2.1 x.2.2) (fun x => J x.1 x.2.1 x.2.2) (awp_mono a0 (fun e sl st hk => ?_) _ _ h) ?_
  · cases e <;> simp only [thenW] at hk ⊢ <;> first | exact hk | skip
    obtain ⟨a', b', c', h1, h3⟩ := hk
    exact ⟨(a', b', c'), h1, h3⟩
  · rintro ⟨a, b, c⟩ hj
    exact k a b c hj
theorem awp_loop4 {α : Type} {β : Type} {γ : Type} {δ : Type} {b0 : Code} (S : α → β → γ → δ → List D) (B : α → β → γ → δ → List Bk) (μ : α → β → γ → δ → Nat) (J : α → β → γ → δ → Prop) (a₀ : α) (b₀ : β) (c₀ : γ) (d₀ : δ) (h₀ : J a₀ b₀ c₀ d₀) (hw : Weak T sl st (S a₀ b₀ c₀ d₀) (B a₀ b₀ c₀ d₀))
    (step : ∀ a b c d, J a b c d → awp P T b0 (thenW (fun sl' st' => ∃ a' b' c' d', J a' b' c' d' ∧ μ a' b' c' d' < μ a b c d ∧ Weak T sl' st' (S a' b' c' d') (B a' b' c' d')) Q) (S a b c d) (B a b c d)) : awp P T (.loop b0) Q sl st := by
  refine awp_loop (α := α × β × γ × δ) (fun x => S x.1 x.2.1 x.2.2.1 x.2.2.2) (fun x => B x.1 x.2.1 x.2.2.1 x.2.2.2) (fun x => μ x.1 x.2.1 x.2.2.1 x.2.2.2) (fun x => J x.1 x.2.1 x.2.2.1 x.2.2.2) (a₀, b₀, c₀, d₀) h₀ hw ?_
  rintro ⟨a, b, c, d⟩ hj
  refine awp_mono b0 (fun e sl st hk => ?_) _ _ (step a b c d hj)
  cases e <;> simp only [thenW] at hk ⊢ <;> first | exact hk | skip
  obtain ⟨a', b', c', d', h1, h2, h3⟩ := hk
  exact ⟨(a', b', c', d'), h1, h2, h3⟩
theorem awp_cut4 {α : Type} {β : Type} {γ : Type} {δ : Type} {a0 b0 : Code} (S : α → β → γ → δ → List D) (B : α → β → γ → δ → List Bk) (J : α → β → γ → δ → Prop) (h : awp P T a0 (thenW (fun sl' st' => ∃ a' b' c' d', J a' b' c' d' ∧ Weak T sl' st' (S a' b' c' d') (B a' b' c' d')) Q) sl st) (k : ∀ a b c d, J a b c d → awp P T b0 Q (S a b c d) (B a b c d)) : awp P T (.seq a0 b0) Q sl st := by
  refine awp_cut (α := α × β × γ × δ) (fun x => S x.1 x.2.1 x.2.2.1 x.2.2.2) (fun x => B x.1 x.2.1 x.2.2.1 x.2.2.2) (fun x => J x.1 x.2.1 x.2.2.1 x.2.2.2) (awp_mono a0 (fun e sl st hk => ?_) _ _ h) ?_
  · cases e <;> simp only [thenW] at hk ⊢ <;> first | exact hk | skip
    obtain ⟨a', b', c', d', h1, h3⟩ := hk
    exact ⟨(a', b', c', d'), h1, h3⟩
  · rintro ⟨a, b, c, d⟩ hj
    exact k a b c d hj
theorem awp_loop5 {α : Type} {β : Type} {γ : Type} {δ : Type} {ε : Type} {b0 : Code} (S : α → β → γ → δ → ε → List D) (B : α → β → γ → δ → ε → List Bk) (μ : α → β → γ → δ → ε → Nat) (J : α → β → γ → δ → ε → Prop) (a₀ : α) (b₀ : β) (c₀ : γ) (d₀ : δ) (e₀ : ε) (h₀ : J a₀ b₀ c₀ d₀ e₀) (hw : Weak T sl st (S a₀ b₀ c₀ d₀ e₀) (B a₀ b₀ c₀ d₀ e₀))
    (step : ∀ a b c d e, J a b c d e → awp P T b0 (thenW (fun sl' st' => ∃ a' b' c' d' e', J a' b' c' d' e' ∧ μ a' b' c' d' e' < μ a b c d e ∧ Weak T sl' st' (S a' b' c' d' e') (B a' b' c' d' e')) Q) (S a b c d e) (B a b c d e)) : awp P T (.loop b0) Q sl st := by
  refine awp_loop (α := α × β × γ × δ × ε) (fun x => S x.1 x.2.1 x.2.2.1 x.2.2.2.1 x.2.2.2.2) (fun x => B x.1 x.2.1 x.2.2.1 x.2.2.2.1 x.2.2.2.2) (fun x => μ x.1 x.2.1 x.2.2.1 x.2.2.2.1 x.2.2.2.2) (fun x => J x.1 x.2.1 x.2.2.1 x.2.2.2.1 x.2.2.2.2) (a₀, b₀, c₀, d₀, e₀) h₀ hw ?_
  rintro ⟨a, b, c, d, e⟩ hj
  refine awp_mono b0 (fun e sl st hk => ?_) _ _ (step a b c d e hj)
  cases e <;> simp only [thenW] at hk ⊢ <;> first | exact hk | skip
  obtain ⟨a', b', c', d', e', h1, h2, h3⟩ := hk
  exact ⟨(a', b', c', d', e'), h1, h2, h3⟩
theorem awp_cut5 {α : Type} {β : Type} {γ : Type} {δ : Type} {ε : Type} {a0 b0 : Code} (S : α → β → γ → δ → ε → List D) (B : α → β → γ → δ → ε → List Bk) (J : α → β → γ → δ → ε → Prop) (h : awp P T a0 (thenW (fun sl' st' => ∃ a' b' c' d' e', J a' b' c' d' e' ∧ Weak T sl' st' (S a' b' c' d' e') (B a' b' c' d' e')) Q) sl st) (k : ∀ a b c d e, J a b c d e → awp P T b0 Q (S a b c d e) (B a b c d e)) : awp P T (.seq a0 b0) Q sl st := by
  refine awp_cut (α := α × β × γ × δ × ε) (fun x => S x.1 x.2.1 x.2.2.1 x.2.2.2.1 x.2.2.2.2) (fun x => B x.1 x.2.1 x.2.2.1 x.2.2.2.1 x.2.2.2.2) (fun x => J x.1 x.2.1 x.2.2.1 x.2.2.2.1 x.2.2.2.2) (awp_mono a0 (fun e sl st hk => ?_) _ _ h) ?_
  · cases e <;> simp only [thenW] at hk ⊢ <;> first | exact hk | skip
    obtain ⟨a', b', c', d', e', h1, h3⟩ := hk
    exact ⟨(a', b', c', d', e'), h1, h3⟩
  · rintro ⟨a, b, c, d, e⟩ hj
    exact k a b c d e hj
theorem awp_cut0 {a0 b0 : Code} (S : List D) (B : List Bk) (h : awp P T a0 (thenW (fun sl' st' => Weak T sl' st' S B) Q) sl st) (k : awp P T b0 Q S B) : awp P T (.seq a0 b0) Q sl st := by
  refine awp_cut (α := Unit) (fun _ => S) (fun _ => B) (fun _ => True) (awp_mono a0 (fun e sl st hk => ?_) _ _ h) (fun _ _ => k)
  cases e <;> simp only [thenW] at hk ⊢ <;> first | exact hk | skip
  exact ⟨(), trivial, hk⟩
theorem Weak.all {sl' : List D} {st' : List Bk} (m : Nat) (bs : List Bk) (hl : LeL sl sl') (hn : noRefs sl' st m st.length = true) (hk : ∀ k, m ≤ k → T.keep k = false) (e : st.take m ++ bs = st') : Weak T sl st sl' st' := by
  subst e
  exact ((Weak.slots hl).trans (Weak.cut m hn hk)).trans (Weak.more bs)
theorem Weak.same {sl' : List D} {st' : List Bk} (hl : LeL sl sl') (e : st = st') : Weak T sl st sl' st' := by
  subst e; exact Weak.slots hl
/-- slot by slot: nothing known (0), the same (1), nil as an empty own slice (2), nil as an empty row (3) -/
def assocN (hs : List (Nat × Nat)) (i : Nat) : Nat := match hs with
  | [] => 0
  | (j, h) :: r => if i == j then h else assocN r i
def le1 (h : Nat) (d d' : D) : List Prop := match h with
  | 0 => match d' with
    | .unk => []
    | _ => [False]
  | 1 => [d = d']
  | 2 => match d, d' with
    | .val (.slice none 0 0), .osl _ 0 0 0 _ => []
    | _, _ => [False]
  | 3 => match d, d' with
    | .val (.slice none 0 0), .row [] 0 => []
    | _, _ => [False]
  | _ => [False]
def leC : Nat → List D → List D → List (Nat × Nat) → List Prop
  | _, [], [], _ => []
  | i, d :: ds, d' :: ds', hs => le1 (assocN hs i) d d' ++ leC (i + 1) ds ds' hs
  | _, _, _, _ => [False]
theorem leC_ok {hs : List (Nat × Nat)} : ∀ {i : Nat} {sl sl' : List D}, Alls (leC i sl sl' hs) → LeL sl sl'
  | i, [], [], _ => .nil
  | i, [], _ :: _, h => h.elim
  | i, _ :: _, [], h => h.elim
  | i, d :: ds, d' :: ds', h => by
    simp only [leC] at h
    obtain ⟨h1, h2⟩ := Alls.app h
    refine .cons ?_ (leC_ok h2)
    unfold le1 at h1
    split at h1
    · split at h1
      · exact .unk _
      · exact h1.elim
    · exact .eq h1
    · split at h1
      · exact .nil _ _
      · exact h1.elim
    · split at h1
      · exact .nil_row
      · exact h1.elim
    · exact h1.elim
theorem weak_run {sl' : List D} {st' : List Bk} (hs : List (Nat × Nat)) (C : Prop) (m : Nat) (bs : List Bk) (h : Alls (leC 0 sl sl' hs) = C) (hc : C) (hn : noRefs sl' st m st.length = true) (hk : ∀ k, m ≤ k → T.keep k = false) (e : st.take m ++ bs = st') : Weak T sl st sl' st' := by
  subst h
  exact Weak.all m bs (leC_ok hc) hn hk e
theorem weak_list {sl' : List D} {st' : List Bk} (sl0 : List D) (st0 : List Bk) (e : sl = sl0) (e' : st = st0) (h : Weak T sl0 st0 sl' st') : Weak T sl st sl' st' := by subst e e'; exact h
end
end Go.Proofs.Ytgbhoceamcomfaa

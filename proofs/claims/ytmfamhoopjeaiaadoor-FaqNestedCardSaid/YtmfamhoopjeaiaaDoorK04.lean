/- Texts of this claim, joined: Ab28 Oq Dp End Rd Re Str Ac DapP VaP Fr Ab36 Dap Dsc Dn Dva -/
import Derived.Test.YtmfamhoopjeaiaaDoorK03
import Derived.ProofKit
import Derived.Carry
import Derived.ChangeSame
import Derived.Test.YtmfamhoopjeaiaaDoorProg
import Derived.BigQuiet
import Derived.Lib.SliceRun
import Derived.Lib.AppendZeros
import Derived.Laws.Append
import Derived.Lib.Bytealg
import Derived.Lib.Strings
import Derived.Deep.QuietTactic
import Derived.Test.YtmfamhoopjeaiaaDoorShelf
import Derived.Lib.RowBridge
import Derived.BigCall
import Derived.Lib.ItoaLen
import Derived.Lib.Walk
import Derived.WalkKit
import Derived.Lib.ItoaWalk
import Derived.Lib.LaidTab
import Derived.Lib.Hide
set_option linter.unusedVariables false
set_option linter.unusedSimpArgs false
namespace Go.Proofs.YtmfamhoopjeaiaaDoor
section
open Go.RowKit
theorem lb {a b : Nat} (h : Nat.ble a b = true) : a ≤ b := Nat.le_of_ble_eq_true h
abbrev nl : D := .val (.slice none 0 0)
section
variable {P : Program} {T : Par}
theorem LeD.trans {a b c : D} (h : LeD a b) (k : LeD b c) : LeD a c := fun I w β v hv => k I w β v (h I w β v hv)
theorem LeL.trans {a b c : List D} (h : LeL a b) : LeL b c → LeL a c := by
 induction h generalizing c with
 | nil => exact fun h => h
 | cons h1 _ ih =>
  intro k
  cases k with
  | cons k1 k2 => exact .cons (h1.trans k1) (ih k2)
theorem LeL.set (sl : List D) (i : Nat) : LeL sl (sl.set i .unk) := by
 induction sl generalizing i with
 | nil => exact .nil
 | cons d ds ih =>
  cases i with
  | zero => exact .cons (.unk _) (.refl _)
  | succ i => exact .cons (.refl _) (ih i)
theorem LeL.dead (dead : List Nat) : ∀ sl : List D, LeL sl (zAw sl dead) := by
 induction dead with
 | nil => exact fun sl => .refl sl
 | cons i r ih => exact fun sl => (LeL.set sl i).trans (ih _)
theorem Pure.frozen {f : FuncId} {args : List D} {b : Bk} {n m : Nat} {wh : Bool} {cs : List D} (h : Pure P f args [b] (.osl 0 0 n m wh)) (hb : b.arr = true) (hc : b.cells.take m = cs) : Pure P f args [] (.row cs n) := by
 intro I w vs hr hi hg
 refine (h I w vs hr hi hg).mono ?_
 rintro e w' ⟨v, I', γ, he, h1, h2, h3, h4, h5, h6, h7, h8, h9, h10, h11⟩
 have hs : Sim γ I' w' [.osl 0 0 n m wh] [b] [v] := ⟨by simp only [RelT]; exact ⟨v, [], rfl, h10, rfl⟩, h6, h7, h8, h9, h2, hg.mono h3⟩
 have hkd : b.kd = .plain := (h11 b (by simp)).2
 have hf : frz true [b] zAl (.osl 0 0 n m wh) = some (.row cs n, [0]) := by simp [frz, zAl, hb, hc, hkd, Bk.nob, Kd.isMap, Kd.isSh]
 have h12 := zBf hs.sr.weak _ _ _ _ _ hf h10
 refine ⟨v, fixI I' γ [b] [0], noB, he, h1, zDp hs.sr.weak h2 [0], h3.trans (zAd [0]), fun x o hx => ?_, fun k b c h => (by cases h), fun k b c h => (by cases h), fun k k' b c c' h => (by cases h), fun k b c j e h => (by cases h), fun k y h => (by cases h), h12, by simp⟩
 rcases hx with hx | ⟨k, _, c, e, hk, _⟩
 ·exact h4 x o hx
 ·exact .inr (h5 k x c hk)
theorem Pure.le {f : FuncId} {args args' : List D} {news : List Bk} {x : D} (h : Pure P f args' news x) (ha : LeL args args') : Pure P f args news x := fun I w vs hr hi => h I w vs (ha.rel hr) hi
theorem Acts.le {f : FuncId} {args args' : List D} {st st' : List Bk} {x : D} {ch : List Nat} (h : Acts P f args' st ch x st') (ha : LeL args args') : Acts P f args st ch x st' := fun β I w vs hr => h β I w vs (ha.rel hr)
section
variable {ops : Array Oper} {dr : Bool} {l : List Oper} {sl : List D} {st : List Bk} {K : List D → List Bk → Prop}
theorem st_run (n : Nat) (raws : List Nat) (gs : List (Nat × Bool)) (C : Prop) (ch : List (Nat × D)) (st' : List Bk) (h : (runL P T ops raws (l.take n) gs sl st).map (fun x => (Alls x.1, x.2.1, x.2.2)) = some (C, updS sl ch, st')) (hc : C) (k : seqW P T ops dr (l.drop n) (updS sl ch) st' K) : seqW P T ops dr l sl st K := by
 rw [Option.map_eq_some_iff] at h
 obtain ⟨⟨c, s1, s2⟩, h1, h2⟩ := h
 simp only [Prod.mk.injEq] at h2
 obtain ⟨rfl, rfl, rfl⟩ := h2
 have := zBj (P := P) (T := T) (dr := dr) (K := K) (l.take n) (l.drop n) gs sl st c _ _ h1 hc k
 rwa [List.take_append_drop] at this
theorem st_end {b : Code} {Q Q' : Exit → List D → List Bk → Prop} (raws : List Nat) (gs : List (Nat × Bool)) (dead : List Nat) (C : Prop) (ch : List (Nat × D)) (st' : List Bk) (h : (runL P T ops raws l gs sl st).map (fun x => (Alls x.1, zAw x.2.1 dead, x.2.2)) = some (C, updS (zAw sl dead) ch, st')) (hc : C) (k : awp P T b Q (updS (zAw sl dead) ch) st') : seqW P T ops dr l sl st (zAf (zAo P T b Q) Q' .normal) := by
 rw [Option.map_eq_some_iff] at h
 obtain ⟨⟨c, s1, s2⟩, h1, h2⟩ := h
 simp only [Prod.mk.injEq] at h2
 obtain ⟨rfl, e, rfl⟩ := h2
 have := zBj (P := P) (T := T) (dr := dr) (K := zAf (zAo P T b Q) Q' .normal) l [] gs sl st c s1 s2 h1 hc ?_
 ·rwa [List.append_nil] at this
 ·exact ⟨_, _, Weak.slots (LeL.dead dead s1), e ▸ k⟩
theorem zQt (n : Nat) (raws : List Nat) (gs : List (Nat × Bool)) (C : Prop) (ch : List (Nat × D)) (h : (runL P T ops raws (l.take n) gs sl st).map (fun x => (Alls x.1, x.2.1, x.2.2)) = some (C, updS sl ch, st)) (hc : C) (k : seqW P T ops dr (l.drop n) (updS sl ch) st K) : seqW P T ops dr l sl st K := st_run n raws gs C ch st h hc k
theorem st_end0 {b : Code} {Q Q' : Exit → List D → List Bk → Prop} (raws : List Nat) (gs : List (Nat × Bool)) (dead : List Nat) (C : Prop) (ch : List (Nat × D)) (h : (runL P T ops raws l gs sl st).map (fun x => (Alls x.1, zAw x.2.1 dead, x.2.2)) = some (C, updS (zAw sl dead) ch, st)) (hc : C) (k : awp P T b Q (updS (zAw sl dead) ch) st) : seqW P T ops dr l sl st (zAf (zAo P T b Q) Q' .normal) := st_end raws gs dead C ch st h hc k
theorem zV8 (i : Nat) (d0 d : D) (h : sl.getD i .unk = d0) (hd : d0 = d) (hu : zE4 d || zEl d || (match d with | .tup _ => true | _ => false) = true) (k : seqW P T ops dr l (sl.set i d) st K) : seqW P T ops dr l sl st K := by
 subst hd
 rwa [zD9 h (by intro e; subst e; simp [zE4, zEl] at hu)] at k
theorem st_blk (i : Nat) (b0 b : Bk) (h : st[i]? = some b0) (hd : b0 = b) (k : seqW P T ops dr l sl (st.set i b) K) : seqW P T ops dr l sl st K := by
 subst hd
 rwa [show st.set i b0 = st from by
  apply List.ext_getElem?
  intro j
  rw [List.getElem?_set]
  split
  ·rename_i e
   subst e
   rw [h]
   split
   ·rfl
   ·rename_i hx; rw [List.getElem?_eq_none (by omega)] at h; cases h
  ·rfl] at k
def hdst (l : List Oper) : Option Nat := (l.head?).bind (·.dst)
def zHo (P : Program) (T : Par) (ops : Array Oper) (l : List Oper) (gs : List (Nat × Bool)) (sl : List D) (st : List Bk) : Option (List Prop × FuncId × List D × List Bk) := match l with
 | [] => none
 | o :: _ => match gdec ops o gs sl with
  | .go cs _ sl => match aeff P T o.op o.type (evD sl) st with
   | .call f args fz => if zV T o.op then none else some (cs, f, args, zAe st fz)
   | _ => none
  | _ => none
theorem zTd {gs : List (Nat × Bool)} {cs : List Prop} {f : FuncId} {args : List D} {st' : List Bk} (h : zHo P T ops l gs sl st = some (cs, f, args, st')) (hc : Alls cs) : ∃ o r fz, l = o :: r ∧ zV T o.op = false ∧ aeff P T o.op o.type (evD sl) st = .call f args fz ∧ st' = zAe st fz ∧ ∀ {K : List D → List Bk → Prop}, goW P T ops dr o r sl st K → seqW P T ops dr (o :: r) sl st K := by
 unfold zHo at h
 split at h
 ·cases h
 ·rename_i o r
  split at h
  ·rename_i c1 g1 s1 hg
   split at h
   ·rename_i f1 a1 fz he
    split at h
    ·cases h
    ·rename_i hl
     simp only [Option.some.injEq, Prod.mk.injEq] at h
     obtain ⟨rfl, rfl, rfl, rfl⟩ := h
     obtain ⟨rfl, g2⟩ := zE6 (P := P) (T := T) hg hc
     exact ⟨o, r, fz, rfl, by simpa using hl, he, rfl, fun k => g2 k⟩
   ·cases h
  ·cases h
theorem zMk (gs : List (Nat × Bool)) (cs : List Prop) {f : FuncId} (args : List D) (st' : List Bk) {x : D} (args' : List D) (h : zHo P T ops l gs sl st = some (cs, f, args, st')) (hc : Alls cs) (ha : LeL args args') (hp : Pure P f args' [] x) (k : seqW P T ops dr l.tail (putD sl (hdst l) x) st' K) : seqW P T ops dr l sl st K := by
 obtain ⟨o, r, fz, rfl, hl, he, rfl, g⟩ := zTd (dr := dr) h hc
 exact g (go_call he hl (hp.le ha) rfl rfl k)
theorem zY3 (gs : List (Nat × Bool)) (cs : List Prop) {f : FuncId} (args : List D) (st' : List Bk) {x : D} {n : Bk} {news : List Bk} (args' : List D) (h : zHo P T ops l gs sl st = some (cs, f, args, st')) (hc : Alls cs) (ha : LeL args args') (hp : Pure P f args' (n :: news) x) (k : seqW P T ops dr l.tail (putD sl (hdst l) (zA2 st.length x)) (st' ++ n :: news) K) : seqW P T ops dr l sl st K := by
 obtain ⟨o, r, fz, rfl, hl, he, rfl, g⟩ := zTd (dr := dr) h hc
 exact g (zZ7 he hl (hp.le ha) rfl rfl k)
theorem st_callr {f : FuncId} (args : List D) {x : D} (h : zHo P T ops l [] sl st = some ([], f, args, st)) (hp : Pure P f args [] x) (k : seqW P T ops dr l.tail (putD sl (hdst l) x) st K) : seqW P T ops dr l sl st K := zMk [] [] args st args h trivial (LeL.refl _) hp k
theorem st_eE {b : Code} {Q Q' : Exit → List D → List Bk → Prop} (dead : List Nat) (ch : List (Nat × D)) (k : awp P T b Q (updS (zAw sl dead) ch) st) (h : (runL P T ops [] l [] sl st).map (fun x => (Alls x.1, zAw x.2.1 dead, x.2.2)) = some (True, updS (zAw sl dead) ch, st) := by kernel_rfl) : seqW P T ops dr l sl st (zAf (zAo P T b Q) Q' .normal) := st_end [] [] dead True ch st h trivial k
theorem st_rR (n : Nat) (ch : List (Nat × D)) (k : seqW P T ops dr (l.drop n) (updS sl ch) st K) (h : (runL P T ops [] (l.take n) [] sl st).map (fun x => (Alls x.1, x.2.1, x.2.2)) = some (True, updS sl ch, st) := by kernel_rfl) : seqW P T ops dr l sl st K := st_run n [] [] True ch st h trivial k
theorem st_cC {f : FuncId} (args : List D) {x : D} (hp : Pure P f args [] x) (k : seqW P T ops dr l.tail (putD sl (hdst l) x) st K) (h : zHo P T ops l [] sl st = some ([], f, args, st) := by kernel_rfl) : seqW P T ops dr l sl st K := zMk [] [] args st args h trivial (LeL.refl _) hp k
theorem st_call0 {f : FuncId} (args : List D) {x : D} (args' : List D) (h : zHo P T ops l [] sl st = some ([], f, args, st)) (ha : LeL args args') (hp : Pure P f args' [] x) (k : seqW P T ops dr l.tail (putD sl (hdst l) x) st K) : seqW P T ops dr l sl st K := zMk [] [] args st args' h trivial ha hp k
def actL (P : Program) (T : Par) (ops : Array Oper) (dr : Bool) (l : List Oper) (gs : List (Nat × Bool)) (sl : List D) (st : List Bk) : Option (List Prop × FuncId × List D) := match l with
 | [] => none
 | o :: _ => match gdec ops o gs sl with
  | .go cs _ sl => match aeff P T o.op o.type (evD sl) st with
   | .act f args => if !zV T o.op && (!dr || isE T o.op) then some (cs, f, args) else none
   | _ => none
  | _ => none
theorem zNz (gs : List (Nat × Bool)) (cs : List Prop) {f : FuncId} (args : List D) {x : D} {st' : List Bk} (args' : List D) (h : actL P T ops dr l gs sl st = some (cs, f, args)) (hc : Alls cs) (ha : LeL args args') (hp : Acts P f args' st [] x st') (k : seqW P T ops dr l.tail (putD sl (hdst l) x) st' K) : seqW P T ops dr l sl st K := by
 unfold actL at h
 split at h
 ·cases h
 ·rename_i o r
  split at h
  ·rename_i c1 g1 s1 hg
   split at h
   ·rename_i f1 a1 he
    split at h
    ·rename_i hl
     simp only [Option.some.injEq, Prod.mk.injEq] at h
     obtain ⟨rfl, rfl, rfl⟩ := h
     obtain ⟨rfl, g2⟩ := zE6 (P := P) (T := T) hg hc
     simp only [Bool.and_eq_true, Bool.not_eq_true', Bool.or_eq_true] at hl
     exact g2 (go_act he hl.1 hl.2 (hp.le ha) rfl k)
    ·cases h
   ·cases h
  ·cases h
theorem zR2 (k : K sl st) (e : l = []) : seqW P T ops dr l sl st K := by subst e; exact k
def zXc (ops : Array Oper) (l : List Oper) (sl : List D) : Option (Nat × Bool) := match l with
 | [] => none
 | o :: _ => match o.guard with
  | none => none
  | some (j, _) => match (ops[j]?).bind (·.dst) with
   | none => none
   | some t => match sl.getD t .unk with
    | .val (.bool b) => some (t, b)
    | _ => none
theorem zY0 (t : Nat) (b : Bool) (h : zXc ops l sl = some (t, b)) (k1 : b = true → seqW P T ops dr l (sl.set t (.val (.bool true))) st K) (k2 : b = false → seqW P T ops dr l (sl.set t (.val (.bool false))) st K) : seqW P T ops dr l sl st K := by
 unfold zXc at h
 (repeat' split at h) <;> try cases h
 rename_i hb
 cases b with
 | true => rw [← zD9 hb (by simp)]; exact k1 rfl
 | false => rw [← zD9 hb (by simp)]; exact k2 rfl
theorem zDv {K' : List D → List Bk → Prop} (hK : ∀ sl st, K sl st → K' sl st) : ∀ (l : List Oper) (sl : List D) (st : List Bk), seqW P T ops dr l sl st K → seqW P T ops dr l sl st K'
 | [], sl, st, h => hK _ _ h
 | o :: r, sl, st, h => by
  have ih := zDv hK r
  have go : goW P T ops dr o r sl st K → goW P T ops dr o r sl st K' := by
   unfold goW
   split
   ·exact fun h => h
   ·exact fun h => ⟨h.1, h.2.1, ih _ _ h.2.2⟩
   ·exact fun h => ⟨h.1, h.2.1, ih _ _ h.2.2⟩
   ·exact fun h => ⟨h.1, h.2.1, ih _ _ h.2.2⟩
   ·rintro ⟨h1, n, x, h2, h3⟩; exact ⟨h1, n, x, h2, ih _ _ h3⟩
   ·exact fun h => ⟨h.1, h.2.1, ih _ _ h.2.2⟩
   ·exact fun h => ⟨h.1, h.2.1, ih _ _ h.2.2⟩
   ·rintro ⟨h1, h4, c, x, s, h2, h3⟩; exact ⟨h1, h4, c, x, s, h2, ih _ _ h3⟩
  cases hg : o.guard with
  | none =>
   simp only [seqW, hg] at h
   exact zCe hg (go h)
  | some jw =>
   obtain ⟨j, want⟩ := jw
   simp only [seqW, hg] at h ⊢
   split at h
   ·exact ⟨fun e => go (h.1 e), fun e => ih _ _ (h.2 e)⟩
   ·exact ih _ _ h
   ·exact h.elim
end
theorem zN4 {ops : Array Oper} {K K' : List D → List Bk → Prop} (hK : ∀ sl st, K sl st → K' sl st) : ∀ (its : List zHv) (sl : List D) (st : List Bk), seqI P T ops its sl st K → seqI P T ops its sl st K'
 | [], sl, st, h => hK _ _ h
 | (e, c, l) :: r, sl, st, h => ⟨h.1, zDv (fun sl st h2 => ⟨h2.1, zDv (fun sl st h3 => zN4 hK r sl st h3) _ _ _ h2.2⟩) _ _ _ h.2⟩
theorem zNg : ∀ (c : Code) {Q Q' : Exit → List D → List Bk → Prop} (hQ : ∀ e sl st, Q e sl st → Q' e sl st) (sl : List D) (st : List Bk), awp P T c Q sl st → awp P T c Q' sl st := by
 intro c
 induction c with
 | skip => intro Q Q' hQ sl st h; exact hQ _ _ _ h
 | region id ops dr =>
  intro Q Q' hQ sl st h
  simp only [awp] at h ⊢
  split
  ·rename_i hd
   rw [if_pos hd] at h
   rcases h with ⟨o, h1, h2⟩ | ⟨l0, its, h1, h2⟩
   ·exact .inl ⟨o, h1, zDv (hQ .normal) _ _ _ h2⟩
   ·exact .inr ⟨l0, its, h1, zDv (fun sl st h3 => zN4 (hQ .normal) _ _ _ h3) _ _ _ h2⟩
  ·rename_i hd
   rw [if_neg hd] at h
   exact zDv (hQ .normal) _ _ _ h
 | seq x y ihx ihy =>
  intro Q Q' hQ sl st h
  simp only [awp] at h ⊢
  refine ihx (fun e sl st hk => ?_) sl st h
  cases e <;> simp only [zAf] at hk ⊢ <;> first | exact hQ _ _ _ hk | skip
  obtain ⟨a, b, c, d⟩ := hk
  exact ⟨a, b, c, ihy hQ _ _ d⟩
 | cond c x y ihx ihy =>
  intro Q Q' hQ sl st h
  simp only [awp] at h ⊢
  split at h
  ·exact ⟨fun e => ihx hQ _ _ (h.1 e), fun e => ihy hQ _ _ (h.2 e)⟩
  ·exact h.elim
 | block id b ih =>
  intro Q Q' hQ sl st h
  simp only [awp] at h ⊢
  refine ih (fun e sl st hk => ?_) sl st h
  cases e <;> simp only [zAg] at hk ⊢ <;> first | exact hQ _ _ _ hk | skip
  split at hk
  ·rename_i e; rw [if_pos e]; exact hQ _ _ _ hk
  ·rename_i e; rw [if_neg e]; exact hQ _ _ _ hk
 | loop b ih =>
  intro Q Q' hQ sl st h
  simp only [awp] at h ⊢
  intro X hX
  refine h X fun Y sl st hY hb => hX Y sl st hY (ih (fun e sl st hk => ?_) sl st hb)
  cases e <;> simp only [zAf] at hk ⊢ <;> first | exact hQ _ _ _ hk | exact hk
 | exit id => intro Q Q' hQ sl st h; exact hQ _ _ _ h
 | label l => intro Q Q' hQ sl st h; exact hQ _ _ _ h
 | ret => intro Q Q' hQ sl st h; exact hQ _ _ _ h
 | _ => intro Q Q' hQ sl st h; exact h.elim
variable {Q : Exit → List D → List Bk → Prop} {sl : List D} {st : List Bk}
theorem zEs {c : Operand} {x y : Code} {t : Bool} (hc : evD sl c = .val (.bool t)) (ht : t = true) (h : awp P T x Q sl st) : awp P T (.cond c x y) Q sl st :=
 zR hc (fun _ => h) (fun e => by rw [ht] at e; cases e)
theorem zFy {c : Operand} {x y : Code} {t : Bool} (hc : evD sl c = .val (.bool t)) (ht : t = false) (h : awp P T y Q sl st) : awp P T (.cond c x y) Q sl st :=
 zR hc (fun e => by rw [ht] at e; cases e) (fun _ => h)
theorem cond_T {c : Operand} {x y : Code} (h : awp P T x Q sl st) (hc : evD sl c = .val (.bool true) := by kernel_rfl) : awp P T (.cond c x y) Q sl st := zEs hc rfl h
theorem cond_F {c : Operand} {x y : Code} (h : awp P T y Q sl st) (hc : evD sl c = .val (.bool false) := by kernel_rfl) : awp P T (.cond c x y) Q sl st := zFy hc rfl h
def resL (P : Program) (sl : List D) (st : List Bk) : List ResultVar → Option (List Prop × List D)
 | [] => some ([], [])
 | .tmp t :: rs => (resL P sl st rs).map fun x => (x.1, sl.getD t .unk :: x.2)
 | r :: rs => match zLs P sl st r with
  | .get p d => (resL P sl st rs).map fun x => (p :: x.1, d :: x.2)
  | _ => none
theorem zQw : ∀ {rs : List ResultVar} {cs : List Prop} {ds : List D} {K : List D → Prop}, resL P sl st rs = some (cs, ds) → Alls cs → K ds → retL P sl st rs K
 | [], cs, ds, K, h, hc, k => by
  simp only [resL, Option.some.injEq, Prod.mk.injEq] at h
  obtain ⟨_, rfl⟩ := h
  exact k
 | r :: rs, cs, ds, K, h, hc, k => by
  have key : ∀ p d, zLs P sl st r = .get p d → (∃ c1 d1, resL P sl st rs = some (c1, d1) ∧ (p ∧ Alls c1) ∧ ds = d :: d1) → retL P sl st (r :: rs) K := by
   rintro p d e ⟨c1, d1, h1, ⟨h2, h3⟩, rfl⟩
   simp only [retL, e]
   exact ⟨h2, zQw h1 h3 k⟩
  cases r with
  | tmp t =>
   simp only [resL, Option.map_eq_some_iff, Prod.exists, Prod.mk.injEq] at h
   obtain ⟨c1, d1, h1, rfl, rfl⟩ := h
   exact key True _ rfl ⟨c1, d1, h1, ⟨trivial, hc⟩, rfl⟩
  | cell a t =>
   simp only [resL] at h
   split at h
   ·rename_i p d he
    simp only [Option.map_eq_some_iff, Prod.exists, Prod.mk.injEq] at h
    obtain ⟨c1, d1, h1, rfl, rfl⟩ := h
    exact key p d he ⟨c1, d1, h1, hc.cons, rfl⟩
   ·cases h
def retC (P : Program) (rs : List ResultVar) (sl : List D) (st : List Bk) : Option (List Prop × D) := match resL P sl st rs with
 | none => none
 | some (cs, ds) => (frz true st zAl (oneD ds)).map fun y => (cs, y.1)
theorem zBm {rs : List ResultVar} {e : Exit} {x : D} (C : Prop) (y y' : D) (he : e = .normal ∨ e = .ret) (h : (retC P rs sl st).map (fun x => (Alls x.1, zE0 x.2)) = some (C, y)) (hc : C) (hy : y = y') (hx : y' = x) : (e = .normal ∨ e = .ret) ∧ retL P sl st rs (fun ds => ∃ y ks, frz true st zAl (oneD ds) = some (y, ks) ∧ LeD y x) := by
 subst hy
 refine ⟨he, ?_⟩
 rw [Option.map_eq_some_iff] at h
 obtain ⟨⟨c, y0⟩, h, h0⟩ := h
 simp only [Prod.mk.injEq] at h0
 obtain ⟨rfl, rfl⟩ := h0
 unfold retC at h
 split at h
 ·cases h
 ·rename_i c1 ds h1
  rw [Option.map_eq_some_iff] at h
  obtain ⟨⟨y1, ks⟩, h2, h3⟩ := h
  simp only [Prod.mk.injEq] at h3
  obtain ⟨rfl, rfl⟩ := h3
  exact zQw h1 hc ⟨y1, ks, h2, hx ▸ zWt y1⟩
theorem zCu {rs : List ResultVar} {e : Exit} {K : List D → Prop} (C : Prop) (ds : List D) (he : e = .normal ∨ e = .ret) (h : (resL P sl st rs).map (fun x => (Alls x.1, x.2)) = some (C, ds)) (hc : C) (hk : K ds) : (e = .normal ∨ e = .ret) ∧ retL P sl st rs K := by
 rw [Option.map_eq_some_iff] at h
 obtain ⟨⟨c, y0⟩, h, h0⟩ := h
 simp only [Prod.mk.injEq] at h0
 obtain ⟨rfl, rfl⟩ := h0
 exact ⟨he, zQw h hc hk⟩
theorem zW {α : Type} {b0 : Code} (S : α → List D) (B : α → List Bk) (μ : α → Nat) (J : α → Prop) (a₀ : α) (h₀ : J a₀) (hw : Weak T sl st (S a₀) (B a₀))
  (step : ∀ a, J a → awp P T b0 (zAf (fun sl' st' => ∃ a', J a' ∧ μ a' < μ a ∧ Weak T sl' st' (S a') (B a')) Q) (S a) (B a)) : awp P T (.loop b0) Q sl st := by
 refine zNh (α := α) (S) (B) (μ) (J) a₀ h₀ hw ?_
 rintro a hj
 refine zNg b0 (fun e sl st hk => ?_) _ _ (step a hj)
 cases e <;> simp only [zAf] at hk ⊢ <;> first | exact hk | skip
theorem zAu {α : Type} {β : Type} {b0 : Code} (S : α → β → List D) (B : α → β → List Bk) (μ : α → β → Nat) (J : α → β → Prop) (a₀ : α) (b₀ : β) (h₀ : J a₀ b₀) (hw : Weak T sl st (S a₀ b₀) (B a₀ b₀))
  (step : ∀ a b, J a b → awp P T b0 (zAf (fun sl' st' => ∃ a' b', J a' b' ∧ μ a' b' < μ a b ∧ Weak T sl' st' (S a' b') (B a' b')) Q) (S a b) (B a b)) : awp P T (.loop b0) Q sl st := by
 refine zNh (α := α × β) (fun x => S x.1 x.2) (fun x => B x.1 x.2) (fun x => μ x.1 x.2) (fun x => J x.1 x.2) (a₀, b₀) h₀ hw ?_
 rintro ⟨a, b⟩ hj
 refine zNg b0 (fun e sl st hk => ?_) _ _ (step a b hj)
 cases e <;> simp only [zAf] at hk ⊢ <;> first | exact hk | skip
 obtain ⟨a', b', h1, h2, h3⟩ := hk
 exact ⟨(a', b'), h1, h2, h3⟩
theorem zA4 {α : Type} {β : Type} {γ : Type} {b0 : Code} (S : α → β → γ → List D) (B : α → β → γ → List Bk) (μ : α → β → γ → Nat) (J : α → β → γ → Prop) (a₀ : α) (b₀ : β) (c₀ : γ) (h₀ : J a₀ b₀ c₀) (hw : Weak T sl st (S a₀ b₀ c₀) (B a₀ b₀ c₀))
  (step : ∀ a b c, J a b c → awp P T b0 (zAf (fun sl' st' => ∃ a' b' c', J a' b' c' ∧ μ a' b' c' < μ a b c ∧ Weak T sl' st' (S a' b' c') (B a' b' c')) Q) (S a b c) (B a b c)) : awp P T (.loop b0) Q sl st := by
 refine zNh (α := α × β × γ) (fun x => S x.1 x.2.1 x.2.2) (fun x => B x.1 x.2.1 x.2.2) (fun x => μ x.1 x.2.1 x.2.2) (fun x => J x.1 x.2.1 x.2.2) (a₀, b₀, c₀) h₀ hw ?_
 rintro ⟨a, b, c⟩ hj
 refine zNg b0 (fun e sl st hk => ?_) _ _ (step a b c hj)
 cases e <;> simp only [zAf] at hk ⊢ <;> first | exact hk | skip
 obtain ⟨a', b', c', h1, h2, h3⟩ := hk
 exact ⟨(a', b', c'), h1, h2, h3⟩
theorem Weak.all {sl' : List D} {st' : List Bk} (m : Nat) (bs : List Bk) (hl : LeL sl sl') (hn : zKg sl' st m st.length = true) (hk : ∀ k, m ≤ k → T.keep k = false) (e : st.take m ++ bs = st') : Weak T sl st sl' st' := by
 subst e
 exact ((Weak.slots hl).trans (Weak.cut m hn hk)).trans (Weak.more bs)
def assocN (hs : List (Nat × Nat)) (i : Nat) : Nat := match hs with
 | [] => 0
 | (j, h) :: r => if i == j then h else assocN r i
def le1 (h : Nat) (d d' : D) : List Prop := match h with
 | 0 => match d' with
  | .unk => []
  | _ => [False]
 | 1 => [d = d']
 | 2 => match d, d' with
  | .val (.slice none 0 0), .osl _ 0 0 0 _ => []
  | _, _ => [False]
 | 3 => match d, d' with
  | .val (.slice none 0 0), .row [] 0 => []
  | _, _ => [False]
 | 4 => match d with
  | .fx e => [e = d']
  | _ => [False]
 | _ => [False]
def leC : Nat → List D → List D → List (Nat × Nat) → List Prop
 | _, [], [], _ => []
 | i, d :: ds, d' :: ds', hs => le1 (assocN hs i) d d' ++ leC (i + 1) ds ds' hs
 | _, _, _, _ => [False]
theorem LeD.fx (d : D) : LeD (.fx d) d := fun I w β v h => by
 simp only [Rel] at h
 exact Rel.no h.2
theorem zW3 {hs : List (Nat × Nat)} : ∀ {i : Nat} {sl sl' : List D}, Alls (leC i sl sl' hs) → LeL sl sl'
 | i, [], [], _ => .nil
 | i, [], _ :: _, h => h.elim
 | i, _ :: _, [], h => h.elim
 | i, d :: ds, d' :: ds', h => by
  simp only [leC] at h
  obtain ⟨h1, h2⟩ := Alls.app h
  refine .cons ?_ (zW3 h2)
  unfold le1 at h1
  split at h1
  ·split at h1
   ·exact .unk _
   ·exact h1.elim
  ·exact .eq h1
  ·split at h1
   ·exact .nil _ _
   ·exact h1.elim
  ·split at h1
   ·exact .nil_row
   ·exact h1.elim
  ·split at h1
   ·rename_i e
    have h3 : e = d' := h1
    subst h3
    exact LeD.fx _
   ·exact h1.elim
  ·exact h1.elim
theorem zJi {sl' : List D} {st' : List Bk} (hs : List (Nat × Nat)) (C : Prop) (m : Nat) (bs : List Bk) (h : Alls (leC 0 sl sl' hs) = C) (hc : C) (hn : zKg sl' st m st.length = true) (hk : ∀ k, m ≤ k → T.keep k = false) (e : st.take m ++ bs = st') : Weak T sl st sl' st' := by
 subst h
 exact Weak.all m bs (zW3 hc) hn hk e
end
end
section
open Go.RowKit
abbrev eqDL (a b : List D) : Prop := a = b
section
variable {P : Program} {T : Par} {ops : Array Oper} {dr : Bool} {l : List Oper} {sl : List D} {st : List Bk} {K : List D → List Bk → Prop}
theorem zYw {sl' : List D} (hs : List (Nat × Nat)) (C : Prop) (h : Alls (leC 0 sl sl' hs) = C) (hc : C) : Weak T sl st sl' st := by
 subst h
 exact Weak.slots (zW3 hc)
theorem zG2 (gs : List (Nat × Bool)) (cs : List Prop) {f : FuncId} (args : List D) {x : D} {st' : List Bk} {ch : List Nat} (args' : List D) (h : actL P T ops dr l gs sl st = some (cs, f, args)) (hc : Alls cs) (ha : LeL args args') (hp : Acts P f args' st ch x st') (hk : ch.all (fun k => !T.keep k) = true) (k : seqW P T ops dr l.tail (putD (sl.map (zB6 ch)) (hdst l) x) st' K) : seqW P T ops dr l sl st K := by
 unfold actL at h
 split at h
 ·cases h
 ·rename_i o r
  split at h
  ·rename_i c1 g1 s1 hg
   split at h
   ·rename_i f1 a1 he
    split at h
    ·rename_i hl
     simp only [Option.some.injEq, Prod.mk.injEq] at h
     obtain ⟨rfl, rfl, rfl⟩ := h
     obtain ⟨rfl, g2⟩ := zE6 (P := P) (T := T) hg hc
     simp only [Bool.and_eq_true, Bool.not_eq_true', Bool.or_eq_true] at hl
     refine g2 ?_
     simp only [goW, he]
     exact ⟨hl.1, hl.2, ch, x, st', ⟨hp.le ha, fun k hk' => by simpa using List.all_eq_true.1 hk k hk'⟩, k⟩
    ·cases h
   ·cases h
  ·cases h
def updB (st : List Bk) (ups : List (Nat × Bk)) (news : List Bk) : List Bk := ups.foldl (fun s p => s.set p.1 p.2) st ++ news
theorem Acts.cut {f : FuncId} {args : List D} {s : List Bk} {x : D} {ch : List Nat} (m : Nat) (h : Acts P f args st ch x s) (hm : st.length ≤ m) (hn : zKg [x] s m s.length = true) : Acts P f args st ch x (s.take m) := by
 intro β I w vs hr hsr hinj hfz hdom hi hg
 refine (h β I w vs hr hsr hinj hfz hdom hi hg).mono ?_
 rintro e w' ⟨v, β', I', rfl, p1, p2, p3, p4, p5, p6, p7, p8⟩
 have hs : Sim β' I' w' [x] s [v] := ⟨by simp only [RelT]; exact ⟨v, [], rfl, p8, rfl⟩, p4, p5, p6, p7, p1, hg.mono p2.fix⟩
 obtain ⟨β2, I2, s2, t2, k2⟩ := Weak.cut (T := ⟨fun _ => false, fun _ _ => none, fun k => decide (k < m), fun _ => false, fun _ => false⟩) m hn (fun k hk => by simp; omega) β' I' w' _ hs
 have hx := s2.rel
 simp only [RelT] at hx
 obtain ⟨v2, us, hv, hx, _⟩ := hx
 simp only [List.cons.injEq] at hv
 obtain ⟨rfl, _⟩ := hv
 refine ⟨v, β2, I2, rfl, s2.imb, p2.trans t2, fun k y hk hb => k2 k y (by have := hdom k y hb; simp; omega) (p3 k y hk hb), s2.sr, s2.inj, s2.fz, s2.dom, hx⟩
end
end
section
open Go.RowKit
theorem zY {α β : Type} {f : α → β} {l : List α} (h : 0 < l.length) : l.map f ≠ [] := fun e => by
 rw [List.map_eq_nil_iff] at e; subst e; simp at h
theorem zC7 {α : Type} (f : α → D) (l : List α) (d0 : α) (k : Nat) (h : k < l.length) : ((l.map f).drop k).headD .unk = f (l.getD k d0) := by
 rw [List.drop_eq_getElem_cons (by simpa using h)]; simp [h]
theorem zDb (a : Nat) (h : 1 ≤ a) : (a : Int) - 1 = ((a - 1 : Nat) : Int) := by omega
theorem zHl (n : Nat) : Int.fdiv (n : Int) (2 ^ 32) = ((n / 4294967296 : Nat) : Int) := by
 rw [Int.fdiv_eq_ediv_of_nonneg _ (by decide)]; omega
abbrev dig (x : Nat) : D := .val (.int .u32 x)
abbrev digR (l : List Nat) : D := .row (l.map dig) l.length
theorem zA7 (l : List Nat) (k : Nat) (h : k < l.length) : ((l.map dig).drop k).headD .unk = dig (l.getD k 0) := by
 rw [List.drop_eq_getElem_cons (by simpa using h)]; simp [h]
theorem zEx (l : List Nat) (k x : Nat) : (l.map dig).set k (.val (.int .u32 (x : Int))) = (l.set k x).map dig := by
 rw [List.map_set]
theorem zMq (n : Nat) : repL n [.val (.int .u32 0)] = (List.replicate n 0).map dig := by
 rw [List.map_replicate]
 induction n with
 | zero => rfl
 | succ n ih => simp only [repL, List.replicate_succ, List.flatten_cons, List.cons_append, List.nil_append] at ih ⊢; rw [ih]; rfl
theorem zGd (l : List Nat) (n : Nat) : (l.map dig).take n = (l.take n).map dig := by rw [List.map_take]
def dg (n : Nat) : List Nat := if h : n = 0 then [] else n % 4294967296 :: dg (n / 4294967296)
 decreasing_by omega
theorem zBd (n : Nat) : nval (dg n) = n := by
 induction n using Nat.strongRecOn with
 | _ n ih =>
  unfold dg
  split
  ·simp [nval, *]
  ·rw [nval, ih _ (by omega)]; omega
theorem zBg (n : Nat) : Digs (dg n) := by
 induction n using Nat.strongRecOn with
 | _ n ih =>
  intro i
  unfold dg
  split
  ·simp
  ·cases i with
   | zero => simp; omega
   | succ i => simp only [List.getD_cons_succ]; exact ih _ (by omega) i
theorem zQ1 {x : Nat} {l : List Nat} (h : Normal (x :: l)) : Normal l ∧ (l = [] → x ≠ 0) := by
 rcases h with h | h
 ·cases h
 ·cases l with
  | nil => exact ⟨.inl rfl, fun _ => by simpa using h⟩
  | cons y l => exact ⟨.inr (by simpa using h), fun h => by cases h⟩
theorem zXs : ∀ (l : List Nat), Normal l → Digs l → dg (nval l) = l
 | [], _, _ => by unfold dg; simp [nval]
 | x :: l, hn, hd => by
  obtain ⟨h1, h2⟩ := zQ1 hn
  have hx : x < 4294967296 := by simpa using hd 0
  have ih := zXs l h1 (fun i => by simpa using hd (i + 1))
  have hne : nval (x :: l) ≠ 0 := fun h => by
   have := (Normal.zero hn).1 h
   cases this
  rw [nval] at hne ⊢
  unfold dg
  rw [dif_neg hne, show (x + 4294967296 * nval l) % 4294967296 = x by omega, show (x + 4294967296 * nval l) / 4294967296 = nval l by omega, ih]
theorem zMg {l : List Nat} (hl : Digs l) : l.take (zBl l l.length) = dg (nval l) := by
 have h1 := zPk l l.length (Nat.le_refl _)
 have h2 := zF3 l l.length (Nat.le_refl _)
 rw [List.take_length] at h1
 rw [← h1, zXs _ h2 (hl.take _)]
theorem zPl (n : Nat) : Normal (dg n) := by
 have h := zF3 (dg n) (dg n).length (Nat.le_refl _)
 rw [zMg (zBg n), zBd] at h; exact h
theorem zL9 {l : List Nat} (hl : Digs l) : (dg (nval l)).length ≤ l.length := by
 rw [← zMg hl, List.length_take]; omega
def cmpD (a b : Int) : Int := if a < b then -1 else if b < a then 1 else 0
theorem zXy {a b c d : Nat} (h1 : a < b → c < d) (h2 : b < a → d < c) (h3 : a = b → c = d) : cmpD a b = cmpD c d := by
 unfold cmpD
 rcases Nat.lt_trichotomy a b with h | h | h
 ·have := h1 h; rw [if_pos (by omega), if_pos (by omega)]
 ·have := h3 h; rw [if_neg (by omega), if_neg (by omega), if_neg (by omega), if_neg (by omega)]
 ·have := h2 h; rw [if_neg (by omega), if_pos (by omega), if_neg (by omega), if_pos (by omega)]
abbrev natD (n : Nat) : D := digR (dg n)
end
section
open Go.ChangeShapes Go.WideShapes Go.ChangeAt Go.RowKit
section
variable {H : Type} {enc : TypeId × Value → H} {P : Program}
theorem zJv (hl : laidOutB P = true) {W W' : World} (hb : Ext W W') : ∀ {ts : List TypeId} {vs : List Value} {ds : List (DataW H)} {ps : List MemPlace} (sp : Nat → Bool),
  ts.all (fun t => P.readableRec t && decide (t < P.types.size)) = true → DataW.TrodAll enc P W 0 (fun _ => true) true ts vs ds ps → (∀ p ∈ ps, p.block < W.heap.size) → (∀ p ∈ ps, sp p.block = true) → DataW.TrodAll enc P W' 0 sp true ts vs ds ps
 | [], [], [], ps, sp, _, h, _, _ => h
 | t :: ts, v :: vs, d :: ds, ps, sp, hr, ⟨p, q, h1, h2, h3⟩, hlt, hsp => by
  subst h3
  simp only [List.all_cons, Bool.and_eq_true, decide_eq_true_eq] at hr
  refine ⟨p, q, WideElems.Trod_stays hl hr.1.1 hr.1.2 h1 (fun x hx => Below.same hb.1 (hlt x (List.mem_append_left _ hx))) (fun x hx => hsp x (List.mem_append_left _ hx)), ?_, rfl⟩
  exact zJv hl hb sp hr.2 h2 (fun x hx => hlt x (List.mem_append_right _ hx)) (fun x hx => hsp x (List.mem_append_right _ hx))
 | [], _ :: _, _, _, _, _, h, _, _ => h.elim
 | [], [], _ :: _, _, _, _, h, _, _ => h.elim
 | _ :: _, [], _, _, _, _, h, _, _ => h.elim
 | _ :: _, _ :: _, [], _, _, _, h, _, _ => h.elim
theorem zWp {f : Func} {s : ChangeSpec} {W W' : World} {args : Array Value} {ds : List (DataW H)} {before : List MemPlace} {bt : TypeId}
  (hl : laidOutB P = true) (hv : s.vars = []) (hrt : f.resultTypes = #[bt]) (hbt : P.underlying bt = some .bool)
  (hr : f.params.toList.all (fun t => P.readableRec t && decide (t < P.types.size)) = true)
  (hfn : s.fn H ds = { results := [.lit (.bool true)], args := ds })
  (hW : DataW.Whole enc P f.params.toList s.vars false W args.toList ds [] before) (hx : Ext W W') :
  s.post enc P f false true false false W args (.bool true) W' := by
 have hlt : ∀ p ∈ before, p.block < W.heap.size := fun p hp => hW.lt p hp
 obtain ⟨p, q, hA, hV, hpq, hz, hn⟩ := id hW
 rw [hv] at hV
 have hq : q = [] := hV
 subst hq
 rw [List.append_nil] at hpq
 subst hpq
 have hfn' : s.fn H (ds ++ []) = { results := [.lit (.bool true)], args := ds } := by rw [List.append_nil]; exact hfn
 have hstay : ∀ sp : Nat → Bool, (∀ x ∈ before, sp x.block = true) → DataW.TrodAll enc P W' 0 sp true f.params.toList args.toList ds before := fun sp hsp => zJv hl hx sp hr hA hlt hsp
 have hres : ∀ (b : Nat) (sp : Nat → Bool) (hd : Bool), DataW.TrodAll enc P W' b sp hd f.resultTypes.toList ((Value.bool true).resultList f.resultTypes.size) [.lit (.bool true)] [] := by
  intro b sp hd
  rw [hrt]
  exact ⟨[], [], shut_bool hbt true, rfl, rfl⟩
 have hvars : ∀ sp : Nat → Bool, DataW.TrodVars enc P W' sp s.vars ([] : List (DataW H)) [] := fun sp => by rw [hv]; exact rfl
 refine ⟨ds, [], before, [], before, [], hW, by rw [hfn']; exact hres _ _ _, by rw [hfn']; exact hstay _ (fun x hx => by simpa using hlt x hx), by rw [hfn']; exact hvars _, World.keptBut_mono (fun x hx => ⟨hx, Or.inr (by simpa using hx)⟩) (Below.frame hx.1 (· ∈ before)), fun _ => ?_⟩
 refine ⟨?_, _, _, ([] ++ before) ++ [], ⟨[] ++ before, [], trodAll_append (by simpa using hstay _ (fun _ _ => rfl)) (by simpa using hres _ _ _), hvars _, rfl, ?_, fun h => by cases h⟩, ?_⟩
 ·intro j t r h1 h2
  rw [hrt] at h1 h2
  cases j with
  | zero =>
   simp [Value.resultList] at h1 h2
   subst h1 h2
   exact okWide_bool_mk hbt _
  | succ j => simp at h1
 ·intro b off hp
  have hin : MemPlace.cell b off ∈ before := by simpa using hp
  rw [Below.frozen hx.1 (hlt _ hin)]
  exact hz b off hin
 ·intro x hx2 _
  simpa using hx2
end
end
section
open Go.ChangeShapes Go.WideShapes Go.ChangeAt Go.RowKit
def allI (w : World) : Im := fun b _ => b < w.heap.size
def Shp (P : Program) : Nat → TypeId → List D → Prop
 | 0, _, _ => False
 | n + 1, t, ds => match P.underlying t with
  | some .bool => ∃ b, ds = [.val (.bool b)]
  | some (.int k) => ∃ z, ds = [.val (.int k z)] ∧ (Lit.int k z).wf = true
  | some .string => ∃ s, ds = [.val (.string s)] ∧ s.size ≤ maxLen
  | some (.slice e) => ∃ ls : List (List D), ds = [.row ls.flatten ls.length] ∧ (∀ x ∈ ls, Shp P n e x ∧ x.length = P.cellsOf e) ∧ ls.length ≤ maxLen
  | some (.struct fs) => ds.length = P.cellsOf t ∧ ∀ f ∈ fs.toList, Shp P n f.type ((ds.drop f.offset).take (P.cellsOf f.type))
  | some (.array m e) => ds.length = P.cellsOf t ∧ ∀ i, i < m → Shp P n e ((ds.drop (i * P.cellsOf e)).take (P.cellsOf e))
  | _ => False
section
variable {H : Type} {enc : TypeId × Value → H} {P : Program} {w : World}
theorem zGq {α β : Type} {f : α → Option β} : ∀ {l : List α} {r : List β}, l.mapM f = some r → r.length = l.length ∧ ∀ (i : Nat) x, l[i]? = some x → ∃ y, f x = some y
 | [], r, h => by simp at h; subst h; exact ⟨rfl, by simp⟩
 | a :: l, r, h => by
  rw [List.mapM_cons] at h
  cases ha : f a with
  | none => simp [ha] at h
  | some b =>
   cases hl : l.mapM f with
   | none => simp [ha, hl] at h
   | some bs =>
    simp [ha, hl] at h
    subst h
    obtain ⟨h1, h2⟩ := zGq hl
    refine ⟨by simp [h1], fun i x hx => ?_⟩
    cases i with
    | zero => simp at hx; subst hx; exact ⟨b, ha⟩
    | succ i => exact h2 i x (by simpa using hx)
theorem RelC.append {I : Im} {b : Nat} : ∀ {x y : List D} {o : Nat}, RelC I w x b o → RelC I w y b (o + x.length) → RelC I w (x ++ y) b o
 | [], y, o, h, k => by simpa using k
 | d :: x, y, o, h, k => by
  simp only [List.cons_append, RelC] at h ⊢
  refine ⟨h.1, h.2.append ?_⟩
  rw [show o + 1 + x.length = o + (d :: x).length by simp; omega]; exact k
theorem zH1 {I : Im} {b sz : Nat} : ∀ (ls : List (List D)) (o : Nat), (∀ j x, ls[j]? = some x → RelC I w x b (o + j * sz) ∧ x.length = sz) → RelC I w ls.flatten b o
 | [], o, h => by simp only [List.flatten_nil, RelC]
 | x :: ls, o, h => by
  rw [List.flatten_cons]
  have h0 := h 0 x rfl
  refine RelC.append (by simpa using h0.1) (zH1 (sz := sz) ls _ fun j y hy => ?_)
  have := h (j + 1) y (by simpa using hy)
  rw [h0.2]
  refine ⟨?_, this.2⟩
  rw [show o + sz + j * sz = o + (j + 1) * sz by rw [Nat.succ_mul]; omega]; exact this.1
theorem zMr {b o n : Nat} {cs : List Value} {ds : List D} (h : RelL (allI w) w noB ds cs) (hc : ∀ j v, cs[j]? = some v → w.cell? ⟨b, o + j, none⟩ = some v) : RelC (allI w) w ds b o :=
 RelC.of_get fun i d hd => by
  obtain ⟨v, k1, k2, k3⟩ := h.get i d hd
  have hv := hc i v k1
  exact ⟨World.block_lt_of_cell? w _ hv, v, hv, k2, k3⟩
def zE8 (P : Program) (total : Nat) : List Field → Nat → Bool
 | [], off => off == total
 | f :: r, off => f.offset == off && zE8 P total r (off + P.cellsOf f.type)
theorem zP7 {total : Nat} : ∀ {fs : List Field} {off : Nat}, zE8 P total fs off = true → off ≤ total
 | [], off, h => by simp [zE8] at h; omega
 | f :: r, off, h => by
  simp only [zE8, Bool.and_eq_true, beq_iff_eq] at h
  have := zP7 h.2
  omega
theorem zP8 {total : Nat} : ∀ {fs : List Field} {off : Nat}, zE8 P total fs off = true → ∀ f ∈ fs, off ≤ f.offset
 | [], off, h, f, hf => by cases hf
 | g :: r, off, h, f, hf => by
  simp only [zE8, Bool.and_eq_true, beq_iff_eq] at h
  rcases List.mem_cons.1 hf with rfl | hf
  ·omega
  ·have := zP8 h.2 f hf; omega
theorem zL5 {total : Nat} {cs : List Value} (hl : cs.length = total) {S : TypeId → List D → Prop} : ∀ (fs : List Field) (off : Nat), zE8 P total fs off = true → (∀ f ∈ fs, ∃ ds, RelL (allI w) w noB ds ((cs.drop f.offset).take (P.cellsOf f.type)) ∧ S f.type ds) →
  ∃ ds, RelL (allI w) w noB ds (cs.drop off) ∧ ∀ f ∈ fs, S f.type ((ds.drop (f.offset - off)).take (P.cellsOf f.type))
 | [], off, hc, h => by
  simp only [zE8, beq_iff_eq] at hc
  exact ⟨[], by rw [List.drop_of_length_le (by omega)]; simp only [RelL], by simp⟩
 | f :: r, off, hc, h => by
  simp only [zE8, Bool.and_eq_true, beq_iff_eq] at hc
  obtain ⟨df, h1, h2⟩ := h f (List.mem_cons_self ..)
  obtain ⟨dr, h3, h4⟩ := zL5 hl r _ hc.2 (fun g hg => h g (List.mem_cons_of_mem _ hg))
  have hle := zP7 hc.2
  have hlen : df.length = P.cellsOf f.type := by
   rw [h1.length, List.length_take, List.length_drop, hc.1]; omega
  refine ⟨df ++ dr, ?_, fun g hg => ?_⟩
  ·have := h1.append h3
   rw [hc.1] at this
   rwa [show (cs.drop off).take (P.cellsOf f.type) ++ cs.drop (off + P.cellsOf f.type) = cs.drop off by rw [← List.drop_drop]; exact List.take_append_drop _ _] at this
  ·rcases List.mem_cons.1 hg with rfl | hg
   ·rw [hc.1, Nat.sub_self, List.drop_zero, List.take_append_of_le_length (by omega), List.take_of_length_le (by omega)]
    exact h2
   ·have hge := zP8 hc.2 g hg
    have := h4 g hg
    rw [List.drop_append, List.drop_of_length_le (l := df) (by omega), List.nil_append, show g.offset - off - df.length = g.offset - (off + P.cellsOf f.type) by omega]
    exact this
theorem zPv {sz : Nat} {S : List D → Prop} : ∀ (m : Nat) (cs : List Value), cs.length = m * sz → (∀ i, i < m → ∃ ds, RelL (allI w) w noB ds ((cs.drop (i * sz)).take sz) ∧ S ds) →
  ∃ ds, RelL (allI w) w noB ds cs ∧ ∀ i, i < m → S ((ds.drop (i * sz)).take sz)
 | 0, cs, hl, h => by
  obtain rfl : cs = [] := List.eq_nil_of_length_eq_zero (by simpa using hl)
  exact ⟨[], by simp only [RelL], by simp⟩
 | m + 1, cs, hl, h => by
  obtain ⟨d0, h1, h2⟩ := h 0 (by omega)
  rw [Nat.zero_mul, List.drop_zero] at h1
  rw [Nat.succ_mul] at hl
  have hlen : d0.length = sz := by rw [h1.length, List.length_take]; omega
  obtain ⟨dr, h3, h4⟩ := zPv (sz := sz) (S := S) m (cs.drop sz) (by rw [List.length_drop]; omega) (fun i hi => by
   obtain ⟨ds, k1, k2⟩ := h (i + 1) (by omega)
   refine ⟨ds, ?_, k2⟩
   rw [List.drop_drop, show sz + i * sz = (i + 1) * sz by rw [Nat.succ_mul]; omega]
   exact k1)
  refine ⟨d0 ++ dr, ?_, fun i hi => ?_⟩
  ·have := h1.append h3
   rwa [List.take_append_drop] at this
  ·cases i with
   | zero =>
    rw [Nat.zero_mul, List.drop_zero, List.take_append_of_le_length (by omega), List.take_of_length_le (by omega)]
    exact h2
   | succ i =>
    have := h4 i (by omega)
    rw [Nat.succ_mul, List.drop_append, List.drop_of_length_le (l := d0) (by omega), List.nil_append, show i * sz + sz - d0.length = i * sz by omega]
    exact this
def okT (P : Program) : Nat → TypeId → Bool
 | 0, _ => true
 | n + 1, t => match P.underlying t with
  | some .bool | some (.int _) | some .string => true
  | some (.slice e) => decide (0 < P.cellsOf e) && okT P n e
  | some (.struct fs) => zE8 P (P.cellsOf t) fs.toList 0 && fs.toList.all (fun f => okT P n f.type)
  | some (.array m e) => P.cellsOf t == m * P.cellsOf e && okT P n e
  | _ => false
theorem zRw : ∀ (fuel : Nat) (t : TypeId) (cs : List Value) (d : DataW H) (ps : List MemPlace), DataW.trod enc P w 0 (fun _ => true) true fuel t cs = some (d, ps) → okT P fuel t = true → ∃ ds, RelL (allI w) w noB ds cs ∧ Shp P fuel t ds
 | 0, t, cs, d, ps, h, hk => by cases h
 | n + 1, t, cs, d, ps, h, hk => by
  have ih := zRw n
  simp only [DataW.trod] at h
  split at h
  case h_1 =>
   rename_i b hu
   exact ⟨[.val (.bool b)], by simp only [RelL, Rel]; exact ⟨_, _, rfl, rfl, rfl, rfl⟩, by simp [Shp, hu]⟩
  case h_2 =>
   rename_i k k' z hu
   split at h
   ·rename_i hc
    obtain ⟨rfl, hw⟩ := hc
    exact ⟨[.val (.int k' z)], by simp only [RelL, Rel]; exact ⟨_, _, rfl, rfl, rfl, rfl⟩, by simp [Shp, hu, hw]⟩
   ·cases h
  case h_4 =>
   rename_i z hu
   split at h
   ·rename_i hc
    exact ⟨[.val (.string z)], by simp only [RelL, Rel]; exact ⟨_, _, rfl, rfl, rfl, rfl⟩, by simp [Shp, hu, hc]⟩
   ·cases h
  case h_7 =>
   rename_i e hu
   exact ⟨[.row [] 0], by simp only [RelL, Rel]; exact ⟨_, _, rfl, rfl, ⟨none, 0, rfl, Nat.le_refl _, by decide, fun _ => rfl, .inl trivial⟩, rfl⟩, by simp only [Shp, hu]; exact ⟨[], rfl, by simp, by decide⟩⟩
  case h_8 =>
   rename_i e a len cap hu
   simp only [okT, hu, Bool.and_eq_true, decide_eq_true_eq] at hk
   split at h
   ·rename_i hc
    cases hm : (List.range len).mapM (fun i => (w.cells? 0 (a.add (i * P.cellsOf e)) (P.cellsOf e)).bind (DataW.trod enc P w 0 (fun _ => true) true n e)) with
    | none => simp [hm] at h
    | some es =>
     obtain ⟨_, h2⟩ := zGq hm
     have key : ∀ i, i < len → ∃ ds cs, RelL (allI w) w noB ds cs ∧ Shp P n e ds ∧ w.cells? 0 (a.add (i * P.cellsOf e)) (P.cellsOf e) = some cs := by
      intro i hi
      obtain ⟨y, hy⟩ := h2 i i (List.getElem?_range hi)
      rw [Option.bind_eq_some_iff] at hy
      obtain ⟨cs, k1, k2⟩ := hy
      obtain ⟨ds, k3, k4⟩ := ih e cs y.1 y.2 k2 hk.2
      exact ⟨ds, cs, k3, k4, k1⟩
     have hsp : 0 < len → a.spot = none := by
      intro h0
      obtain ⟨ds, cs, k1, k2, k3⟩ := key 0 h0
      obtain ⟨_, hl, hcell⟩ := World.cells?_some k3
      have := hcell 0 (by omega)
      have h5 : ∃ v, w.cell? ((a.add (0 * P.cellsOf e)).add 0) = some v := by
       rw [this]; exact ⟨cs[0]'(by omega), by simp⟩
      obtain ⟨v, hv⟩ := h5
      have := World.cell?_spot hv
      simpa [Addr.add] using this
     have hls : ∃ ls : List (List D), ls.length = len ∧ ∀ j x, ls[j]? = some x → ∃ cs, RelL (allI w) w noB x cs ∧ Shp P n e x ∧ w.cells? 0 (a.add (j * P.cellsOf e)) (P.cellsOf e) = some cs := by
      refine ⟨(List.range len).map (fun i => if hi : i < len then Classical.choose (key i hi) else []), by simp, fun j x hx => ?_⟩
      rw [List.getElem?_map, Option.map_eq_some_iff] at hx
      obtain ⟨j', hj, rfl⟩ := hx
      have hjl : j < len := by have := (List.getElem?_eq_some_iff.1 hj).1; simpa using this
      rw [List.getElem?_range hjl] at hj
      cases hj
      rw [dif_pos hjl]
      exact Classical.choose_spec (key j hjl)
     obtain ⟨ls, hl1, hl2⟩ := hls
     have hlen : ∀ (j : Nat) (x : List D), ls[j]? = some x → x.length = P.cellsOf e := by
      intro j x hx
      obtain ⟨cs, k1, k2, k3⟩ := hl2 j x hx
      rw [k1.length]; exact (World.cells?_some k3).2.1
     refine ⟨[.row ls.flatten ls.length], ?_, ?_⟩
     ·simp only [RelL, Rel]
      refine ⟨_, _, rfl, rfl, ⟨some a, cap, by rw [hl1], by omega, hc.2.2, (fun h => by cases h), ?_⟩, rfl⟩
      rcases Nat.eq_zero_or_pos len with h0 | h0
      ·left
       obtain rfl : ls = [] := List.eq_nil_of_length_eq_zero (by omega)
       rfl
      ·right
       obtain ⟨b, o, sp⟩ := a
       obtain rfl : sp = none := hsp h0
       refine ⟨b, o, rfl, zH1 (sz := P.cellsOf e) ls o fun j x hx => ⟨?_, hlen j x hx⟩⟩
       obtain ⟨cs, k1, k2, k3⟩ := hl2 j x hx
       obtain ⟨_, k4, k5⟩ := World.cells?_some k3
       refine zMr (n := 0) k1 fun i v hv => ?_
       have hi : i < P.cellsOf e := by have := (List.getElem?_eq_some_iff.1 hv).1; omega
       have := k5 i hi
       rw [hv] at this
       rw [add_plain, add_plain] at this
       exact this
     ·simp only [Shp, hu]
      refine ⟨ls, rfl, fun x hx => ?_, by omega⟩
      obtain ⟨j, hj⟩ := List.getElem?_of_mem hx
      obtain ⟨cs, k1, k2, k3⟩ := hl2 j x hj
      exact ⟨k2, hlen j x hj⟩
   ·cases h
  case h_9 =>
   rename_i fs hu
   simp only [okT, hu, Bool.and_eq_true] at hk
   split at h
   ·rename_i hl
    rw [Option.map_eq_some_iff] at h
    obtain ⟨xs, hm, _⟩ := h
    obtain ⟨_, h2⟩ := zGq hm
    obtain ⟨ds, k1, k2⟩ := zL5 (P := P) (S := Shp P n) hl fs.toList 0 hk.1 (fun f hf => by
     obtain ⟨j, hj⟩ := List.getElem?_of_mem hf
     obtain ⟨y, hy⟩ := h2 j f hj
     exact ih _ _ y.1 y.2 hy (List.all_eq_true.1 hk.2 f hf))
    rw [List.drop_zero] at k1
    exact ⟨ds, k1, by simp only [Shp, hu]; exact ⟨by rw [k1.length]; exact hl, fun f hf => by simpa using k2 f hf⟩⟩
   ·cases h
  case h_10 =>
   rename_i m e hu
   simp only [okT, hu, Bool.and_eq_true, beq_iff_eq] at hk
   split at h
   ·rename_i hl
    rw [Option.map_eq_some_iff] at h
    obtain ⟨xs, hm, _⟩ := h
    obtain ⟨_, h2⟩ := zGq hm
    obtain ⟨ds, k1, k2⟩ := zPv (sz := P.cellsOf e) (S := Shp P n e) m _ (by rw [hl, hk.1]) (fun i hi => by
     obtain ⟨y, hy⟩ := h2 i i (List.getElem?_range hi)
     exact ih _ _ y.1 y.2 hy hk.2)
    exact ⟨ds, k1, by simp only [Shp, hu]; exact ⟨by rw [k1.length]; exact hl, k2⟩⟩
   ·cases h
  all_goals (exfalso; simp_all [okT])
end
end
section
open Go.ChangeShapes Go.WideShapes Go.ChangeAt Go.RowKit
def okS (P : Program) : Nat → TypeId → Bool
 | 0, _ => false
 | n + 1, t => match P.underlying t with
  | some .bool | some (.int _) | some .string => true
  | some (.slice e) => decide (0 < P.cellsOf e) && okS P n e
  | some (.struct fs) => zE8 P (P.cellsOf t) fs.toList 0 && fs.toList.all (fun f => okS P n f.type)
  | some (.array m e) => P.cellsOf t == m * P.cellsOf e && okS P n e
  | _ => false
theorem zMz {P : Program} : ∀ {k : Nat} {t : TypeId}, okS P k t = true → ∀ n, okT P n t = true
 | 0, t, h, n => by cases h
 | k + 1, t, h, 0 => rfl
 | k + 1, t, h, n + 1 => by
  simp only [okS] at h
  simp only [okT]
  split at h <;> rename_i hu <;> (try simp only [hu]) <;> try trivial
  ·simp only [Bool.and_eq_true] at h ⊢
   exact ⟨h.1, zMz h.2 n⟩
  ·simp only [Bool.and_eq_true, List.all_eq_true] at h ⊢
   exact ⟨h.1, fun f hf => zMz (h.2 f hf) n⟩
  ·simp only [Bool.and_eq_true] at h ⊢
   exact ⟨h.1, zMz h.2 n⟩
section
variable {P : Program} {n : Nat} {t : TypeId} {ds : List D}
theorem zG3 {k : IntKind} (hu : P.underlying t = some (.int k)) (h : Shp P n t ds) : ∃ z, ds = [.val (.int k z)] ∧ inK k z := by
 cases n with
 | zero => exact h.elim
 | succ n =>
  simp only [Shp, hu] at h
  obtain ⟨z, h1, h2⟩ := h
  refine ⟨z, h1, ?_⟩
  cases k <;> simpa [Lit.wf, IntKind.min, IntKind.max, IntKind.signed, IntKind.bits, inK] using h2
theorem zTs (hu : P.underlying t = some .string) (h : Shp P n t ds) : ∃ s, ds = [.val (.string s)] ∧ s.size ≤ maxLen := by
 cases n with
 | zero => exact h.elim
 | succ n => simpa only [Shp, hu] using h
theorem zGf {e : TypeId} (hu : P.underlying t = some (.slice e)) (h : Shp P n t ds) : ∃ m, ∃ ls : List (List D), ds = [.row ls.flatten ls.length] ∧ (∀ x ∈ ls, Shp P m e x) ∧ ls.length ≤ maxLen := by
 cases n with
 | zero => exact h.elim
 | succ n =>
  simp only [Shp, hu] at h
  obtain ⟨ls, h1, h2, h3⟩ := h
  exact ⟨n, ls, h1, fun x hx => (h2 x hx).1, h3⟩
theorem zLn {fs : Array Field} (hu : P.underlying t = some (.struct fs)) (h : Shp P n t ds) : ds.length = P.cellsOf t ∧ ∃ m, ∀ f ∈ fs.toList, Shp P m f.type ((ds.drop f.offset).take (P.cellsOf f.type)) := by
 cases n with
 | zero => exact h.elim
 | succ n =>
  simp only [Shp, hu] at h
  exact ⟨h.1, n, h.2⟩
theorem zV9 {k : Nat} {e : TypeId} (hu : P.underlying t = some (.array k e)) (h : Shp P n t ds) : ds.length = P.cellsOf t ∧ ∃ m, ∀ i, i < k → Shp P m e ((ds.drop (i * P.cellsOf e)).take (P.cellsOf e)) := by
 cases n with
 | zero => exact h.elim
 | succ n =>
  simp only [Shp, hu] at h
  exact ⟨h.1, n, h.2⟩
theorem zKp {β : Type} {g : β → D} {Q : β → Prop} : ∀ {ls : List (List D)}, (∀ x ∈ ls, ∃ b, x = [g b] ∧ Q b) → ∃ bs : List β, ls.flatten = bs.map g ∧ bs.length = ls.length ∧ ∀ b ∈ bs, Q b
 | [], h => ⟨[], rfl, rfl, by simp⟩
 | x :: ls, h => by
  obtain ⟨b, rfl, hb⟩ := h x (List.mem_cons_self ..)
  obtain ⟨bs, h1, h2, h3⟩ := zKp fun y hy => h y (List.mem_cons_of_mem _ hy)
  refine ⟨b :: bs, by simp [h1], by simp [h2], fun c hc => ?_⟩
  rcases List.mem_cons.1 hc with rfl | hc
  ·exact hb
  ·exact h3 c hc
theorem zKq {β : Type} {g : β → List D} {Q : β → Prop} : ∀ {ls : List (List D)}, (∀ x ∈ ls, ∃ b, x = g b ∧ Q b) → ∃ bs : List β, ls.flatten = (bs.map g).flatten ∧ bs.length = ls.length ∧ ∀ b ∈ bs, Q b
 | [], h => ⟨[], rfl, rfl, by simp⟩
 | x :: ls, h => by
  obtain ⟨b, rfl, hb⟩ := h x (List.mem_cons_self ..)
  obtain ⟨bs, h1, h2, h3⟩ := zKq fun y hy => h y (List.mem_cons_of_mem _ hy)
  refine ⟨b :: bs, by simp [h1], by simp [h2], fun c hc => ?_⟩
  rcases List.mem_cons.1 hc with rfl | hc
  ·exact hb
  ·exact h3 c hc
end
theorem zPi {P : Program} {w : World} {r : Reach} {base : Nat} {t : TypeId} {v : Value} {k : Nat} {e : TypeId} (ht : P.underlying t = some (.array k e)) (h : Value.okWide P w r base t v) : ∃ cs, v = .agg cs ∧ cs.size = P.cellsOf t := by
 simp only [Value.okWide, ht] at h
 obtain ⟨cs, h1, h2, _⟩ := h
 exact ⟨cs, h1, h2⟩
def ArgD (P : Program) (t : TypeId) (d : D) : Prop := ∃ n, if zDr P t then ∃ ds, d = .agg ds ∧ Shp P n t ds else Shp P n t [d]
section
variable {H : Type} {enc : TypeId × Value → H} {P : Program} {W : World}
theorem arg_rel {r : Reach} {b : Nat} {t : TypeId} {v : Value} {d : DataW H} {ps : List MemPlace} (hval : Value.okWide P W r b t v) (h : DataW.Trod enc P W 0 (fun _ => true) true t v d ps) {k : Nat} (hk : okS P k t = true) :
  ∃ x, Rel (allI W) W noB x v ∧ ArgD P t x := by
 obtain ⟨fuel, hf⟩ := h
 obtain ⟨ds, k1, k2⟩ := zRw fuel t _ _ _ hf (zMz hk fuel)
 have one : v.cells = #[v] → zDr P t = false → ∃ x, Rel (allI W) W noB x v ∧ ArgD P t x := by
  intro hc ha
  rw [hc] at k1
  have hl := k1.length
  match ds, hl with
  | [x], _ =>
   simp only [RelL] at k1
   obtain ⟨u, us, e, _, k3, k4⟩ := k1
   simp only [List.cons.injEq] at e
   obtain ⟨rfl, rfl⟩ := e
   exact ⟨x, k3, fuel, by rw [if_neg (by simp [ha])]; exact k2⟩
 have many : (∃ cs, v = .agg cs) → zDr P t = true → ∃ x, Rel (allI W) W noB x v ∧ ArgD P t x := by
  rintro ⟨cs, rfl⟩ ha
  refine ⟨.agg ds, ?_, fuel, by rw [if_pos ha]; exact ⟨ds, rfl, k2⟩⟩
  simp only [Rel]
  exact ⟨cs.toList, by simp, by simpa [Value.cells] using k1⟩
 cases k with
 | zero => cases hk
 | succ k =>
  simp only [okS] at hk
  split at hk <;> rename_i hu
  ·obtain ⟨b, rfl⟩ := okWide_bool hu hval
   exact one rfl (by simp [zDr, hu])
  ·obtain ⟨b, rfl⟩ := okWide_int hu hval
   exact one rfl (by simp [zDr, hu])
  ·obtain ⟨b, rfl⟩ := okWide_string hu hval
   exact one rfl (by simp [zDr, hu])
  ·obtain ⟨a, l, c, rfl⟩ := okWide_slice hu hval
   exact one rfl (by simp [zDr, hu])
  ·obtain ⟨cs, rfl, _⟩ := okWide_struct hu hval
   exact many ⟨cs, rfl⟩ (by simp [zDr, hu])
  ·obtain ⟨cs, rfl, _⟩ := zPi hu hval
   exact many ⟨cs, rfl⟩ (by simp [zDr, hu])
  ·cases hk
inductive ArgsD (P : Program) : List TypeId → List D → Prop
 | nil : ArgsD P [] []
 | cons {t : TypeId} {ts : List TypeId} {d : D} {ds : List D} : ArgD P t d → ArgsD P ts ds → ArgsD P (t :: ts) (d :: ds)
theorem zTf {r : Reach} {b k : Nat} : ∀ {ts : List TypeId} {vs : List Value} {ds : List (DataW H)} {ps : List MemPlace}, (∀ (j : Nat) t v, ts[j]? = some t → vs[j]? = some v → Value.okWide P W r b t v) → DataW.TrodAll enc P W 0 (fun _ => true) true ts vs ds ps → ts.all (okS P k) = true →
  ∃ xs, RelT (allI W) W noB xs vs ∧ ArgsD P ts xs
 | [], vs, ds, ps, hv, h, hk => by
  obtain ⟨rfl, _, _⟩ := trodAll_nil h
  exact ⟨[], by simp only [RelT], .nil⟩
 | t :: ts, vs, ds, ps, hv, h, hk => by
  obtain ⟨v, vs, d, ds, p, q, rfl, rfl, rfl, h1, h2⟩ := trodAll_cons h
  simp only [List.all_cons, Bool.and_eq_true] at hk
  obtain ⟨x, k1, k2⟩ := arg_rel (hv 0 t v rfl rfl) h1 hk.1
  obtain ⟨xs, k3, k4⟩ := zTf (fun j t v h1 h2 => hv (j + 1) t v (by simpa using h1) (by simpa using h2)) h2 hk.2
  exact ⟨x :: xs, by simp only [RelT]; exact ⟨v, vs, rfl, k1, k3⟩, .cons k2 k4⟩
theorem ArgsD.one {t : TypeId} {xs : List D} (h : ArgsD P [t] xs) : ∃ d, xs = [d] ∧ ArgD P t d := by
 cases h with | cons h1 h2 => cases h2; exact ⟨_, rfl, h1⟩
theorem ArgsD.more {t : TypeId} {ts : List TypeId} {xs : List D} (h : ArgsD P (t :: ts) xs) : ∃ d ds, xs = d :: ds ∧ ArgD P t d ∧ ArgsD P ts ds := by
 cases h with | cons h1 h2 => exact ⟨_, _, rfl, h1, h2⟩
theorem ArgD.agg {t : TypeId} {d : D} (h : ArgD P t d) (ha : zDr P t = true) : ∃ n ds, d = .agg ds ∧ Shp P n t ds := by
 obtain ⟨n, h⟩ := h
 rw [if_pos ha] at h
 exact ⟨n, h⟩
theorem ArgD.cell {t : TypeId} {d : D} (h : ArgD P t d) (ha : zDr P t = false) : ∃ n, Shp P n t [d] := by
 obtain ⟨n, h⟩ := h
 rw [if_neg (by simp [ha])] at h
 exact ⟨n, h⟩
theorem zJu : ∀ {ts : List TypeId} {vs : List Value} {ds : List (DataW H)} {ps : List MemPlace}, DataW.TrodAll enc P W 0 (fun _ => true) true ts vs ds ps → ds.length = ts.length
 | [], vs, ds, ps, h => by
  obtain ⟨_, rfl, _⟩ := trodAll_nil h
  rfl
 | t :: ts, vs, ds, ps, h => by
  obtain ⟨v, vs, d, ds, p, q, rfl, rfl, rfl, h1, h2⟩ := trodAll_cons h
  rw [List.length_cons, List.length_cons, zJu h2]
theorem zZ1 {fn : Func} {s : ChangeSpec} {f : FuncId} {bt : TypeId} {args : Array Value} {ds gs : List (DataW H)} {before : List MemPlace} {base : Nat} (k : Nat)
  (hl : laidOutB P = true) (hv : s.vars = []) (hrt : fn.resultTypes = #[bt]) (hbt : P.underlying bt = some .bool)
  (hr : fn.params.toList.all (fun t => P.readableRec t && decide (t < P.types.size)) = true) (hfn : ∀ ds, ds.length = fn.params.toList.length → s.fn H ds = { results := [.lit (.bool true)], args := ds })
  (hk : fn.params.toList.all (okS P k) = true)
  (hval : ∀ (j : Nat) t v, fn.params[j]? = some t → args[j]? = some v → Value.okWide P W .any base t v)
  (hW : DataW.Whole enc P fn.params.toList s.vars false W args.toList ds gs before)
  (hg : Gl (allI W) W) (main : ∀ xs, ArgsD P fn.params.toList xs → Pure P f xs [] (.val (.bool true))) :
  Calls P f args W fun e W' => ∃ v, e = .returned v ∧ s.post enc P fn false true false false W args v W' := by
 have hW' := hW
 obtain ⟨p, q, hA0, hV, rfl, hfz, hnd⟩ := hW
 rw [hv] at hV
 obtain ⟨rfl, rfl⟩ := trodVars_none hV
 have hA : DataW.TrodAll enc P W 0 (fun _ => true) true fn.params.toList args.toList ds p := hA0
 obtain ⟨xs, h1, h2⟩ := zTf (k := k) (r := .any) (b := base) (fun j t v k1 k2 => hval j t v (by simpa using k1) (by simpa using k2)) hA hk
 refine (main xs h2 (allI W) W args.toList h1 (fun b o h => h) hg).mono ?_
 rintro e W' ⟨v, I', γ, rfl, hx, _, _, _, _, _, _, _, _, hr', _⟩
 simp only [Rel] at hr'
 subst hr'
 exact ⟨_, rfl, zWp (bt := bt) hl hv hrt hbt hr (hfn ds (zJu hA)) hW' hx⟩
end
end
section
open Go.RowKit
def Tz : Par := ⟨fun _ => false, fun _ _ => none, fun _ => false, fun _ => false, fun _ => false⟩
theorem zB0 : zBi Tryd.prog Tz := by intro t n f h; cases h
theorem mixed : Tryd.prog.follows .mixedOrders = true := by kernel_rfl
theorem zGi {I : Im} {w : World} {β : Be} : ∀ (us vs : List Value), RelT I w β (us.map .val) vs → vs = us
 | [], vs, h => by simpa only [List.map_nil, RelT] using h
 | u :: us, vs, h => by
  simp only [List.map_cons, RelT, Rel] at h
  obtain ⟨v, vs', rfl, rfl, h⟩ := h
  rw [zGi us vs' h]
theorem zEe {P : Program} {f : FuncId} {us : List Value} {v : Value} (h : ∀ w, Calls P f us.toArray w fun e w' => e = .returned v ∧ w = w') : Pure P f (us.map .val) [] (.val v) := by
 intro I w vs hr hi hg
 rw [zGi us vs hr]
 refine (h w).mono ?_
 rintro e w' ⟨rfl, rfl⟩
 exact ⟨v, I, noB, rfl, Ext.refl _, hi, Fix.refl _ _, fun _ _ h => .inl h, fun _ _ _ h => (by cases h), fun _ _ _ h => (by cases h), fun _ _ _ _ _ h => (by cases h), fun _ _ _ _ _ h => (by cases h), fun _ _ h => (by cases h), by simp only [Rel], by simp⟩
theorem zWk {P : Program} {f : FuncId} {args : List D} {e : TypeId} {sz : Nat} (h : ∀ I w vs, RelT I w noB args vs → Calls P f vs.toArray w fun x w' => (x = .returned (.slice none 0 0) ∧ Ext w w') ∨ ∃ (g : Nat) (cur : List Value) (cap : Nat), x = .returned (.slice (some ⟨g, 0, none⟩) 0 cap) ∧ w.heap.size ≤ g ∧ Ext w w' ∧ w'.heap[g]? = some (.cells cur.toArray e (0, 0)) ∧ cur.length = cap * sz ∧ cap ≤ maxLen) :
  Pure P f args [⟨[], e, sz, true, false, .plain⟩] (.osl 0 0 0 0 true) := by
 intro I w vs hr hi hg
 refine (h I w vs hr).mono ?_
 rintro x w' (⟨rfl, he⟩ | ⟨g, cur, cap, rfl, hgs, he, h1, h2, h3⟩)
 ·exact ⟨_, I, noB, rfl, he, fun b o hb => Nat.lt_of_lt_of_le (hi b o hb) he.size, Fix.ext he fun _ _ h => h, fun _ _ h => .inl h, fun _ _ _ h => (by cases h), fun _ _ _ h => (by cases h), fun _ _ _ _ _ h => (by cases h), fun _ _ _ _ _ h => (by cases h), fun _ _ h => (by cases h), by rw [Rel]; exact .inl ⟨rfl, rfl, rfl⟩, by simp⟩
 ·have hg : ∀ k y, (if k = 0 then some (g, cap) else none : Option (Nat × Nat)) = some y → k = 0 ∧ y = (g, cap) := by
   intro k y hy
   split at hy
   ·exact ⟨by assumption, by cases hy; rfl⟩
   ·cases hy
  refine ⟨_, I, fun k => if k = 0 then some (g, cap) else none, rfl, he, fun b o hb => Nat.lt_of_lt_of_le (hi b o hb) he.size, Fix.ext he fun _ _ h => h, fun _ _ h => .inl h, ?_, ?_, ?_, ?_, ?_, ?_, by simp⟩
  ·intro k b c hk
   obtain ⟨_, e⟩ := hg k _ hk
   cases e; exact hgs
  ·intro k b c hk
   obtain ⟨rfl, e⟩ := hg k _ hk
   cases e
   exact ⟨_, rfl, OwnC.r ⟨cur, h1, Nat.zero_le _, by simp only [List.length_nil, List.take_zero, RelL], fun _ => h2, h3⟩ rfl⟩
  ·intro k k' b c c' hk hk'
   rw [(hg k _ hk).1, (hg k' _ hk').1]
  ·intro k b c j e hk hE hI
   obtain ⟨rfl, e'⟩ := hg k _ hk
   cases e'
   exact absurd (hi _ _ hI) (by omega)
  ·intro k y hk
   rw [(hg k _ hk).1]; simp
  ·rw [Rel]
   exact .inr (.inr ⟨_, _, cap, if_pos rfl, rfl, Nat.zero_le _, h3, fun _ => ⟨rfl, rfl⟩⟩)
end
section
open Go.RowKit
section
variable {P : Program} {I : Im} {w : World} {β : Be} {sl : List D} {st : List Bk} {tm : List Value}
theorem Fix.drew (I : Im) (w : World) (q : Nat) : Fix I w I (w.drewN q) := fun b o h => ⟨h, fun v hv => hv, fun _ _ h => h⟩
theorem Sim.drew (h : Sim β I w sl st tm) (q : Nat) : Sim β I (w.drewN q) sl st tm := by
 refine ⟨RelT.mono (Fix.drew I w q) β β (BeLe.refl _) _ _ h.rel, fun k b c hk => ?_, h.inj, h.fz, h.dom, h.imb, h.gl.mono (Fix.drew I w q)⟩
 obtain ⟨e, h1, h2⟩ := h.sr k b c hk
 exact ⟨e, h1, OwnRel.mono h2 rfl (Fix.drew I w q) (BeLe.refl _)⟩
theorem Stp.drew (β : Be) (I : Im) (w : World) (q : Nat) : Stp β I w β I (w.drewN q) := ⟨Fix.drew _ _ _, Nat.le_refl _, fun _ _ _ => rfl, rfl, rfl, rfl, Nat.le_add_right _ _, fun k b c h => .inl ⟨k, c, h⟩, fun _ _ h => .inl h⟩
theorem zN6 {β : Be} : ∀ {us vs : List Value}, RelL I w β (us.map .val) vs → vs = us
 | [], vs, h => by simpa only [List.map_nil, RelL] using h
 | u :: us, vs, h => by
  simp only [List.map_cons, RelL, Rel] at h
  obtain ⟨v, vs', rfl, _, rfl, h⟩ := h
  rw [zN6 h]
theorem zH0 {β : Be} : ∀ {us : List Value}, (∀ v ∈ us, v.oneCell' = true) → RelL I w β (us.map .val) us
 | [], h => by simp only [List.map_nil, RelL]
 | u :: us, h => by
  simp only [List.map_cons, RelL, Rel]
  exact ⟨u, us, rfl, h u (List.mem_cons_self ..), rfl, zH0 fun v hv => h v (List.mem_cons_of_mem _ hv)⟩
end
end
section
open Go.RowKit Go.Shelf Go.Lib
theorem zPc {P : Program} {f : FuncId} {us : List Value} {v : Value} (h : ∀ I w, Gl I w → Calls P f us.toArray w fun e w' => e = .returned v ∧ w = w') : Pure P f (us.map .val) [] (.val v) := by
 intro I w vs hr hi hg
 rw [zGi us vs hr]
 refine (h I w hg).mono ?_
 rintro e w' ⟨rfl, rfl⟩
 exact ⟨v, I, noB, rfl, Ext.refl _, hi, Fix.refl _ _, fun _ _ h => .inl h, fun _ _ _ h => (by cases h), fun _ _ _ h => (by cases h), fun _ _ _ _ _ h => (by cases h), fun _ _ _ _ _ h => (by cases h), fun _ _ h => (by cases h), by simp only [Rel], by simp⟩
section
variable {P : Program} {I : Im} {w : World} {β : Be} {st : List Bk}
theorem zLp : ∀ (ys xs pre zs : List D), xs.length = ys.length → setAt (pre ++ xs ++ zs) pre.length ys = pre ++ ys ++ zs
 | [], xs, pre, zs, hl => by
  obtain rfl : xs = [] := List.eq_nil_of_length_eq_zero (by simpa using hl)
  rfl
 | y :: ys, [], pre, zs, hl => by simp at hl
 | y :: ys, x :: xs, pre, zs, hl => by
  simp only [setAt]
  have e1 : (pre ++ x :: xs ++ zs).set pre.length y = (pre ++ [y]) ++ xs ++ zs := by simp
  rw [e1]
  have := zLp ys xs (pre ++ [y]) zs (by simpa using hl)
  simp only [List.length_append, List.length_cons, List.length_nil] at this
  rw [this]; simp
theorem zYi {f : FuncId} {k n : Nat} {e : Bk} {wh : Bool} {us vs : List Value} {zF5 : List D} {more : List Value} (hmore : ∀ I w β vs, RelT I w β zF5 vs → vs = more) (he : st[k]? = some e) (hkd : e.kd.isMap = false) (hf : e.fz = false) (hc : e.cells.take n = us.map .val) (hn : n ≤ e.cells.length) (hu : us.length = n) (hv : vs.length = n) (h1 : ∀ v ∈ vs, v.oneCell' = true) (hpos : 0 < n)
  (h : ∀ b c w, (∀ j, j < n → w.cell? ⟨b, 0 + j, none⟩ = some (us.getD j undef)) → (∀ j, j < n → w.frozen? ⟨b, 0 + j, none⟩ = false) → n ≤ c → Calls P f (#[.slice (some ⟨b, 0, none⟩) n c] ++ more.toArray) w fun x w' => x = .returned (.tuple #[]) ∧ ∃ q, w' = (w.drewN q).setCells b 0 vs) :
  Acts P f (.osl k 0 n n wh :: zF5) st [] (.val (.tuple #[])) (st.set k { e with cells := vs.map .val ++ e.cells.drop n }) := by
 intro β I w xs hr hsr hinj hfz hdom hi hg
 simp only [RelT] at hr
 obtain ⟨v, ys, rfl, hr, hys⟩ := hr
 obtain rfl := hmore _ _ _ _ hys
 simp only [Rel] at hr
 rcases hr with ⟨e0, _, rfl⟩ | ⟨e0, _, _, a, c, rfl, _⟩ | ⟨b, c, cap, hb, rfl, k1, k2, k3⟩
 ·omega
 ·omega
 have hs0 : Sim β I w ([] : List D) st ({ tmps := #[], defers := [] } : Act).tmps.toList := ⟨by simp only [RelT], hsr, hinj, hfz, hdom, hi, hg⟩
 obtain ⟨e', he', hown⟩ := hsr k b c hb
 rw [he] at he'; cases he'
 obtain ⟨cur, c1, c2, c3, c4⟩ := hown.c hkd
 have hul : (cur.take n) = us := by
  have hx : RelL I w (if e.nob then noB else β) (e.cells.take n) (cur.take n) := by
   refine RelL.of_get (by simp; omega) fun i d v hd hv => ?_
   rw [List.getElem?_take] at hd hv
   split at hd
   ·rename_i hi
    rw [if_pos hi] at hv
    obtain ⟨v', k1, k2, k3⟩ := c3.get i d hd
    rw [List.getElem?_take, if_pos (by omega)] at k1
    rw [hv] at k1; cases k1
    exact ⟨k2, k3⟩
   ·cases hd
  rw [hc] at hx
  exact zN6 hx
 have hpre := (hs0.put (off := 0) (cs := e.cells) (vs := cur.take e.cells.length) (ks := []) hb he hf hkd (by simp) (RelL.mono (zAd _) _ _ (BeLe.refl _) _ _ c3) (by simp) none undef).2.2
 have hlc : (cur.take e.cells.length).length = e.cells.length := c3.length.symm
 have e1 : (#[Value.slice (some ⟨b, 0, none⟩) n cap] ++ ys.toArray) = (Value.slice (some ⟨b, 0, none⟩) n cap :: ys).toArray := by apply Array.ext'; simp
 rw [← e1]
 refine (h b cap w (fun j hj => ?_) (fun j hj => (hpre j (by omega)).2) k1).mono ?_
 ·have hlt : j < cur.length := by omega
  rw [← hul, List.getD_eq_getElem?_getD, List.getElem?_take, if_pos hj, List.getElem?_eq_getElem hlt]
  simp [World.cell?, c1, hlt]
 ·rintro x w' ⟨rfl, q, rfl⟩
  obtain ⟨s1, s2, s3⟩ := (hs0.drew q).put (off := 0) (cs := vs.map .val) (vs := vs) (ks := []) hb he hf hkd (by simp) (zH0 h1) (by simp; omega) none undef
  have hset2 : setAt e.cells 0 (vs.map .val) = vs.map .val ++ e.cells.drop n := by
   have := zLp (vs.map .val) (e.cells.take n) [] (e.cells.drop n) (by simp; omega)
   simpa [List.take_append_drop] using this
  rw [hset2] at s1
  exact ⟨_, β, _, rfl, s1.imb, (Stp.drew β I w q).trans s2, fun _ _ _ h => h, s1.sr, s1.inj, s1.fz, s1.dom, by simp only [Rel]⟩
end
theorem small_c (n : Nat) (h : n < 100) : Pure Tryd.prog 92 [.val (.int .i64 n)] [] (.val (.string ⟨(Lib.decDigits n).toArray⟩)) :=
 zEe (us := [.int .i64 n]) fun w => (Tryd.internal_strconv_small n h w).mono fun e w' h => ⟨h.1, h.2.symm⟩
theorem zQ0 (u : Nat) (h1 : 1 ≤ u) (h2 : u < 18446744073709551616) : Pure Tryd.prog 93 [.val (.int .u64 u)] [] (.val (.int .i64 (Lib.nDigits u))) := by
 refine zPc (us := [.int .u64 u]) fun I w hG => ?_
 obtain ⟨hnd, h19⟩ := Lib.numDigits_eq u h1 h2
 have hL : Lib.bitLen u ≤ 64 := Lib.bitLen_le u 64 (Nat.le_refl _) h2
 have hcell : w.cell? ⟨1, Lib.l10 (Lib.bitLen u), none⟩ = some (.int .u64 ((10 ^ Lib.l10 (Lib.bitLen u) : Nat) : Int)) := by
  refine (hG (1, Lib.pow10Tab.map fun z => Value.int .u64 z) (by simp [globT]) (Lib.l10 (Lib.bitLen u)) _ ?_).2
  rw [List.getElem?_map, ← Lib.pow10Tab_at _ (by omega)]
  rw [List.getD_eq_getElem?_getD, List.getElem?_eq_getElem (by rw [Lib.pow10Tab_length]; omega)]
  rfl
 have hto : ((u : Int)).toNat = u := by omega
 generalize hq : Lib.l10 (Lib.bitLen u) = q at hnd h19 hcell
 generalize hT : 10 ^ q = T at hnd hcell
 have h20 : q < 20 := by omega
 have Hnd := Lib.hid hnd
 clear hnd
 clear hG
 go_enter Tryd.func93, Tryd.ntmps93
 go_wp2_with fail
 refine (Tryd.bits_Len64 (u : Int) w (by omega) (by omega)).mono ?_
 rintro e w' ⟨rfl, rfl⟩
 rw [hto]
 go_wp2_with fail
 refine (Tryd.internal_strconv_log10Pow2 _ hL _).mono ?_
 rintro e w' ⟨rfl, rfl⟩
 rw [hq]
 go_wp2_with fail
 all_goals (
  refine (Tryd.internal_strconv_bool2_int _ _).mono ?_
  rintro e w' ⟨rfl, rfl⟩)
 all_goals go_wp2_with fail
 all_goals go_ret
 all_goals (
  refine ⟨?_, rfl⟩
  have hnd := Hnd.out
  congr 2
  split at hnd <;> simp_all <;> omega)
open Go.Sort in
theorem zQ5 {st : List Bk} {k u n : Nat} {e : Bk} {wh : Bool} (hn : n = Lib.nDigits u) (he : st[k]? = some e) (hkd : e.kd.isMap = false) (hf : e.fz = false) (hc : e.cells.take n = List.replicate n (.val (.int .u8 0))) (hl : n ≤ e.cells.length) (hu : u < 18446744073709551616) :
  Acts Tryd.prog 94 [.osl k 0 n n wh, .val (.int .u64 u)] st [] (.val (.tuple #[])) (st.set k { e with cells := (Lib.byteCells (Lib.decDigits u)).map .val ++ e.cells.drop n }) := by
 have hpos : 0 < n := by rw [hn]; unfold Lib.nDigits; split <;> omega
 have hdl : (Lib.decDigits u).length = n := by rw [Lib.decDigits_length, hn]
 refine zYi (us := List.replicate n (.int .u8 0)) (more := [.int .u64 u]) (fun I w β vs h => ?_) he hkd hf (by rw [hc, List.map_replicate]) hl (by simp) (by rw [Lib.byteCells_length, hdl]) (fun v hv => ?_) hpos (fun b c w h1 h2 h3 => ?_)
 ·exact zGi [.int .u64 u] vs h
 ·obtain ⟨x, _, rfl⟩ := List.mem_map.1 hv; rfl
 ·have hH : Holds (fun (b : UInt8) => Value.int .u8 (b.toNat : Int)) w b 0 (Array.replicate n (0 : UInt8)) := fun j hj => by
   have hj' : j < n := by simpa using hj
   refine ⟨?_, h2 j hj'⟩
   rw [h1 j hj', List.getD_eq_getElem?_getD, List.getElem?_replicate, if_pos hj', getElem!_pos _ j hj]
   simp
  have main := Tryd.internal_strconv_formatBase10 b 0 c u (Array.replicate n (0 : UInt8)) w hH (by
   rw [Array.size_replicate, hn]
   exact Lib.lt_pow_nDigits u) hu (by
   rw [Array.size_replicate, hn]
   have := Lib.nDigits_le20 u hu; omega)
  rw [Array.size_replicate] at main
  refine main.mono ?_
  rintro x w' ⟨rfl, q, v', dk, rfl, hfm⟩
  refine ⟨rfl, q, ?_⟩
  have hsz := hfm.size
  have hdk : dk.toList = Lib.decDigits u := by
   apply List.ext_getElem
   ·rw [Array.length_toList, hsz, hdl]
   ·intro j a b'
    subst hn
    rw [Lib.row_is_numeral hfm j b', Array.getElem_toList, getElem!_pos dk j (by simpa using a)]
  have := Lib.putRow_eq_setCells (fun (b : UInt8) => Value.int .u8 (b.toNat : Int)) w b 0 (Array.replicate n (0 : UInt8)) dk.toList q hH (by simp [hsz])
  rw [hdk] at this
  rw [show (Lib.decDigits u).toArray = dk by rw [← hdk]] at this
  exact this
end
section
open Go.RowKit
def bs (l : List UInt8) : ByteArray := ⟨l.toArray⟩
theorem zFa (l : List UInt8) : (bs l).toList = l := by rw [ByteArray.toList_eq]; rfl
structure Va where
 kind : Int
 int : Int
 str : List UInt8
 deriving DecidableEq, Inhabited
abbrev strD (l : List UInt8) : D := .val (.string (bs l))
abbrev vaC (v : Va) : List D := [.val (.int .i64 v.kind), .val (.int .i64 v.int), strD v.str]
abbrev vaD (v : Va) : D := .agg (vaC v)
def zK (r : List Va) : List D := r.flatMap vaC
abbrev rowV (r : List Va) : D := .row (zK r) r.length
theorem zB8 (r : List Va) : (zK r).length = r.length * 3 := by
 induction r with
 | nil => rfl
 | cons v r ih => simp only [zK, List.flatMap_cons, List.length_append] at ih ⊢; rw [ih]; simp; omega
theorem zMa (r s : List Va) : zK (r ++ s) = zK r ++ zK s := by simp [zK]
theorem zK8 (r : List Va) (i : Nat) : (zK r).drop (i * 3) = zK (r.drop i) := by
 induction r generalizing i with
 | nil => simp [zK]
 | cons v r ih =>
  cases i with
  | zero => simp
  | succ i =>
   have : zK (v :: r) = vaC v ++ zK r := rfl
   rw [this, show (i + 1) * 3 = 3 + i * 3 by omega, ← List.drop_drop]
   have h2 : (vaC v ++ zK r).drop 3 = zK r := rfl
   rw [h2, ih]; rfl
theorem zK7 (r : List Va) (i : Nat) : (zK r).take (i * 3) = zK (r.take i) := by
 induction r generalizing i with
 | nil => simp [zK]
 | cons v r ih =>
  cases i with
  | zero => simp [zK]
  | succ i =>
   have h1 : zK (v :: r) = vaC v ++ zK r := rfl
   have h2 : zK ((v :: r).take (i + 1)) = vaC v ++ zK (r.take i) := rfl
   rw [h1, h2, ← ih, show (i + 1) * 3 = 3 + i * 3 by omega]
   rw [List.take_append, show (vaC v).length = 3 from rfl]
   rw [List.take_of_length_le (by simp), show 3 + i * 3 - 3 = i * 3 by omega]
theorem zQc (r : List Va) (i : Nat) (h : i < r.length) : (zK r).drop (i * 3) = vaC (r.getD i default) ++ zK (r.drop (i + 1)) := by
 rw [zK8, List.drop_eq_getElem_cons h, List.getD_eq_getElem?_getD, List.getElem?_eq_getElem h]; rfl
theorem zA9 (r : List Va) (i : Nat) (h : i < r.length) : ((zK r).drop (i * 3)).take 3 = vaC (r.getD i default) := by rw [zQc r i h]; rfl
theorem zDd (r : List Va) (h : 0 < r.length) : zK r ≠ [] := fun e => by
 have := zB8 r
 rw [e] at this; simp at this; omega
theorem zVl (r : List Va) (i : Nat) (v : Va) (h : i < r.length) : setAt (zK r) (i * 3) (vaC v) = zK (r.set i v) := by
 induction r generalizing i with
 | nil => simp at h
 | cons u r ih =>
  cases i with
  | zero => rfl
  | succ i =>
   have h1 : zK (u :: r) = vaC u ++ zK r := rfl
   have h2 : zK ((u :: r).set (i + 1) v) = vaC u ++ zK (r.set i v) := rfl
   have key : ∀ (us : List D) (pre cs : List D) (k : Nat), setAt (pre ++ cs) (pre.length + k) us = pre ++ setAt cs k us := by
    intro us
    induction us with
    | nil => intro pre cs k; rfl
    | cons x us ihu =>
     intro pre cs k
     have e1 : (pre ++ cs).set (pre.length + k) x = pre ++ cs.set k x := by simp [List.set_append]
     rw [setAt, setAt, e1, Nat.add_assoc, ihu]
   rw [h1, h2, ← ih i (by simpa using h), show (i + 1) * 3 = (vaC u).length + i * 3 by simp; omega, key]
def vcmp (a b : Va) : Int := if a.kind ≠ b.kind then cmpD a.kind b.kind else if a.int ≠ b.int then cmpD a.int b.int else Lib.compareBytes a.str b.str
def rcmp : List Va → List Va → Int
 | [], [] => 0
 | [], _ :: _ => -1
 | _ :: _, [] => 1
 | a :: r, b :: s => if vcmp a b = 0 then rcmp r s else vcmp a b
theorem zA3 (a b : Int) : (cmpD a b = -1 ∧ a < b) ∨ (cmpD a b = 0 ∧ a = b) ∨ (cmpD a b = 1 ∧ b < a) := by
 unfold cmpD
 split
 ·exact .inl ⟨rfl, by assumption⟩
 ·split
  ·exact .inr (.inr ⟨rfl, by assumption⟩)
  ·exact .inr (.inl ⟨rfl, by omega⟩)
theorem zF7 : ∀ (a b : List UInt8), (Lib.compareBytes a b = -1 ∨ Lib.compareBytes a b = 0 ∨ Lib.compareBytes a b = 1) ∧ (Lib.compareBytes a b = 0 ↔ a = b) ∧ Lib.compareBytes b a = - Lib.compareBytes a b
 | [], [] => by simp [Lib.compareBytes]
 | [], _ :: _ => by simp [Lib.compareBytes]
 | _ :: _, [] => by simp [Lib.compareBytes]
 | a :: ar0, b :: bs => by
  obtain ⟨h1, h2, h3⟩ := zF7 ar0 bs
  simp only [Lib.compareBytes]
  by_cases k1 : a < b
  ·have k2 : ¬ b < a := by intro h; exact absurd (UInt8.lt_trans k1 h) (UInt8.lt_irrefl a)
   have k3 : a ≠ b := fun e => by rw [e] at k1; exact UInt8.lt_irrefl b k1
   simp [k1, k2, k3]
  ·by_cases k2 : b < a
   ·have k3 : a ≠ b := fun e => by rw [e] at k2; exact UInt8.lt_irrefl b k2
    simp [k1, k2, k3]
   ·have k3 : a = b := UInt8.le_antisymm (UInt8.not_lt.1 k2) (UInt8.not_lt.1 k1)
    subst k3
    simp only [k1, if_false]
    exact ⟨h1, by rw [h2]; simp, h3⟩
theorem zCh (a b : Va) : (vcmp a b = -1 ∨ vcmp a b = 0 ∨ vcmp a b = 1) ∧ (vcmp a b = 0 ↔ a = b) ∧ vcmp b a = - vcmp a b := by
 obtain ⟨ak, ai, ar0⟩ := a
 obtain ⟨bk, bi, bs⟩ := b
 obtain ⟨c1, c2, c3⟩ := zF7 ar0 bs
 simp only [vcmp]
 by_cases h1 : ak = bk
 ·subst h1
  by_cases h2 : ai = bi
  ·subst h2
   simp only [ne_eq, not_true_eq_false, if_false]
   exact ⟨c1, by rw [c2]; simp, c3⟩
  ·rcases zA3 ai bi with ⟨k, l⟩ | ⟨k, l⟩ | ⟨k, l⟩
   ·have : cmpD bi ai = 1 := by rcases zA3 bi ai with ⟨m, n⟩ | ⟨m, n⟩ | ⟨m, n⟩ <;> omega
    simp [h2, k, this, Ne.symm h2]
   ·exact absurd l h2
   ·have : cmpD bi ai = -1 := by rcases zA3 bi ai with ⟨m, n⟩ | ⟨m, n⟩ | ⟨m, n⟩ <;> omega
    simp [h2, k, this, Ne.symm h2]
 ·rcases zA3 ak bk with ⟨k, l⟩ | ⟨k, l⟩ | ⟨k, l⟩
  ·have : cmpD bk ak = 1 := by rcases zA3 bk ak with ⟨m, n⟩ | ⟨m, n⟩ | ⟨m, n⟩ <;> omega
   simp [h1, k, this, Ne.symm h1]
  ·exact absurd l h1
  ·have : cmpD bk ak = -1 := by rcases zA3 bk ak with ⟨m, n⟩ | ⟨m, n⟩ | ⟨m, n⟩ <;> omega
   simp [h1, k, this, Ne.symm h1]
theorem zEy : ∀ (a b : List Va), (rcmp a b = -1 ∨ rcmp a b = 0 ∨ rcmp a b = 1) ∧ (rcmp a b = 0 ↔ a = b) ∧ rcmp b a = - rcmp a b
 | [], [] => by simp [rcmp]
 | [], _ :: _ => by simp [rcmp]
 | _ :: _, [] => by simp [rcmp]
 | a :: r, b :: s => by
  obtain ⟨h1, h2, h3⟩ := zEy r s
  obtain ⟨k1, k2, k3⟩ := zCh a b
  simp only [rcmp, k3]
  by_cases hv : vcmp a b = 0
  ·have := k2.1 hv
   subst this
   simp only [hv, Int.neg_zero, if_true]
   exact ⟨h1, by rw [h2]; simp, h3⟩
  ·have hne : a ≠ b := fun e => hv (k2.2 e)
   have : ¬ (- vcmp a b = 0) := by omega
   rw [if_neg hv, if_neg this]
   exact ⟨k1, ⟨fun h => absurd h hv, fun h => by cases h; exact absurd rfl hne⟩, rfl⟩
theorem zPa : ∀ (i : Nat) (a b : List Va), i ≤ a.length → i ≤ b.length → a.take i = b.take i → rcmp a b = rcmp (a.drop i) (b.drop i)
 | 0, _, _, _, _, _ => rfl
 | i + 1, [], b, h, _, _ => by simp at h
 | i + 1, _ :: _, [], _, h, _ => by simp at h
 | i + 1, x :: a, y :: b, h1, h2, h3 => by
  simp only [List.take_succ_cons, List.cons.injEq] at h3
  obtain ⟨rfl, h3⟩ := h3
  rw [rcmp, if_pos ((zCh x x).2.1.2 rfl), zPa i a b (by simpa using h1) (by simpa using h2) h3]; rfl
theorem rcmp_at (i : Nat) (a b : List Va) (ha : i < a.length) (hb : i < b.length) (h : a.take i = b.take i) (hv : vcmp (a.getD i default) (b.getD i default) ≠ 0) : rcmp a b = vcmp (a.getD i default) (b.getD i default) := by
 rw [zPa i a b (by omega) (by omega) h, List.drop_eq_getElem_cons ha, List.drop_eq_getElem_cons hb]
 simp only [List.getD_eq_getElem?_getD, List.getElem?_eq_getElem ha, List.getElem?_eq_getElem hb, Option.getD_some] at hv ⊢
 rw [rcmp, if_neg hv]
theorem zHx (i : Nat) (a b : List Va) (ha : i < a.length) (hb : i < b.length) (h : a.take i = b.take i) (hv : vcmp (a.getD i default) (b.getD i default) = 0) : a.take (i + 1) = b.take (i + 1) := by
 have := (zCh _ _).2.1.1 hv
 rw [List.take_succ_eq_append_getElem ha, List.take_succ_eq_append_getElem hb, h]
 simp only [List.getD_eq_getElem?_getD, List.getElem?_eq_getElem ha, List.getElem?_eq_getElem hb, Option.getD_some] at this
 rw [this]
def vok (v : Va) : Bool := if v.kind = 1 then v.str.isEmpty else if v.kind = 2 then v.int = 0 && v.str.length ≤ 24 else false
end
section
open Go.RowKit
def only (β : Be) (k : Nat) : Be := fun j => if j = 0 then β k else none
def Bk.free (e : Bk) : Prop := e.nob = true ∨ ∀ j, zCv j e.cells = false
theorem Bk.free.own {e : Bk} (h : e.free) {I : Im} {w : World} {β β' : Be} {b c : Nat} (ho : OwnRel I w β b c e) : OwnRel I w β' b c e :=
 ho.congr fun hn k x hr _ => by
  rcases h with h | h
  ·rw [h] at hn; cases hn
  ·rw [h k] at hr; cases hr
theorem Acts.atG {P : Program} {f : FuncId} {args1 args : List D} {e e' : Bk} {x : D} {st : List Bk} (k : Nat) (h : Acts P f args1 [e] [] x [e']) (he : st[k]? = some e) (ha : e.free) (ha' : e'.free)
  (hargs : ∀ I w β vs, RelT I w β args vs → RelT I w (only β k) args1 vs) : Acts P f args st [] (zA2 k x) (st.set k e') := by
 intro β I w vs hr hsr hinj hfz hdom hi hg
 have o0 : ∀ {j : Nat} {y : Nat × Nat}, only β k j = some y → j = 0 ∧ β k = some y := fun {j y} hj => by
  simp only [only] at hj
  split at hj
  ·rename_i h0; exact ⟨h0, hj⟩
  ·cases hj
 have hk : k < st.length := (List.getElem?_eq_some_iff.1 he).1
 have hsr1 : SR (only β k) I w [e] := fun j b c hj => by
  obtain ⟨rfl, hb⟩ := o0 hj
  obtain ⟨e0, h1, h2⟩ := hsr k b c hb
  rw [he] at h1; cases h1
  exact ⟨e, rfl, ha.own h2⟩
 have hinj1 : Inj (only β k) := fun j j' b c c' h1 h2 => by rw [(o0 h1).1, (o0 h2).1]
 have hfz1 : FZ (only β k) I [e] := fun j b c i e0 h1 h2 h3 => by
  obtain ⟨rfl, hb⟩ := o0 h1
  simp only [List.getElem?_cons_zero, Option.some.injEq] at h2
  subst h2
  exact hfz k b c i e hb he h3
 refine (h (only β k) I w vs (hargs I w β vs hr) hsr1 hinj1 hfz1 (fun j y hj => by rw [(o0 hj).1]; simp) hi hg).mono ?_
 rintro en w' ⟨v, β1, I', rfl, p1, p2, p3, p4, p5, p6, p7, p8⟩
 have d0 : ∀ {j : Nat} {y : Nat × Nat}, β1 j = some y → j = 0 := fun {j y} hj => by have := p7 j y hj; simpa using this
 have old : ∀ {b c : Nat}, β1 0 = some (b, c) → (∃ c', β k = some (b, c')) ∨ w.heap.size ≤ b := fun {b c} hb => by
  rcases p2.be 0 b c hb with ⟨k', c', hk'⟩ | hh
  ·exact .inl ⟨c', (o0 hk').2⟩
  ·exact .inr hh
 have hlt : ∀ {j b c : Nat}, β j = some (b, c) → b < w.heap.size := fun {j b c} hj => by
  obtain ⟨e0, _, h1⟩ := hsr j b c hj
  exact h1.lt
 have keepk : ∀ y, β k = some y → β1 0 = some y := fun y hy => p3 0 y (by simp) (by simp only [only, if_true]; exact hy)
 have hle : BeLe β (fun j => if j = k then β1 0 else β j) := fun j y hj => by
  simp only
  split
  ·rename_i e0; subst e0; exact keepk y hj
  ·exact hj
 have heap : ∀ {j b c : Nat}, j ≠ k → β j = some (b, c) → w'.heap[b]? = w.heap[b]? := fun {j b c} hne hj => p2.out b (hlt hj) fun j' c' hj' => by
  have := (o0 hj').2
  exact hne (hinj j k b c c' hj this)
 refine ⟨v, fun j => if j = k then β1 0 else β j, I', rfl, p1, ⟨p2.fix, p2.size, fun b hb hn => p2.out b hb fun j c hj => hn k c (o0 hj).2, p2.os, p2.tape, p2.output, p2.dr, fun j b c hj => ?_, fun b o hb => ?_⟩, fun j y _ hj => hle j y hj, fun j b c hj => ?_, fun j j' b c c' hj hj' => ?_, fun j b c i e0 hj h2 h3 => ?_, fun j y hj => ?_, ?_⟩
 ·try simp only at hj
  split at hj
  ·rcases old hj with ⟨c', h1⟩ | h1
   ·exact .inl ⟨k, c', h1⟩
   ·exact .inr h1
  ·exact .inl ⟨j, c, hj⟩
 ·rcases p2.im b o hb with h1 | h1 | ⟨j, c, h1⟩
  ·exact .inl h1
  ·exact .inr (.inl h1)
  ·exact .inr (.inr ⟨k, c, (o0 h1).2⟩)
 ·try simp only at hj
  split at hj
  ·rename_i ej
   subst ej
   obtain ⟨e0, h1, h2⟩ := p4 0 b c hj
   simp only [List.getElem?_cons_zero, Option.some.injEq] at h1
   subst h1
   exact ⟨e', List.getElem?_set_self hk, ha'.own h2⟩
  ·rename_i ej
   obtain ⟨e0, h1, h2⟩ := hsr j b c hj
   exact ⟨e0, by rw [List.getElem?_set_ne (fun h => ej h.symm)]; exact h1, h2.mono (heap ej hj) p2.fix hle⟩
 ·try simp only at hj hj'
  split at hj <;> split at hj'
  ·rename_i a b; rw [a, b]
  ·rename_i a a'
   exfalso
   rcases old hj with ⟨c2, h1⟩ | h1
   ·exact a' (hinj j' k b c' c2 hj' h1)
   ·have := hlt hj'; omega
  ·rename_i a a'
   exfalso
   rcases old hj' with ⟨c2, h1⟩ | h1
   ·exact a (hinj j k b c c2 hj h1)
   ·have := hlt hj; omega
  ·exact hinj j j' b c c' hj hj'
 ·try simp only at hj
  split at hj
  ·rename_i ej
   subst ej
   rw [List.getElem?_set_self hk] at h2
   cases h2
   exact p6 0 b c i e' hj rfl h3
  ·rename_i ej
   rw [List.getElem?_set_ne (fun h => ej h.symm)] at h2
   rcases p2.im b i h3 with h4 | h4 | ⟨j', c', h4⟩
   ·exact hfz j b c i e0 hj h2 h4
   ·have := hlt hj; omega
   ·exact absurd (hinj j k b c c' hj (o0 h4).2) ej
 ·try simp only at hj
  rw [List.length_set]
  split at hj
  ·rename_i ej; omega
  ·exact hdom j y hj
 ·refine zDu (fun j y hj => ?_) x v p8
  obtain rfl := d0 hj
  simp only [Nat.add_zero, if_true]
  exact hj
theorem Acts.atC {P : Program} {f : FuncId} {args1 args : List D} {e e' : Bk} {x : D} {st : List Bk} (k : Nat) (h : Acts P f args1 [e] [0] x [e']) (he : st[k]? = some e) (ha : e.free) (ha' : e'.free)
  (hargs : ∀ I w β vs, RelT I w β args vs → RelT I w (only β k) args1 vs) (hno : ∀ j e0, j ≠ k → st[j]? = some e0 → e0.nob = true ∨ zCv k e0.cells = false) : Acts P f args st [k] (zA2 k x) (st.set k e') := by
 intro β I w vs hr hsr hinj hfz hdom hi hg
 have o0 : ∀ {j : Nat} {y : Nat × Nat}, only β k j = some y → j = 0 ∧ β k = some y := fun {j y} hj => by
  simp only [only] at hj
  split at hj
  ·rename_i h0; exact ⟨h0, hj⟩
  ·cases hj
 have hk : k < st.length := (List.getElem?_eq_some_iff.1 he).1
 have hsr1 : SR (only β k) I w [e] := fun j b c hj => by
  obtain ⟨rfl, hb⟩ := o0 hj
  obtain ⟨e0, h1, h2⟩ := hsr k b c hb
  rw [he] at h1; cases h1
  exact ⟨e, rfl, ha.own h2⟩
 have hinj1 : Inj (only β k) := fun j j' b c c' h1 h2 => by rw [(o0 h1).1, (o0 h2).1]
 have hfz1 : FZ (only β k) I [e] := fun j b c i e0 h1 h2 h3 => by
  obtain ⟨rfl, hb⟩ := o0 h1
  simp only [List.getElem?_cons_zero, Option.some.injEq] at h2
  subst h2
  exact hfz k b c i e hb he h3
 refine (h (only β k) I w vs (hargs I w β vs hr) hsr1 hinj1 hfz1 (fun j y hj => by rw [(o0 hj).1]; simp) hi hg).mono ?_
 rintro en w' ⟨v, β1, I', rfl, p1, p2, p3, p4, p5, p6, p7, p8⟩
 have d0 : ∀ {j : Nat} {y : Nat × Nat}, β1 j = some y → j = 0 := fun {j y} hj => by have := p7 j y hj; simpa using this
 have old : ∀ {b c : Nat}, β1 0 = some (b, c) → (∃ c', β k = some (b, c')) ∨ w.heap.size ≤ b := fun {b c} hb => by
  rcases p2.be 0 b c hb with ⟨k', c', hk'⟩ | hh
  ·exact .inl ⟨c', (o0 hk').2⟩
  ·exact .inr hh
 have hlt : ∀ {j b c : Nat}, β j = some (b, c) → b < w.heap.size := fun {j b c} hj => by
  obtain ⟨e0, _, h1⟩ := hsr j b c hj
  exact h1.lt
 have hne : ∀ j y, j ≠ k → β j = some y → (fun j => if j = k then β1 0 else β j) j = some y := fun j y h0 hj => by
  simp only
  rw [if_neg h0]; exact hj
 have heap : ∀ {j b c : Nat}, j ≠ k → β j = some (b, c) → w'.heap[b]? = w.heap[b]? := fun {j b c} hne hj => p2.out b (hlt hj) fun j' c' hj' => by
  have := (o0 hj').2
  exact hne (hinj j k b c c' hj this)
 refine ⟨v, fun j => if j = k then β1 0 else β j, I', rfl, p1, ⟨p2.fix, p2.size, fun b hb hn => p2.out b hb fun j c hj => hn k c (o0 hj).2, p2.os, p2.tape, p2.output, p2.dr, fun j b c hj => ?_, fun b o hb => ?_⟩, fun j y h0 hj => hne j y (by simpa using h0) hj, fun j b c hj => ?_, fun j j' b c c' hj hj' => ?_, fun j b c i e0 hj h2 h3 => ?_, fun j y hj => ?_, ?_⟩
 ·try simp only at hj
  split at hj
  ·rcases old hj with ⟨c', h1⟩ | h1
   ·exact .inl ⟨k, c', h1⟩
   ·exact .inr h1
  ·exact .inl ⟨j, c, hj⟩
 ·rcases p2.im b o hb with h1 | h1 | ⟨j, c, h1⟩
  ·exact .inl h1
  ·exact .inr (.inl h1)
  ·exact .inr (.inr ⟨k, c, (o0 h1).2⟩)
 ·try simp only at hj
  split at hj
  ·rename_i ej
   subst ej
   obtain ⟨e0, h1, h2⟩ := p4 0 b c hj
   simp only [List.getElem?_cons_zero, Option.some.injEq] at h1
   subst h1
   exact ⟨e', List.getElem?_set_self hk, ha'.own h2⟩
  ·rename_i ej
   obtain ⟨e0, h1, h2⟩ := hsr j b c hj
   exact ⟨e0, by rw [List.getElem?_set_ne (fun h => ej h.symm)]; exact h1, (h2.congr (β' := fun j => if j = k then β1 0 else β j) fun hn i y hr hi => by
    refine hne i y (fun e1 => ?_) hi
    subst e1
    rcases hno j e0 ej h1 with h3 | h3
    ·rw [h3] at hn; cases hn
    ·rw [h3] at hr; cases hr).mono (heap ej hj) p2.fix (BeLe.refl _)⟩
 ·try simp only at hj hj'
  split at hj <;> split at hj'
  ·rename_i a b; rw [a, b]
  ·rename_i a a'
   exfalso
   rcases old hj with ⟨c2, h1⟩ | h1
   ·exact a' (hinj j' k b c' c2 hj' h1)
   ·have := hlt hj'; omega
  ·rename_i a a'
   exfalso
   rcases old hj' with ⟨c2, h1⟩ | h1
   ·exact a (hinj j k b c c2 hj h1)
   ·have := hlt hj; omega
  ·exact hinj j j' b c c' hj hj'
 ·try simp only at hj
  split at hj
  ·rename_i ej
   subst ej
   rw [List.getElem?_set_self hk] at h2
   cases h2
   exact p6 0 b c i e' hj rfl h3
  ·rename_i ej
   rw [List.getElem?_set_ne (fun h => ej h.symm)] at h2
   rcases p2.im b i h3 with h4 | h4 | ⟨j', c', h4⟩
   ·exact hfz j b c i e0 hj h2 h4
   ·have := hlt hj; omega
   ·exact absurd (hinj j k b c c' hj (o0 h4).2) ej
 ·try simp only at hj
  rw [List.length_set]
  split at hj
  ·rename_i ej; omega
  ·exact hdom j y hj
 ·refine zDu (fun j y hj => ?_) x v p8
  obtain rfl := d0 hj
  simp only [Nat.add_zero, if_true]
  exact hj
theorem zPg {I : Im} {w : World} {β β' : Be} : ∀ {us vs : List Value}, RelT I w β (us.map .val) vs → RelT I w β' (us.map .val) vs
 | [], vs, h => by simpa only [List.map_nil, RelT] using h
 | u :: us, vs, h => by
  simp only [List.map_cons, RelT, Rel] at h ⊢
  obtain ⟨v, vs', h1, h2, h3⟩ := h
  exact ⟨v, vs', h1, h2, zPg h3⟩
theorem zSl {k off n m : Nat} {wh : Bool} (us : List Value) (I : Im) (w : World) (β : Be) (vs : List Value) (h : RelT I w β (.osl k off n m wh :: us.map .val) vs) : RelT I w (only β k) (.osl 0 off n m wh :: us.map .val) vs := by
 simp only [RelT] at h ⊢
 obtain ⟨v, vs', rfl, h1, h2⟩ := h
 refine ⟨v, vs', rfl, ?_, zPg h2⟩
 simp only [Rel] at h1 ⊢
 simpa [only] using h1
end
section
open Go.RowKit
section
variable {P : Program} {T : Par}
abbrev Uk : D := .unk
abbrev i6 (z : Int) : Prop := -9223372036854775808 ≤ z ∧ z ≤ 9223372036854775807
abbrev u6 (z : Int) : Prop := 0 ≤ z ∧ z ≤ 18446744073709551615
abbrev u3 (z : Int) : Prop := 0 ≤ z ∧ z ≤ 4294967295
abbrev ix (i n : Int) (R : Prop) : Prop := 0 ≤ i ∧ i < n ∧ R
abbrev Fs := List D × List Bk
def rP (P : Program) (T : Par) (ops : Array Oper) (raws : List Nat) (l : List Oper) (gs : List (Nat × Bool)) (p : Fs) : Fs := match runL P T ops raws l gs p.1 p.2 with
 | some x => x.2
 | none => p
def setP (p : Fs) (i : Nat) (d : D) : Fs := (p.1.set i d, p.2)
def setQ (p : Fs) (i : Nat) (b : Bk) : Fs := (p.1, p.2.set i b)
section
variable {ops : Array Oper} {dr : Bool} {l : List Oper} {p : Fs} {K : List D → List Bk → Prop}
theorem v0s {sl : List D} {st : List Bk} (k : seqW P T ops dr l (sl, st).1 (sl, st).2 K) : seqW P T ops dr l sl st K := k
theorem vw (n : Nat) (raws : List Nat) (gs : List (Nat × Bool)) (C : Prop) (k : seqW P T ops dr (l.drop n) (rP P T ops raws (l.take n) gs p).1 (rP P T ops raws (l.take n) gs p).2 K)
  (hc : C := by first | exact True.intro | omega | (repeat' first | exact True.intro | omega | apply And.intro | assumption | decide | (simp; done) | (simp; omega) | kernel_rfl))
  (h : (runL P T ops raws (l.take n) gs p.1 p.2).map (fun x => Alls x.1) = some C := by kernel_rfl) : seqW P T ops dr l p.1 p.2 K := by
 rw [Option.map_eq_some_iff] at h
 obtain ⟨⟨c, s1, s2⟩, h1, rfl⟩ := h
 simp only [rP, h1] at k
 have := zBj (P := P) (T := T) (dr := dr) (K := K) (l.take n) (l.drop n) gs p.1 p.2 c _ _ h1 hc k
 rwa [List.take_append_drop] at this
theorem vr (n : Nat) (C : Prop) (k : seqW P T ops dr (l.drop n) (rP P T ops [] (l.take n) [] p).1 (rP P T ops [] (l.take n) [] p).2 K)
  (hc : C := by first | exact True.intro | omega | (repeat' first | exact True.intro | omega | apply And.intro | assumption | decide | (simp; done) | (simp; omega) | kernel_rfl))
  (h : (runL P T ops [] (l.take n) [] p.1 p.2).map (fun x => Alls x.1) = some C := by kernel_rfl) : seqW P T ops dr l p.1 p.2 K := vw n [] [] C k hc h
theorem vrT (n : Nat) (k : seqW P T ops dr (l.drop n) (rP P T ops [] (l.take n) [] p).1 (rP P T ops [] (l.take n) [] p).2 K)
  (h : (runL P T ops [] (l.take n) [] p.1 p.2).map (fun x => Alls x.1) = some True := by kernel_rfl) : seqW P T ops dr l p.1 p.2 K := vw n [] [] True k trivial h
theorem vwh (n : Nat) (raws : List Nat) (gs : List (Nat × Bool)) (C : Prop) (hc : C) (k : seqW P T ops dr (l.drop n) (rP P T ops raws (l.take n) gs p).1 (rP P T ops raws (l.take n) gs p).2 K) (h : (runL P T ops raws (l.take n) gs p.1 p.2).map (fun x => Alls x.1) = some C := by kernel_rfl) : seqW P T ops dr l p.1 p.2 K := vw n raws gs C k hc h
theorem vew {b : Code} {Q Q' : Exit → List D → List Bk → Prop} (raws : List Nat) (gs : List (Nat × Bool)) (C : Prop) (k : awp P T b Q (rP P T ops raws l gs p).1 (rP P T ops raws l gs p).2)
  (hc : C := by first | exact True.intro | omega | (repeat' first | exact True.intro | omega | apply And.intro | assumption | decide | (simp; done) | (simp; omega) | kernel_rfl))
  (h : (runL P T ops raws l gs p.1 p.2).map (fun x => Alls x.1) = some C := by kernel_rfl) : seqW P T ops dr l p.1 p.2 (zAf (zAo P T b Q) Q' .normal) := by
 rw [Option.map_eq_some_iff] at h
 obtain ⟨⟨c, s1, s2⟩, h1, rfl⟩ := h
 simp only [rP, h1] at k
 have := zBj (P := P) (T := T) (dr := dr) (K := zAf (zAo P T b Q) Q' .normal) l [] gs p.1 p.2 c s1 s2 h1 hc ?_
 ·rwa [List.append_nil] at this
 ·exact ⟨_, _, Weak.refl _ _, k⟩
theorem vewh {b : Code} {Q Q' : Exit → List D → List Bk → Prop} (raws : List Nat) (gs : List (Nat × Bool)) (C : Prop) (hc : C) (k : awp P T b Q (rP P T ops raws l gs p).1 (rP P T ops raws l gs p).2) (h : (runL P T ops raws l gs p.1 p.2).map (fun x => Alls x.1) = some C := by kernel_rfl) : seqW P T ops dr l p.1 p.2 (zAf (zAo P T b Q) Q' .normal) := vew raws gs C k hc h
theorem ve {b : Code} {Q Q' : Exit → List D → List Bk → Prop} (C : Prop) (k : awp P T b Q (rP P T ops [] l [] p).1 (rP P T ops [] l [] p).2)
  (hc : C := by first | exact True.intro | omega | (repeat' first | exact True.intro | omega | apply And.intro | assumption | decide | (simp; done) | (simp; omega) | kernel_rfl))
  (h : (runL P T ops [] l [] p.1 p.2).map (fun x => Alls x.1) = some C := by kernel_rfl) : seqW P T ops dr l p.1 p.2 (zAf (zAo P T b Q) Q' .normal) := vew [] [] C k hc h
theorem veT {b : Code} {Q Q' : Exit → List D → List Bk → Prop} (k : awp P T b Q (rP P T ops [] l [] p).1 (rP P T ops [] l [] p).2)
  (h : (runL P T ops [] l [] p.1 p.2).map (fun x => Alls x.1) = some True := by kernel_rfl) : seqW P T ops dr l p.1 p.2 (zAf (zAo P T b Q) Q' .normal) := vew [] [] True k trivial h
def isC3 (d : D) : Bool := zE4 d || zEl d || (match d with
 | .tup _ => true
 | _ => false)
theorem vsh (i : Nat) {d0 d : D} (hd : d0 = d) (k : seqW P T ops dr l (setP p i d).1 (setP p i d).2 K) (h : p.1.getD i .unk = d0 := by kernel_rfl) (hu : isC3 d = true := by kernel_rfl) : seqW P T ops dr l p.1 p.2 K := by
 subst hd
 simp only [setP] at k
 rwa [zD9 h (by intro e; subst e; simp [isC3, zE4, zEl] at hu)] at k
theorem vs (i : Nat) (d0 d : D) (hd : d0 = d) (k : seqW P T ops dr l (setP p i d).1 (setP p i d).2 K) (h : p.1.getD i .unk = d0 := by kernel_rfl) (hu : isC3 d = true := by kernel_rfl) : seqW P T ops dr l p.1 p.2 K := vsh i hd k h hu
theorem vp (i n : Nat) (X : List D) (k : seqW P T ops dr l (setP p i (.ptr (X.drop n))).1 (setP p i (.ptr (X.drop n))).2 K) (h : p.1.getD i .unk = .ptr (X.drop (n * 1)) := by kernel_rfl) : seqW P T ops dr l p.1 p.2 K := vsh i (by rw [Nat.mul_one]) k h (by rfl)
theorem vo (i b n : Nat) (k : seqW P T ops dr l (setP p i (.own b n)).1 (setP p i (.own b n)).2 K) (h : p.1.getD i .unk = .own b (0 + n * 1) := by kernel_rfl) : seqW P T ops dr l p.1 p.2 K := vsh i (by rw [Nat.mul_one, Nat.zero_add]) k h (by rfl)
theorem vo0 (i b n : Nat) (k : seqW P T ops dr l (setP p i (.own b n)).1 (setP p i (.own b n)).2 K) (h : p.1.getD i .unk = .own b (0 + n) := by kernel_rfl) : seqW P T ops dr l p.1 p.2 K := vsh i (by rw [Nat.zero_add]) k h (by rfl)
theorem vb (i : Nat) (b0 b : Bk) (hd : b0 = b) (k : seqW P T ops dr l (setQ p i b).1 (setQ p i b).2 K) (h : p.2[i]? = some b0 := by kernel_rfl) : seqW P T ops dr l p.1 p.2 K := st_blk i b0 b h hd k
def cSt (P : Program) (T : Par) (ops : Array Oper) (l : List Oper) (p : Fs) : List Bk := match zHo P T ops l [] p.1 p.2 with
 | some x => x.2.2.2
 | none => p.2
def cP (P : Program) (T : Par) (ops : Array Oper) (l : List Oper) (x : D) (p : Fs) : Fs := (putD p.1 (hdst l) x, cSt P T ops l p)
def nP (P : Program) (T : Par) (ops : Array Oper) (l : List Oper) (x : D) (bs : List Bk) (p : Fs) : Fs := (putD p.1 (hdst l) (zA2 p.2.length x), cSt P T ops l p ++ bs)
theorem vc {f : FuncId} {args : List D} {x : D} (hp : Pure P f args [] x) (k : seqW P T ops dr l.tail (cP P T ops l x p).1 (cP P T ops l x p).2 K) (h : (zHo P T ops l [] p.1 p.2).map (fun x => (x.1, x.2.1, x.2.2.1)) = some ([], f, args) := by kernel_rfl) : seqW P T ops dr l p.1 p.2 K := by
 rw [Option.map_eq_some_iff] at h
 obtain ⟨⟨c, g, a, s⟩, h1, h2⟩ := h
 simp only [Prod.mk.injEq] at h2
 obtain ⟨rfl, rfl, rfl⟩ := h2
 simp only [cP, cSt, h1] at k
 exact zMk [] [] a s a h1 trivial (LeL.refl _) hp k
theorem vca {f : FuncId} (args : List D) {x : D} (hp : Pure P f args [] x) (k : seqW P T ops dr l.tail (cP P T ops l x p).1 (cP P T ops l x p).2 K) (h : (zHo P T ops l [] p.1 p.2).map (fun x => (x.1, x.2.1, x.2.2.1)) = some ([], f, args) := by kernel_rfl) : seqW P T ops dr l p.1 p.2 K := vc hp k h
theorem vcl {f : FuncId} (args : List D) {x : D} (args' : List D) (ha : LeL args args') (hp : Pure P f args' [] x) (k : seqW P T ops dr l.tail (cP P T ops l x p).1 (cP P T ops l x p).2 K) (h : (zHo P T ops l [] p.1 p.2).map (fun x => (x.1, x.2.1, x.2.2.1)) = some ([], f, args) := by kernel_rfl) : seqW P T ops dr l p.1 p.2 K := vc (hp.le ha) k h
theorem vnl {f : FuncId} (args : List D) {x : D} {n : Bk} {news : List Bk} (args' : List D) (ha : LeL args args') (hp : Pure P f args' (n :: news) x) (k : seqW P T ops dr l.tail (nP P T ops l x (n :: news) p).1 (nP P T ops l x (n :: news) p).2 K) (h : (zHo P T ops l [] p.1 p.2).map (fun x => (x.1, x.2.1, x.2.2.1)) = some ([], f, args) := by kernel_rfl) : seqW P T ops dr l p.1 p.2 K := by
 rw [Option.map_eq_some_iff] at h
 obtain ⟨⟨c, g, a, s⟩, h1, h2⟩ := h
 simp only [Prod.mk.injEq] at h2
 obtain ⟨rfl, rfl, rfl⟩ := h2
 simp only [nP, cSt, h1] at k
 exact zY3 [] [] a s args' h1 trivial ha hp k
theorem vn {f : FuncId} {args : List D} {x : D} {n : Bk} {news : List Bk} (hp : Pure P f args (n :: news) x) (k : seqW P T ops dr l.tail (nP P T ops l x (n :: news) p).1 (nP P T ops l x (n :: news) p).2 K) (h : (zHo P T ops l [] p.1 p.2).map (fun x => (x.1, x.2.1, x.2.2.1)) = some ([], f, args) := by kernel_rfl) : seqW P T ops dr l p.1 p.2 K := vnl args args (LeL.refl _) hp k h
theorem vnil {sl : List D} {st : List Bk} (k : K sl st) (e : l = [] := by kernel_rfl) : seqW P T ops dr l sl st K := zR2 k e
theorem vsp (t : Nat) (b : Bool) (k1 : b = true → seqW P T ops dr l (setP p t (.val (.bool true))).1 (setP p t (.val (.bool true))).2 K) (k2 : b = false → seqW P T ops dr l (setP p t (.val (.bool false))).1 (setP p t (.val (.bool false))).2 K) (h : zXc ops l p.1 = some (t, b) := by kernel_rfl) : seqW P T ops dr l p.1 p.2 K := zY0 t b h k1 k2
end
section
variable {Q : Exit → List D → List Bk → Prop} {sl : List D} {st : List Bk}
theorem v0 {c : Code} (k : awp P T c Q (sl, st).1 (sl, st).2) : awp P T c Q sl st := k
theorem vd {i : Nat} {ops : Array Oper} (ord : List Nat) {l : List Oper} (h : seqW P T ops true l sl st (Q .normal)) (hr : zTt T ops ord = true := by kernel_rfl) (hl : (ord.map fun i => ops.getD i default) = l := by rfl) : awp P T (.region i ops true) Q sl st := zX2 ord hr hl h
theorem vT {c : Operand} {x y : Code} (p : Prop) [Decidable p] (h : awp P T x Q sl st) (ht : p := by first | omega | assumption) (hc : evD sl c = .val (.bool (decide p)) := by kernel_rfl) : awp P T (.cond c x y) Q sl st := zEs hc (decide_eq_true ht) h
theorem vF {c : Operand} {x y : Code} (p : Prop) [Decidable p] (h : awp P T y Q sl st) (ht : ¬ p := by first | omega | assumption) (hc : evD sl c = .val (.bool (decide p)) := by kernel_rfl) : awp P T (.cond c x y) Q sl st := zFy hc (decide_eq_false ht) h
theorem vt {c : Operand} {x y : Code} (h : awp P T x Q sl st) (hc : evD sl c = .val (.bool true) := by kernel_rfl) : awp P T (.cond c x y) Q sl st := zEs hc rfl h
theorem vf {c : Operand} {x y : Code} (h : awp P T y Q sl st) (hc : evD sl c = .val (.bool false) := by kernel_rfl) : awp P T (.cond c x y) Q sl st := zFy hc rfl h
theorem vEt {c : Operand} {x y : Code} (a b : Int) (h : awp P T x Q sl st) (ht : a = b := by first | omega | assumption) (hc : evD sl c = .val (.bool (a == b)) := by kernel_rfl) : awp P T (.cond c x y) Q sl st := zEs hc (decide_eq_true ht) h
theorem vEf {c : Operand} {x y : Code} (a b : Int) (h : awp P T y Q sl st) (ht : ¬ a = b := by first | omega | assumption) (hc : evD sl c = .val (.bool (a == b)) := by kernel_rfl) : awp P T (.cond c x y) Q sl st := zFy hc (decide_eq_false ht) h
theorem vret {rs : List ResultVar} {e : Exit} {x : D} (C : Prop) (he : e = .normal ∨ e = .ret) (hc : C := by first | exact True.intro | omega | (repeat' first | exact True.intro | omega | apply And.intro | assumption | decide | (simp; done) | (simp; omega) | kernel_rfl))
  (h : (retC P rs sl st).map (fun x => (Alls x.1, zE0 x.2)) = some (C, x) := by kernel_rfl) : (e = .normal ∨ e = .ret) ∧ retL P sl st rs (fun ds => ∃ y ks, frz true st zAl (oneD ds) = some (y, ks) ∧ LeD y x) := zBm C x x he h hc rfl rfl
theorem vre {rs : List ResultVar} {e : Exit} {x : D} (C : Prop) (y : D) (he : e = .normal ∨ e = .ret) (hx : y = x) (hc : C := by first | exact True.intro | omega | (repeat' first | exact True.intro | omega | apply And.intro | assumption | decide | (simp; done) | (simp; omega) | kernel_rfl))
  (h : (retC P rs sl st).map (fun x => (Alls x.1, zE0 x.2)) = some (C, y) := by kernel_rfl) : (e = .normal ∨ e = .ret) ∧ retL P sl st rs (fun ds => ∃ y ks, frz true st zAl (oneD ds) = some (y, ks) ∧ LeD y x) := zBm C y y he h hc rfl hx
def tgt1 (d d' : D) : D := match d' with
 | .unk => .unk
 | _ => match d with
  | .val (.slice none 0 0) => (match d' with
   | .osl k 0 0 0 b => .osl k 0 0 0 b
   | .row [] 0 => .row [] 0
   | _ => d)
  | _ => d
theorem tgt1_le (d d' : D) : LeD d (tgt1 d d') := by
 unfold tgt1
 split
 ·exact .unk _
 ·split
  ·split
   ·exact .nil _ _
   ·exact .nil_row
   ·exact .refl _
  ·exact .refl _
def tgtL : List D → List D → List D
 | [], _ => []
 | d :: ds, [] => d :: ds
 | d :: ds, d' :: ds' => tgt1 d d' :: tgtL ds ds'
theorem zMh : ∀ ds ds' : List D, LeL ds (tgtL ds ds')
 | [], _ => .nil
 | d :: ds, [] => .refl _
 | d :: ds, d' :: ds' => .cons (tgt1_le d d') (zMh ds ds')
theorem wk (i : Nat) (d0 d : D) (hd : d0 = d) {sl' : List D} {st' : List Bk} (k : Weak T (sl.set i d) st sl' st') (h : sl.getD i .unk = d0 := by kernel_rfl) (hu : isC3 d = true := by kernel_rfl) : Weak T sl st sl' st' := by
 subst hd
 rwa [zD9 h (by intro e; subst e; simp [isC3, zE4, zEl] at hu)] at k
theorem vk {sl' : List D} {st' : List Bk} (m : Nat) (hk : ∀ k, m ≤ k → T.keep k = false := by exact fun _ _ => rfl) (h : tgtL sl sl' = sl' := by kernel_rfl) (hn : zKg sl' st m st.length = true := by kernel_rfl) (e : st.take m = st'.take m := by kernel_rfl) : Weak T sl st sl' st' :=
 Weak.all m (st'.drop m) (h ▸ zMh sl sl') hn hk (by rw [e, List.take_append_drop])
def fr (n : Nat) (ch : List (Nat × D)) : List D := updS (List.replicate n .unk) ch
theorem vnt {ops : Array Oper} {dr : Bool} {l : List Oper} {K : List D → List Bk → Prop} (st' : List Bk) (k : seqW P T ops dr l sl st' K) (h2 : st = st' := by kernel_rfl) : seqW P T ops dr l sl st K := by subst h2; exact k
theorem wkn (sl0 : List D) (st0 : List Bk) {sl' : List D} {st' : List Bk} (k : Weak T sl0 st0 sl' st') (h : tgtL sl sl0 = sl0 := by kernel_rfl) (h2 : st = st0 := by kernel_rfl) : Weak T sl st sl' st' := by
 subst h2
 exact (Weak.slots (h ▸ zMh sl sl0)).trans k
theorem vnn {b : Code} (sl' : List D) (st' : List Bk) (k : zAo P T b Q sl' st') (h : tgtL sl sl' = sl' := by kernel_rfl) (h2 : st = st' := by kernel_rfl) : zAo P T b Q sl st := by
 subst h2
 obtain ⟨a, c, h3, h4⟩ := k
 exact ⟨a, c, (Weak.slots (h ▸ zMh sl sl')).trans h3, h4⟩
end
end
end
section
open Go.RowKit
attribute [local irreducible] seqW awp zAf zAo zAg Weak updS zAw retL Pure Acts rP setP setQ cP nP fr
set_option maxRecDepth 4096
abbrev byB (l : List UInt8) : Bk := ⟨zT l, 5, 1, true, false, .plain⟩
def Ta : Par := ⟨fun f => f == 68 || f == 73 || f == 85 || f == 94, fun _ _ => none, fun k => k == 1, fun _ => false, fun _ => false⟩
theorem zYp : zBi Tryd.prog Ta := by intro t n f h; cases h
theorem zB9 (a b : List UInt8) : zT a ++ zT b = zT (a ++ b) := by simp [zT]
theorem zAn (a : List UInt8) : (zT a).length = a.length := by simp [zT]
theorem zF8 (l : List UInt8) : (Lib.byteCells l).map D.val = zT l := by simp [Lib.byteCells, zT]
theorem zK5 (l : List UInt8) : (zT l).map zH7 = zT l := by simp [zT, zH7]
theorem zTn (l : List UInt8) (r : List D) (n : Nat) (h : l.length = n) : (zT l ++ r).take n = zT l := by
 rw [List.take_append_of_le_length (by rw [zAn]; omega), List.take_of_length_le (by rw [zAn]; omega)]
theorem bs_dl (l : List UInt8) : (bs l).data.toList = l := rfl
theorem dd_len (u : Nat) (h : u < 18446744073709551616) : (Lib.decDigits u).length ≤ 20 := by
 rw [Lib.decDigits_length]; exact Lib.nDigits_le20 u h
set_option maxHeartbeats 2000000 in
theorem zQj (l : List UInt8) (u : Nat) (n : Nat) (hn : l.length = n) (hl : n ≤ 1000000000) (hu : u < 18446744073709551616) : Acts Tryd.prog 85 [.osl 0 0 n n true, .val (.int .u64 u), .val (.int .i64 10)] [byB l] [0] (.osl 0 0 (n + (Lib.decDigits u).length) (n + (Lib.decDigits u).length) true) [byB (l ++ Lib.decDigits u)] := by
 subst hn
 have hd := dd_len u hu
 by_cases h1 : u < 100
 ·refine zA8 zYp mixed Tryd.func85 rfl (by intro k hk; match k, hk with | 0, _ => exact .inr (by simp) | 1, _ => exact .inl rfl) ?_
  focus
   refine zB (zA rfl (v0s (veT (zB (zB (zA rfl (veT (vt (zB (zB (zA rfl (veT (vT ((↑u : Int) < (100 : Int)) ?_)))))))))))))
   refine zB (zA rfl (vr 3 (i6 (↑u : Int)) (vc (small_c u h1) (vr 1 (Bk.arr (byB l) = true ∧ List.length (Bk.cells (byB l)) = List.length l * 1 ∧ List.length l = List.length l * 1 ∧ Bk.ty (byB l) = 5 ∧ Bk.sz (byB l) = 1 ∧ List.length (zT (Array.toList (ByteArray.data (ByteArray.mk (List.toArray (Lib.decDigits u)))))) = List.length (Array.toList (ByteArray.data (ByteArray.mk (List.toArray (Lib.decDigits u))))) * 1 ∧ 0 < 1 ∧ 0 < 1 ∧ 5 = 5 ∧ (List.length l + List.length (Array.toList (ByteArray.data (ByteArray.mk (List.toArray (Lib.decDigits u)))))) * 1 ≤ 140737488355328 ∧ 1 = 1 ∧ Kd.isMap (Bk.kd (byB l)) = false ∧ (false = false ∨ Kd.isSh (Bk.kd (byB l)) = true)) (vb 0 (Bk.mk (Bk.cells (byB l) ++ zT (Array.toList (ByteArray.data (ByteArray.mk (List.toArray (Lib.decDigits u)))))) (Bk.ty (byB l)) (Bk.sz (byB l)) (Bk.arr (byB l)) (Bk.fz (byB l)) (Bk.kd (byB l))) (Bk.mk (zT (l ++ Lib.decDigits u)) (5 : TypeId) 1 true false Kd.plain) (by simp (disch := omega) only [zB9]) (vrT 1 (vs 6 (D.osl 0 0 (List.length l + List.length (Array.toList (ByteArray.data (ByteArray.mk (List.toArray (Lib.decDigits u)))))) ((List.length l + List.length (Array.toList (ByteArray.data (ByteArray.mk (List.toArray (Lib.decDigits u)))))) * 1) true) (D.osl 0 0 (List.length l + List.length (Lib.decDigits u)) (List.length l + List.length (Lib.decDigits u)) true) (by simp (disch := omega) only [Nat.mul_one]) (veT (zM (zJ (zJ ?_))))))) ⟨(by kernel_rfl), ⟨(by simp [zAn]), ⟨(by omega), ⟨(by kernel_rfl), ⟨(by kernel_rfl), ⟨(by simp [zAn]), ⟨(by omega), ⟨(by omega), ⟨(by kernel_rfl), ⟨(by (simp; omega)), ⟨(by kernel_rfl), ⟨(by kernel_rfl), (by simp)⟩⟩⟩⟩⟩⟩⟩⟩⟩⟩⟩⟩))))
   refine zCu (True) [D.osl 0 0 (List.length l + List.length (Lib.decDigits u)) (List.length l + List.length (Lib.decDigits u)) true] (.inr rfl) (by kernel_rfl) trivial ?_
   rotate_left
  exact ⟨by kernel_rfl, by kernel_rfl⟩
 ·have h2 : Lib.nDigits u ≤ 20 := Lib.nDigits_le20 u hu
  have hz : ∀ n, n ≤ 20 → (List.replicate 24 (D.val (.int .u8 0))).take n = List.replicate n (.val (.int .u8 0)) := fun n h => by rw [List.take_replicate, Nat.min_eq_left (by omega)]
  have hx := Lib.decDigits_length u
  have hk : ∀ r, (zT (Lib.decDigits u) ++ r).take (Lib.nDigits u) = zT (Lib.decDigits u) := fun r => zTn _ r _ hx
  have main : Acts Tryd.prog 85 [.osl 0 0 l.length l.length true, .val (.int .u64 u), .val (.int .i64 10)] [byB l] [0] (.osl 0 0 (l.length + (Lib.decDigits u).length) (l.length + (Lib.decDigits u).length) true) [byB (l ++ Lib.decDigits u), ⟨List.map (zA5 0) (zT (Lib.decDigits u) ++ List.drop (Lib.nDigits u) (List.replicate 24 (.val (.int .u8 0)))), 144, 0, false, false, .plain⟩] := by
   refine zA8 zYp mixed Tryd.func85 rfl (by intro k hk; match k, hk with | 0, _ => exact .inr (by simp) | 1, _ => exact .inl rfl) ?_
   focus
    refine zB (zA rfl (v0s (veT (zB (zB (zA rfl (veT (vt (zB (zB (zA rfl (veT (vF ((↑u : Int) < (100 : Int)) ?_)))))))))))))
    refine zG (zC (zD (zB (zA rfl (veT (zB (zA rfl (vrT 1 (vc (zQ0 u (by omega) hu) (veT (zB (zA rfl (vr 2 (True ∧ (0 : Int) ≤ (↑(Lib.nDigits u) : Int) ∧ 0 < 1 ∧ Int.toNat (↑(Lib.nDigits u) : Int) ≤ 24 ∧ 24 ≤ maxLen) ?_)))))))))))))
    refine vs 21 (D.osl 1 0 (Int.toNat (↑(Lib.nDigits u) : Int)) (Int.toNat (↑(Lib.nDigits u) : Int) * 1) false) (D.osl 1 0 (Lib.nDigits u) (Lib.nDigits u) false) (by simp (disch := omega) only [Int.toNat_natCast, Nat.mul_one]) (vrT 1 (vnt [byB l, Bk.mk [D.val (Value.int IntKind.u8 0), D.val (Value.int IntKind.u8 0), D.val (Value.int IntKind.u8 0), D.val (Value.int IntKind.u8 0), D.val (Value.int IntKind.u8 0), D.val (Value.int IntKind.u8 0), D.val (Value.int IntKind.u8 0), D.val (Value.int IntKind.u8 0), D.val (Value.int IntKind.u8 0), D.val (Value.int IntKind.u8 0), D.val (Value.int IntKind.u8 0), D.val (Value.int IntKind.u8 0), D.val (Value.int IntKind.u8 0), D.val (Value.int IntKind.u8 0), D.val (Value.int IntKind.u8 0), D.val (Value.int IntKind.u8 0), D.val (Value.int IntKind.u8 0), D.val (Value.int IntKind.u8 0), D.val (Value.int IntKind.u8 0), D.val (Value.int IntKind.u8 0), D.val (Value.int IntKind.u8 0), D.val (Value.int IntKind.u8 0), D.val (Value.int IntKind.u8 0), D.val (Value.int IntKind.u8 0)] 144 0 false false Kd.plain] ?_))
    refine zNz [] [] [D.osl 1 0 (Lib.nDigits u) (Lib.nDigits u) false, D.val (Value.int IntKind.u64 (↑u : Int))] [D.osl 1 0 (Lib.nDigits u) (Lib.nDigits u) false, D.val (Value.int IntKind.u64 (↑u : Int))] (by kernel_rfl) trivial (LeL.refl _) (by exact zQ5 (k := 1) rfl rfl rfl rfl (hz _ h2) (by simp; omega) hu) ?_
    refine v0s (veT (zB (zA rfl (vr 3 (True ∧ (0 : Int) ≤ (↑(Lib.nDigits u) : Int) ∧ 0 < 1 ∧ Int.toNat (↑(Lib.nDigits u) : Int) ≤ 24 ∧ 24 ≤ maxLen) (vs 26 (D.osl 1 0 (Int.toNat (↑(Lib.nDigits u) : Int)) (Int.toNat (↑(Lib.nDigits u) : Int) * 1) false) (D.osl 1 0 (Lib.nDigits u) (Lib.nDigits u) false) (by simp (disch := omega) only [Int.toNat_natCast, Nat.mul_one]) (vr 1 (Bk.arr (Bk.mk (zT l) 5 1 true false Kd.plain) = true ∧ List.length (zT l) = List.length l * 1 ∧ List.length l = List.length l * 1 ∧ Bk.ty (Bk.mk (zT l) 5 1 true false Kd.plain) = 5 ∧ Bk.sz (Bk.mk (zT l) 5 1 true false Kd.plain) = 1 ∧ List.length (List.map zH7 (List.take (Lib.nDigits u) (List.drop 0 (List.map D.val (Lib.byteCells (Lib.decDigits u)) ++ List.drop (Lib.nDigits u) [D.val (Value.int IntKind.u8 0), D.val (Value.int IntKind.u8 0), D.val (Value.int IntKind.u8 0), D.val (Value.int IntKind.u8 0), D.val (Value.int IntKind.u8 0), D.val (Value.int IntKind.u8 0), D.val (Value.int IntKind.u8 0), D.val (Value.int IntKind.u8 0), D.val (Value.int IntKind.u8 0), D.val (Value.int IntKind.u8 0), D.val (Value.int IntKind.u8 0), D.val (Value.int IntKind.u8 0), D.val (Value.int IntKind.u8 0), D.val (Value.int IntKind.u8 0), D.val (Value.int IntKind.u8 0), D.val (Value.int IntKind.u8 0), D.val (Value.int IntKind.u8 0), D.val (Value.int IntKind.u8 0), D.val (Value.int IntKind.u8 0), D.val (Value.int IntKind.u8 0), D.val (Value.int IntKind.u8 0), D.val (Value.int IntKind.u8 0), D.val (Value.int IntKind.u8 0), D.val (Value.int IntKind.u8 0)])))) = Lib.nDigits u * 1 ∧ 0 < 1 ∧ 0 < 1 ∧ 5 = 5 ∧ (List.length l + Lib.nDigits u) * 1 ≤ 140737488355328 ∧ 1 = 1 ∧ Kd.isMap (Bk.kd (Bk.mk (zT l) 5 1 true false Kd.plain)) = false ∧ (false = false ∨ Kd.isSh (Bk.kd (Bk.mk (zT l) 5 1 true false Kd.plain)) = true)) ?_ ⟨(by kernel_rfl), ⟨(by simp [zAn]), ⟨(by omega), ⟨(by kernel_rfl), ⟨(by kernel_rfl), ⟨(by simp [zAn, hk, zK5, zF8, hx]), ⟨(by omega), ⟨(by omega), ⟨(by kernel_rfl), ⟨(by omega), ⟨(by kernel_rfl), ⟨(by kernel_rfl), (by simp)⟩⟩⟩⟩⟩⟩⟩⟩⟩⟩⟩⟩))))))
    refine vb 0 (Bk.mk (zT l ++ List.map zH7 (List.take (Lib.nDigits u) (List.drop 0 (List.map D.val (Lib.byteCells (Lib.decDigits u)) ++ List.drop (Lib.nDigits u) [D.val (Value.int IntKind.u8 0), D.val (Value.int IntKind.u8 0), D.val (Value.int IntKind.u8 0), D.val (Value.int IntKind.u8 0), D.val (Value.int IntKind.u8 0), D.val (Value.int IntKind.u8 0), D.val (Value.int IntKind.u8 0), D.val (Value.int IntKind.u8 0), D.val (Value.int IntKind.u8 0), D.val (Value.int IntKind.u8 0), D.val (Value.int IntKind.u8 0), D.val (Value.int IntKind.u8 0), D.val (Value.int IntKind.u8 0), D.val (Value.int IntKind.u8 0), D.val (Value.int IntKind.u8 0), D.val (Value.int IntKind.u8 0), D.val (Value.int IntKind.u8 0), D.val (Value.int IntKind.u8 0), D.val (Value.int IntKind.u8 0), D.val (Value.int IntKind.u8 0), D.val (Value.int IntKind.u8 0), D.val (Value.int IntKind.u8 0), D.val (Value.int IntKind.u8 0), D.val (Value.int IntKind.u8 0)])))) (Bk.ty (Bk.mk (zT l) 5 1 true false Kd.plain)) (Bk.sz (Bk.mk (zT l) 5 1 true false Kd.plain)) (Bk.arr (Bk.mk (zT l) 5 1 true false Kd.plain)) (Bk.fz (Bk.mk (zT l) 5 1 true false Kd.plain)) (Bk.kd (Bk.mk (zT l) 5 1 true false Kd.plain))) (Bk.mk (zT (l ++ Lib.decDigits u)) 5 1 true false Kd.plain) (by simp (disch := omega) only [zF8, List.drop_zero, zK5, zB9, hk]) (vrT 1 (vs 6 (D.osl 0 0 (List.length l + Lib.nDigits u) ((List.length l + Lib.nDigits u) * 1) true) (D.osl 0 0 (List.length l + Lib.nDigits u) (List.length l + Lib.nDigits u) true) (by simp (disch := omega) only [Nat.mul_one]) (veT (zM (zJ ?_)))))
    refine zCu (True) [D.osl 0 0 (List.length l + Lib.nDigits u) (List.length l + Lib.nDigits u) true] (.inr rfl) (by kernel_rfl) trivial ?_
    rotate_left
   exact ⟨by rw [hx]; rfl, by rw [← zF8 (Lib.decDigits u)]; kernel_rfl⟩
  exact main.cut 1 (by simp) rfl
set_option maxHeartbeats 2000000 in
theorem zX7 (l : List UInt8) (z : Int) (n : Nat) (hn : l.length = n) (hl : n ≤ 900000000) (h0 : -9223372036854775808 ≤ z) (h1 : z ≤ 9223372036854775807) : Acts Tryd.prog 73 [.osl 0 0 n n true, iD z, iD 10] [byB l] [0] (.osl 0 0 (n + (Lib.itoa z).length) (n + (Lib.itoa z).length) true) [byB (l ++ Lib.itoa z)] := by
 subst hn
 by_cases hz : z < 0
 ·have e : Lib.itoa z = 45 :: Lib.decDigits z.natAbs := by unfold Lib.itoa; rw [if_pos hz]
  have e1 : (IntKind.u64.wrap (0 - IntKind.u64.wrap z)) = ((z.natAbs : Nat) : Int) := by
   simp only [IntKind.wrap, IntKind.bits, IntKind.signed, Bool.false_and, Bool.false_eq_true, if_false]; omega
  have j1 := (zQj (l ++ [45]) z.natAbs (l.length + 1) (by simp) (by omega) (by omega)).atC 0 (st := [byB (l ++ [45]), byB [45]]) rfl (.inl rfl) (.inl rfl) (zSl [.int .u64 z.natAbs, .int .i64 10]) (fun j e0 hj he => by match j, hj, he with | 0, hj, _ => exact absurd rfl hj | 1, _, he => cases he; exact .inl rfl)
  have main : Acts Tryd.prog 73 [.osl 0 0 l.length l.length true, iD z, iD 10] [byB l] [0] (.osl 0 0 (l.length + 1 + (Lib.decDigits z.natAbs).length) (l.length + 1 + (Lib.decDigits z.natAbs).length) true) [byB (l ++ [45] ++ Lib.decDigits z.natAbs), byB [45]] := by
   refine zA8 zYp mixed Tryd.func73 rfl (by intro k hk; match k, hk with | 0, _ => exact .inr (by simp) | 1, _ => exact .inl rfl) ?_
   focus
    refine zB (zA rfl (v0s (veT (zB (zA rfl (vew [9] [] (True) (zB (zB (zA rfl (veT (vT (z < 0) (zB (zA rfl ?_)))))))))))))
    refine vr 3 (((1 = 1 ∧ 1 ≤ 1 ∧ True) ∧ 0 < 1 ∧ 1 = 1 ∧ 1 ≤ 16777216 ∧ 1 ≤ 9223372036854775807) ∧ Bk.arr (byB l) = true ∧ List.length (Bk.cells (byB l)) = List.length l * 1 ∧ List.length l = List.length l * 1 ∧ Bk.ty (byB l) = 5 ∧ Bk.sz (byB l) = 1 ∧ 1 = 1 ∧ 0 < 1 ∧ 0 < 1 ∧ 5 = 5 ∧ (List.length l + 1) * 1 ≤ 140737488355328 ∧ 1 = 1 ∧ Kd.isMap (Bk.kd (byB l)) = false ∧ (false = false ∨ Kd.isSh (Bk.kd (byB l)) = true)) (vb 0 (Bk.mk (Bk.cells (byB l) ++ [D.val (Value.int IntKind.u8 45)]) (Bk.ty (byB l)) (Bk.sz (byB l)) (Bk.arr (byB l)) (Bk.fz (byB l)) (Bk.kd (byB l))) (Bk.mk (zT (l ++ [(45 : UInt8)])) (5 : TypeId) 1 true false Kd.plain) (by simp (disch := omega) only [zB9, show ([D.val (Value.int IntKind.u8 45)] : List D) = zT [45] from rfl]) (vrT 1 (vs 0 (D.osl 0 0 (List.length l + 1) ((List.length l + 1) * 1) true) (D.osl 0 0 (List.length l + 1) (List.length l + 1) true) (by simp (disch := omega) only [Nat.mul_one]) (veT (zA rfl (vw 2 [16] [] (True) (vs 16 (D.val (Value.int IntKind.u64 (IntKind.wrap IntKind.u64 ((0 : Int) - IntKind.wrap IntKind.u64 z)))) (D.val (Value.int IntKind.u64 (↑(Int.natAbs z) : Int))) (by simp (disch := omega) only [e1]) (veT (zB (zA rfl (vrT 3 (vnt [Bk.mk (zT (l ++ [(45 : UInt8)])) (5 : TypeId) 1 true false Kd.plain, Bk.mk (zT [(45 : UInt8)]) 5 1 true false Kd.plain] ?_)))))))))))) ⟨⟨⟨(by kernel_rfl), ⟨(by omega), trivial⟩⟩, (by omega)⟩, ⟨(by kernel_rfl), ⟨(by simp [zAn]), ⟨(by omega), ⟨(by kernel_rfl), ⟨(by kernel_rfl), ⟨(by kernel_rfl), ⟨(by omega), ⟨(by omega), ⟨(by kernel_rfl), ⟨(by omega), ⟨(by kernel_rfl), ⟨(by kernel_rfl), (by simp)⟩⟩⟩⟩⟩⟩⟩⟩⟩⟩⟩⟩⟩
    refine zG2 [] [] [D.osl 0 0 (List.length l + 1) (List.length l + 1) true, D.val (Value.int IntKind.u64 (↑(Int.natAbs z) : Int)), iD 10] [D.osl 0 0 (List.length l + 1) (List.length l + 1) true, D.val (Value.int IntKind.u64 (↑(Int.natAbs z) : Int)), iD 10] (by kernel_rfl) trivial (LeL.refl _) (by exact j1) (by kernel_rfl) ?_
    refine v0s (veT (zM ?_))
    refine zCu (True) [D.osl 0 0 (List.length l + 1 + List.length (Lib.decDigits (Int.natAbs z))) (List.length l + 1 + List.length (Lib.decDigits (Int.natAbs z))) true] (.inr rfl) (by kernel_rfl) trivial ?_
    rotate_left
   exact ⟨by kernel_rfl, by kernel_rfl⟩
  have h2 := main.cut 1 (by simp) rfl
  rw [e, show l ++ 45 :: Lib.decDigits z.natAbs = l ++ [45] ++ Lib.decDigits z.natAbs by simp, show l.length + (45 :: Lib.decDigits z.natAbs).length = l.length + 1 + (Lib.decDigits z.natAbs).length by simp; omega]
  exact h2
 ·obtain ⟨u, rfl⟩ : ∃ u : Nat, z = u := ⟨z.toNat, by omega⟩
  have e : Lib.itoa u = Lib.decDigits u := Lib.itoa_nonneg u
  have j1 := zQj l u l.length rfl (by omega) (by omega)
  rw [e]
  refine zA8 zYp mixed Tryd.func73 rfl (by intro k hk; match k, hk with | 0, _ => exact .inr (by simp) | 1, _ => exact .inl rfl) ?_
  focus
   refine zB (zA rfl (v0s (veT (zB (zA rfl (ve (u6 (↑u : Int)) (zB (zB (zA rfl (veT (vF ((↑u : Int) < 0) (zG (zC ?_)))))))))))))
   refine zD (zB (zA rfl (vrT 3 (vnt [byB l] ?_))))
   refine zG2 [] [] [D.osl 0 0 (List.length l) (List.length l) true, D.val (Value.int IntKind.u64 (↑u : Int)), iD 10] [D.osl 0 0 (List.length l) (List.length l) true, D.val (Value.int IntKind.u64 (↑u : Int)), iD 10] (by kernel_rfl) trivial (LeL.refl _) (by exact j1) (by kernel_rfl) ?_
   refine v0s (veT (zM ?_))
   refine zCu (True) [D.osl 0 0 (List.length l + List.length (Lib.decDigits u)) (List.length l + List.length (Lib.decDigits u)) true] (.inr rfl) (by kernel_rfl) trivial ?_
   rotate_left
  exact ⟨by kernel_rfl, by kernel_rfl⟩
theorem appInt_c (l : List UInt8) (z : Int) (n : Nat) (hn : l.length = n) (hl : n ≤ 900000000) (h0 : -9223372036854775808 ≤ z) (h1 : z ≤ 9223372036854775807) : Acts Tryd.prog 68 [.osl 0 0 n n true, iD z, iD 10] [byB l] [0] (.osl 0 0 (n + (Lib.itoa z).length) (n + (Lib.itoa z).length) true) [byB (l ++ Lib.itoa z)] := by
 refine zA8 zYp mixed Tryd.func68 rfl (by intro k hk; match k, hk with | 0, _ => exact .inr (by simp) | 1, _ => exact .inl rfl) ?_
 focus
  refine zB (zA rfl (v0s (veT (zB (zA rfl (vrT 3 (vnt [byB l] ?_)))))))
  refine zG2 [] [] [D.osl 0 0 n n true, iD z, iD 10] [D.osl 0 0 n n true, iD z, iD 10] (by kernel_rfl) trivial (LeL.refl _) (by exact zX7 l z n hn hl h0 h1) (by kernel_rfl) ?_
  refine v0s (veT (zM ?_))
  refine zCu (True) [D.osl 0 0 (n + List.length (Lib.itoa z)) (n + List.length (Lib.itoa z)) true] (.inr rfl) (by kernel_rfl) trivial ?_
  rotate_left
 exact ⟨by kernel_rfl, by kernel_rfl⟩
theorem zLa {st : List Bk} (k : Nat) (l : List UInt8) (z : Int) (n : Nat) (hn : l.length = n) (hl : n ≤ 900000000) (h0 : -9223372036854775808 ≤ z) (h1 : z ≤ 9223372036854775807) (he : st[k]? = some (byB l)) (hno : ∀ j e0, j ≠ k → st[j]? = some e0 → e0.nob = true ∨ zCv k e0.cells = false) : Acts Tryd.prog 68 [.osl k 0 n n true, iD z, iD 10] st [k] (.osl k 0 (n + (Lib.itoa z).length) (n + (Lib.itoa z).length) true) (st.set k (byB (l ++ Lib.itoa z))) :=
 (appInt_c l z n hn hl h0 h1).atC k he (.inl rfl) (.inl rfl) (zSl [.int .i64 z, .int .i64 10]) hno
end
section
open Go.RowKit
theorem scmp_c (a b : List UInt8) : Pure Tryd.prog 72 [strD a, strD b] [] (iD (Lib.compareBytes a b)) :=
 zEe (us := [.string (bs a), .string (bs b)]) fun w => (Tryd.strings_Compare (bs a) (bs b) w).mono fun e w' h => ⟨h.1, h.2.symm⟩
end
section
open Go.RowKit
attribute [local irreducible] seqW awp zAf zAo zAg Weak updS zAw retL Pure Acts rP setP setQ cP nP fr
set_option maxRecDepth 4096
set_option maxHeartbeats 1000000 in
theorem zFt (l : List Nat) (n : Nat) (hn : l.length = n) (hl : n ≤ 1000000000) (hd : Digs l) : Pure Tryd.prog 35 [.row (l.map dig) n] [] (natD (nval l)) := by
 subst hn
 refine zL zB0 mixed Tryd.func35 rfl ?_
 focus
  refine zB (zA rfl (v0s (veT (zB (zA rfl (veT (zB (zF ?_))))))))
  rotate_left
 refine zW (fun (n : Nat) => fr 22 [(0, digR l), (2, nl), (3, iD ↑n)]) (fun _ => []) (fun n => n) (fun n => n ≤ l.length ∧ zBl l n = zBl l l.length) l.length ?_ ?_ ?_
 ·exact ⟨Nat.le_refl _, rfl⟩
 ·refine vk 0
 rintro n ⟨h1, h2⟩
 focus
  refine zB (zB (zA rfl (v0s (vrT 3 ?_))))
  refine vsp 8 (decide ((↑n : Int) > (0 : Int))) (fun hc => ?_) (fun hc => ?_)
  simp only [decide_eq_true_eq] at hc
  refine vr 3 (i6 (↑n - 1)) (vs 11 (iD (↑n - 1)) (iD ↑(n - 1)) (by simp (disch := omega) only [zDb]) (vr 1 (ix ↑(n - 1) ↑(List.length l) (List.map dig l ≠ [])) (vp 12 (n - 1) (List.map dig l) (vr 1 (0 < List.length (List.drop (n - 1) (List.map dig l))) (vs 13 (List.headD (List.drop (n - 1) (List.map dig l)) Uk) (dig (List.getD l (n - 1) 0)) (by simp (disch := omega) only [zA7]) (veT ?_)))) ⟨(by omega), ⟨(by omega), (by exact zY (by omega))⟩⟩))
  refine zR (t := (↑(List.getD l (n - 1) 0) : Int) == (0 : Int)) (by kernel_rfl) (fun hc => ?_) (fun hc => ?_)
  simp only [beq_iff_eq] at hc
  refine zG (zC (zD (zF (zA rfl (vr 2 (i6 (↑n - 1)) (vs 17 (iD (↑n - 1)) (iD ↑(n - 1)) (by simp (disch := omega) only [zDb]) (vrT 1 (vnil (zE (zC ?_))))))))))
  rotate_left
  simp only [beq_eq_false_iff_ne] at hc
  refine zQ (zH (zH (zP rfl (zC (zD (zB (zA rfl (vr 4 (True ∧ (0 : Int) ≤ (↑n : Int) ∧ (0 : Int) ≤ (↑n : Int) ∧ 0 < 1 ∧ 0 ≤ Int.toNat (↑n : Int) ∧ Int.toNat (↑n : Int) ≤ List.length l ∧ Int.toNat (↑n : Int) = Int.toNat (↑n : Int)) (vs 21 (D.row (List.take ((Int.toNat (↑n : Int) - 0) * 1) (List.drop 0 (List.map dig l))) (Int.toNat (↑n : Int) - 0)) (D.row (List.map dig (List.take n l)) n) (by simp (disch := omega) only [Int.toNat_natCast, Nat.sub_zero, Nat.mul_one, List.drop_zero, zGd]) (veT (zM ?_)))))))))))
  refine vre (True) (D.row (List.map dig (List.take n l)) n) (.inr rfl) ?_
  rotate_left
  simp only [decide_eq_false_iff_not] at hc
  refine veT (vf (zQ (zH (zH (zP rfl (zC (zD (zB (zA rfl (vr 4 (True ∧ (0 : Int) ≤ (↑n : Int) ∧ (0 : Int) ≤ (↑n : Int) ∧ 0 < 1 ∧ 0 ≤ Int.toNat (↑n : Int) ∧ Int.toNat (↑n : Int) ≤ List.length l ∧ Int.toNat (↑n : Int) = Int.toNat (↑n : Int)) (vs 21 (D.row (List.take ((Int.toNat (↑n : Int) - 0) * 1) (List.drop 0 (List.map dig l))) (Int.toNat (↑n : Int) - 0)) (D.row (List.map dig (List.take n l)) n) (by simp (disch := omega) only [Int.toNat_natCast, Nat.sub_zero, Nat.mul_one, List.drop_zero, zGd]) (veT (zM ?_)))))))))))))
  refine vre (True) (D.row (List.map dig (List.take n l)) n) (.inr rfl) ?_
  rotate_left
 ·refine ⟨n - 1, ⟨by omega, ?_⟩, by omega, ?_⟩
  ·rw [← h2]
   obtain ⟨m, rfl⟩ : ∃ m, n = m + 1 := ⟨n - 1, by omega⟩
   simp only [zBl]
   rw [if_pos (by simpa using hc)]; simp
  ·refine vk 0
 all_goals
  have e : n = zBl l l.length := by
   rw [← h2]
   cases n with
   | zero => rfl
   | succ m =>
    simp only [zBl]
    rw [if_neg (by first | omega | simpa using hc)]
  have e2 : (dg (nval l)).length = n := by rw [← zMg hd, List.length_take, Nat.min_eq_left (zLk _ _), e]
  rw [natD, digR, e2, e, zMg hd]
theorem of_c (n : Nat) (hn : n < 18446744073709551616) : Pure Tryd.prog 17 [.val (.int .u64 n)] [] (natD n) := by
 refine zL zB0 mixed Tryd.func17 rfl ?_
 focus
  refine zB (zA rfl (v0s (veT (zB (zA rfl (vw 4 [4] [] (True ∧ (0 : Int) ≤ (32 : Int)) (vs 6 (D.val (Value.int IntKind.u64 (Int.fdiv (↑n : Int) ((2 : Int) ^ 32)))) (D.val (Value.int IntKind.u64 (↑(n / 4294967296) : Int))) (by simp (disch := omega) only [zHl]) (vr 2 (u3 (↑(n / 4294967296) : Int) ∧ (1 = 1 ∧ 1 ≤ 2 ∧ 1 = 1 ∧ 2 ≤ 2 ∧ True) ∧ 0 < 1 ∧ 1 = 1 ∧ 2 ≤ 16777216 ∧ 2 ≤ 9223372036854775807) (vc (zFt [n % 4294967296, n / 4294967296] 2 rfl (by omega) (Digs.mk (by omega) (Digs.mk (by omega) Digs.nil))) (veT (zM ?_)))))))))))
  refine vre (True) (natD (nval [n % 4294967296, n / 4294967296])) (.inr rfl) ?_
  rotate_left
 rw [show nval [n % 4294967296, n / 4294967296] = n by simp [nval]; omega]
set_option maxHeartbeats 2000000 in
theorem add_c (a b : List Nat) (n m : Nat) (hn : a.length = n) (hm : b.length = m) (hl : n ≤ 1000000) (hl' : m ≤ 1000000) (ha : Digs a) (hb : Digs b) : Pure Tryd.prog 46 [.row (a.map dig) n, .row (b.map dig) m] [] (natD (nval a + nval b)) := by
 subst hn hm
 have la := zL9 ha
 have lb := zL9 hb
 refine zL zB0 mixed Tryd.func46 rfl ?_
 focus
  refine zB (zA rfl (v0s (veT (zB (zA rfl (vrT 1 (vc (zFt a _ rfl (by omega) ha) (vrT 1 (vc (zFt b _ rfl (by omega) hb) (veT (zB (zB (zA rfl ?_)))))))))))))
  refine veT ?_
  refine zR (t := decide ((↑(List.length (dg (nval a))) : Int) < (↑(List.length (dg (nval b))) : Int))) (by kernel_rfl) (fun hc => ?_) (fun hc => ?_)
  simp only [decide_eq_true_eq] at hc
  refine zA rfl (veT (zB (zA rfl (vr 4 (i6 ((↑(List.length (dg (nval b))) : Int) + (1 : Int)) ∧ (0 : Int) ≤ (↑(List.length (dg (nval b)) + 1) : Int) ∧ (↑(List.length (dg (nval b)) + 1) : Int) ≤ (↑(List.length (dg (nval b)) + 1) : Int) ∧ (↑(4 : Nat) : Int) * (↑(List.length (dg (nval b)) + 1) : Int) ≤ (281474976710656 : Int) ∧ (↑(List.length (dg (nval b)) + 1) : Int) ≤ (281474976710656 : Int) ∧ 0 < 1 ∧ 1 = 1) (vb 0 (Bk.mk (repL (Int.toNat (↑(List.length (dg (nval b)) + 1) : Int)) [D.val (Value.int IntKind.u32 0)]) 22 1 true false (kdOf false)) (Bk.mk (List.map dig (List.replicate (List.length (dg (nval b)) + 1) 0)) 22 1 true false (kdOf false)) (by simp (disch := omega) only [Int.toNat_natCast, zMq]) (vrT 1 (vs 5 (D.osl 0 0 (Int.toNat (↑(List.length (dg (nval b)) + 1) : Int)) (Int.toNat (↑(List.length (dg (nval b)) + 1) : Int) * 1) true) (D.osl 0 0 (List.length (dg (nval b)) + 1) (List.length (dg (nval b)) + 1) true) (by simp (disch := omega) only [Int.toNat_natCast, Nat.mul_one]) (veT (zB (zA rfl (veT (zB (zB ?_)))))))))))))
  refine zA rfl (veT (zF ?_))
  rotate_left
  simp only [decide_eq_false_iff_not] at hc
  refine zG (zC (zD (zB (zA rfl (vr 4 (i6 ((↑(List.length (dg (nval a))) : Int) + (1 : Int)) ∧ (0 : Int) ≤ (↑(List.length (dg (nval a)) + 1) : Int) ∧ (↑(List.length (dg (nval a)) + 1) : Int) ≤ (↑(List.length (dg (nval a)) + 1) : Int) ∧ (↑(4 : Nat) : Int) * (↑(List.length (dg (nval a)) + 1) : Int) ≤ (281474976710656 : Int) ∧ (↑(List.length (dg (nval a)) + 1) : Int) ≤ (281474976710656 : Int) ∧ 0 < 1 ∧ 1 = 1) (vb 0 (Bk.mk (repL (Int.toNat (↑(List.length (dg (nval a)) + 1) : Int)) [D.val (Value.int IntKind.u32 0)]) 22 1 true false (kdOf false)) (Bk.mk (List.map dig (List.replicate (List.length (dg (nval a)) + 1) 0)) 22 1 true false (kdOf false)) (by simp (disch := omega) only [Int.toNat_natCast, zMq]) (vrT 1 (vs 5 (D.osl 0 0 (Int.toNat (↑(List.length (dg (nval a)) + 1) : Int)) (Int.toNat (↑(List.length (dg (nval a)) + 1) : Int) * 1) true) (D.osl 0 0 (List.length (dg (nval a)) + 1) (List.length (dg (nval a)) + 1) true) (by simp (disch := omega) only [Int.toNat_natCast, Nat.mul_one]) (veT (zB (zA rfl (veT (zB ?_)))))))))))))
  refine zB (zA rfl (veT (zF ?_)))
  rotate_left
 ·have hS1 := la
  have hL1 := lb
  have dL : Digs (dg (nval b)) := zBg _
  have dS : Digs (dg (nval a)) := zBg _
  have ev : nval (dg (nval b)) + nval (dg (nval a)) = nval a + nval b := by have := zBd (nval a); have := zBd (nval b); omega
  generalize (dg (nval b)) = L at *
  generalize (dg (nval a)) = M at *
  refine zA4 (fun (k : Nat) (c : Nat) (cur : List Nat) => fr 62 [(0, digR L), (1, digR M), (4, nl), (5, D.osl 0 0 (List.length L + 1) (List.length L + 1) true), (6, D.val (Value.int IntKind.u64 (↑c : Int))), (24, iD ↑(List.length L)), (25, iD ↑k)]) (fun k c cur => [⟨cur.map dig, 22, 1, true, false, .plain⟩]) (fun k c cur => L.length - k) (fun k c cur => k ≤ L.length ∧ c ≤ 1 ∧ cur.length = L.length + 1 ∧ Digs cur ∧ nval (cur.take k) + 4294967296 ^ k * c = nval (L.take k) + nval (M.take k)) 0 0 (List.replicate (L.length + 1) 0) ?_ ?_ ?_
  ·exact ⟨by simp, by simp, by simp, Digs.replicate _, by simp [nval]⟩
  ·refine vk 1
  rintro k c cur ⟨h1, h2, h3, h4, h5⟩
  have hx := dL k
  have hy := dS k
  focus
   refine zB (zA rfl (v0s (veT (zB ?_))))
   refine zR (t := decide ((↑k : Int) < ↑(List.length L))) (by kernel_rfl) (fun hc => ?_) (fun hc => ?_)
   simp only [decide_eq_true_eq] at hc
   refine zG (zC (zD (zB (zF (zB (zA rfl (veT (zB (zA rfl (vr 4 (ix ↑k ↑(List.length L) (List.map dig L ≠ [])) (vp 31 k (List.map dig L) (vr 1 (0 < List.length (List.drop k (List.map dig L))) (vs 32 (List.headD (List.drop k (List.map dig L)) Uk) (dig (List.getD L k 0)) (by simp (disch := omega) only [zA7]) ?_))) ⟨(by omega), ⟨(by omega), (by exact zY (by omega))⟩⟩))))))))))
   refine ve (u6 (↑(List.getD L k 0) : Int) ∧ u6 ((↑c : Int) + (↑(List.getD L k 0) : Int))) (zB (zB (zA rfl (veT ?_))))
   refine zR (t := decide ((↑k : Int) < ↑(List.length M))) (by kernel_rfl) (fun hc => ?_) (fun hc => ?_)
   simp only [decide_eq_true_eq] at hc
   refine zA rfl (vr 4 (ix ↑k ↑(List.length M) (List.map dig M ≠ [])) (vp 42 k (List.map dig M) (vr 1 (0 < List.length (List.drop k (List.map dig M))) (vs 43 (List.headD (List.drop k (List.map dig M)) Uk) (dig (List.getD M k 0)) (by simp (disch := omega) only [zA7]) (ve (u6 (↑(List.getD M k 0) : Int) ∧ u6 ((↑(c + List.getD L k 0) : Int) + (↑(List.getD M k 0) : Int))) (zB (zA rfl (vw 5 [49] [] (True ∧ (0 : Int) ≤ (↑k : Int) ∧ (↑k : Int) < ↑(List.length L + 1)) (vo 50 0 k (vr 1 (Bk.fz (Bk.mk (List.map dig cur) 22 1 true false Kd.plain) = false ∧ true = true ∧ 1 = 1 ∧ k + 1 ≤ List.length (List.map dig cur) ∧ ¬0 ∈ []) (vb 0 (Bk.mk (setAt (List.map dig cur) k (cellsOf (dig ((c + List.getD L k 0 + List.getD M k 0) % 4294967296)))) (Bk.ty (Bk.mk (List.map dig cur) 22 1 true false Kd.plain)) (Bk.sz (Bk.mk (List.map dig cur) 22 1 true false Kd.plain)) (Bk.arr (Bk.mk (List.map dig cur) 22 1 true false Kd.plain)) (Bk.fz (Bk.mk (List.map dig cur) 22 1 true false Kd.plain)) (Bk.kd (Bk.mk (List.map dig cur) 22 1 true false Kd.plain))) (Bk.mk (List.map dig (List.set cur k ((c + List.getD L k 0 + List.getD M k 0) % 4294967296))) 22 1 true false Kd.plain) (by simp (disch := omega) only [cellsOf, setAt, zEx]) (veT (zA rfl ?_)))))))))))) ⟨(by omega), ⟨(by omega), (by exact zY (by omega))⟩⟩)
   refine vr 2 ((0 : Int) ≤ (32 : Int)) (vs 52 (D.val (Value.int IntKind.u64 (Int.fdiv (↑(c + List.getD L k 0 + List.getD M k 0) : Int) ((2 : Int) ^ 32)))) (D.val (Value.int IntKind.u64 (↑((c + List.getD L k 0 + List.getD M k 0) / 4294967296) : Int))) (by simp (disch := omega) only [zHl]) (vrT 1 (vnil (zE (zC (zD (zA rfl (vr 2 (i6 (↑k + 1)) (vnil (zC ?_))))))))))
   rotate_left
   simp only [decide_eq_false_iff_not] at hc
   refine zG (zC (zD (zB (zA rfl (vw 5 [49] [] (True ∧ (0 : Int) ≤ (↑k : Int) ∧ (↑k : Int) < ↑(List.length L + 1)) (vo 50 0 k (vr 1 (Bk.fz (Bk.mk (List.map dig cur) 22 1 true false Kd.plain) = false ∧ true = true ∧ 1 = 1 ∧ k + 1 ≤ List.length (List.map dig cur) ∧ ¬0 ∈ []) (vb 0 (Bk.mk (setAt (List.map dig cur) k (cellsOf (dig ((c + List.getD L k 0) % 4294967296)))) (Bk.ty (Bk.mk (List.map dig cur) 22 1 true false Kd.plain)) (Bk.sz (Bk.mk (List.map dig cur) 22 1 true false Kd.plain)) (Bk.arr (Bk.mk (List.map dig cur) 22 1 true false Kd.plain)) (Bk.fz (Bk.mk (List.map dig cur) 22 1 true false Kd.plain)) (Bk.kd (Bk.mk (List.map dig cur) 22 1 true false Kd.plain))) (Bk.mk (List.map dig (List.set cur k ((c + List.getD L k 0) % 4294967296))) 22 1 true false Kd.plain) (by simp (disch := omega) only [cellsOf, setAt, zEx]) (veT (zA rfl (vr 2 ((0 : Int) ≤ (32 : Int)) (vs 52 (D.val (Value.int IntKind.u64 (Int.fdiv (↑(c + List.getD L k 0) : Int) ((2 : Int) ^ 32)))) (D.val (Value.int IntKind.u64 (↑((c + List.getD L k 0) / 4294967296) : Int))) (by simp (disch := omega) only [zHl]) (vrT 1 ?_)))))))))))))
   refine vnil (zE (zC (zD (zA rfl (vr 2 (i6 (↑k + 1)) (vnil (zC ?_)))))))
   rotate_left
   simp only [decide_eq_false_iff_not] at hc
   refine zQ (zH (zH (zP rfl (zC (zD (zB (zA rfl (vr 6 (u3 (↑c : Int) ∧ (0 : Int) ≤ (↑(List.length L) : Int) ∧ (↑(List.length L) : Int) < (↑(List.length L + 1) : Int)) (vo 59 0 (List.length L) (vr 1 (Bk.fz (Bk.mk (List.map dig cur) 22 1 true false Kd.plain) = false ∧ true = true ∧ 1 = 1 ∧ List.length L + 1 ≤ List.length (List.map dig cur) ∧ ¬0 ∈ []) (vb 0 (Bk.mk (setAt (List.map dig cur) (List.length L) (cellsOf (dig c))) (Bk.ty (Bk.mk (List.map dig cur) 22 1 true false Kd.plain)) (Bk.sz (Bk.mk (List.map dig cur) 22 1 true false Kd.plain)) (Bk.arr (Bk.mk (List.map dig cur) 22 1 true false Kd.plain)) (Bk.fz (Bk.mk (List.map dig cur) 22 1 true false Kd.plain)) (Bk.kd (Bk.mk (List.map dig cur) 22 1 true false Kd.plain))) (Bk.mk (List.map dig (List.set cur (List.length L) c)) 22 1 true false Kd.plain) (by simp (disch := omega) only [cellsOf, setAt, zEx]) (veT (zB ?_)))))))))))))
   refine zA rfl (vrT 1 (vcl [D.row (List.take (List.length L + 1) (List.drop 0 (List.map dig (List.set cur (List.length L) c)))) (List.length L + 1)] [D.row (List.map dig (List.take (List.length L + 1) (List.set cur (List.length L) c))) (List.length L + 1)] (LeL.of_eq (by simp (disch := omega) only [List.drop_zero, zGd])) (by exact zFt _ _ (by simp; omega) (by omega) ((h4.set _ _ (by omega) (by omega)).take _)) (veT (zM ?_))))
   refine vre (True) (natD (nval (List.take (List.length L + 1) (List.set cur (List.length L) c)))) (.inr rfl) ?_
   rotate_left
  ·obtain ⟨s1, s2⟩ := zJq (by omega) h2 dL dS h5
   refine ⟨k + 1, (c + L.getD k 0 + M.getD k 0) / 4294967296, cur.set k ((c + L.getD k 0 + M.getD k 0) % 4294967296), ⟨by omega, s1, by simpa using h3, h4.set _ _ (by omega) (by omega), s2⟩, by omega, ?_⟩
   refine vk 1
  ·obtain ⟨s1, s2⟩ := zJq (by omega) h2 dL dS h5
   have e0 : M.getD k 0 = 0 := by rw [List.getD_eq_getElem?_getD, List.getElem?_eq_none (by omega)]; rfl
   rw [e0, Nat.add_zero] at s1 s2
   refine ⟨k + 1, (c + L.getD k 0) / 4294967296, cur.set k ((c + L.getD k 0) % 4294967296), ⟨by omega, s1, by simpa using h3, h4.set _ _ (by omega) (by omega), s2⟩, by omega, ?_⟩
   refine vk 1
  ·have ek : k = L.length := by omega
   subst ek
   have e1 : nval ((cur.set L.length c).take (L.length + 1)) = nval a + nval b := by
    rw [zA0, take_set, zFk _ _ _ _ (by omega), if_pos rfl, h5, List.take_length, List.take_of_length_le (by omega), ev]
   rw [e1]
 ·have hS1 := lb
  have hL1 := la
  have dL : Digs (dg (nval a)) := zBg _
  have dS : Digs (dg (nval b)) := zBg _
  have ev : nval (dg (nval a)) + nval (dg (nval b)) = nval a + nval b := by have := zBd (nval a); have := zBd (nval b); omega
  generalize (dg (nval a)) = L at *
  generalize (dg (nval b)) = M at *
  refine zA4 (fun (k : Nat) (c : Nat) (cur : List Nat) => fr 62 [(0, digR L), (1, digR M), (4, nl), (5, D.osl 0 0 (List.length L + 1) (List.length L + 1) true), (6, D.val (Value.int IntKind.u64 (↑c : Int))), (24, iD ↑(List.length L)), (25, iD ↑k)]) (fun k c cur => [⟨cur.map dig, 22, 1, true, false, .plain⟩]) (fun k c cur => L.length - k) (fun k c cur => k ≤ L.length ∧ c ≤ 1 ∧ cur.length = L.length + 1 ∧ Digs cur ∧ nval (cur.take k) + 4294967296 ^ k * c = nval (L.take k) + nval (M.take k)) 0 0 (List.replicate (L.length + 1) 0) ?_ ?_ ?_
  ·exact ⟨by simp, by simp, by simp, Digs.replicate _, by simp [nval]⟩
  ·refine vk 1
  rintro k c cur ⟨h1, h2, h3, h4, h5⟩
  have hx := dL k
  have hy := dS k
  focus
   refine zB (zA rfl (v0s (veT (zB ?_))))
   refine zR (t := decide ((↑k : Int) < ↑(List.length L))) (by kernel_rfl) (fun hc => ?_) (fun hc => ?_)
   simp only [decide_eq_true_eq] at hc
   refine zG (zC (zD (zB (zF (zB (zA rfl (veT (zB (zA rfl (vr 4 (ix ↑k ↑(List.length L) (List.map dig L ≠ [])) (vp 31 k (List.map dig L) (vr 1 (0 < List.length (List.drop k (List.map dig L))) (vs 32 (List.headD (List.drop k (List.map dig L)) Uk) (dig (List.getD L k 0)) (by simp (disch := omega) only [zA7]) ?_))) ⟨(by omega), ⟨(by omega), (by exact zY (by omega))⟩⟩))))))))))
   refine ve (u6 (↑(List.getD L k 0) : Int) ∧ u6 ((↑c : Int) + (↑(List.getD L k 0) : Int))) (zB (zB (zA rfl (veT ?_))))
   refine zR (t := decide ((↑k : Int) < ↑(List.length M))) (by kernel_rfl) (fun hc => ?_) (fun hc => ?_)
   simp only [decide_eq_true_eq] at hc
   refine zA rfl (vr 4 (ix ↑k ↑(List.length M) (List.map dig M ≠ [])) (vp 42 k (List.map dig M) (vr 1 (0 < List.length (List.drop k (List.map dig M))) (vs 43 (List.headD (List.drop k (List.map dig M)) Uk) (dig (List.getD M k 0)) (by simp (disch := omega) only [zA7]) (ve (u6 (↑(List.getD M k 0) : Int) ∧ u6 ((↑(c + List.getD L k 0) : Int) + (↑(List.getD M k 0) : Int))) (zB (zA rfl (vw 5 [49] [] (True ∧ (0 : Int) ≤ (↑k : Int) ∧ (↑k : Int) < ↑(List.length L + 1)) (vo 50 0 k (vr 1 (Bk.fz (Bk.mk (List.map dig cur) 22 1 true false Kd.plain) = false ∧ true = true ∧ 1 = 1 ∧ k + 1 ≤ List.length (List.map dig cur) ∧ ¬0 ∈ []) (vb 0 (Bk.mk (setAt (List.map dig cur) k (cellsOf (dig ((c + List.getD L k 0 + List.getD M k 0) % 4294967296)))) (Bk.ty (Bk.mk (List.map dig cur) 22 1 true false Kd.plain)) (Bk.sz (Bk.mk (List.map dig cur) 22 1 true false Kd.plain)) (Bk.arr (Bk.mk (List.map dig cur) 22 1 true false Kd.plain)) (Bk.fz (Bk.mk (List.map dig cur) 22 1 true false Kd.plain)) (Bk.kd (Bk.mk (List.map dig cur) 22 1 true false Kd.plain))) (Bk.mk (List.map dig (List.set cur k ((c + List.getD L k 0 + List.getD M k 0) % 4294967296))) 22 1 true false Kd.plain) (by simp (disch := omega) only [cellsOf, setAt, zEx]) (veT (zA rfl ?_)))))))))))) ⟨(by omega), ⟨(by omega), (by exact zY (by omega))⟩⟩)
   refine vr 2 ((0 : Int) ≤ (32 : Int)) (vs 52 (D.val (Value.int IntKind.u64 (Int.fdiv (↑(c + List.getD L k 0 + List.getD M k 0) : Int) ((2 : Int) ^ 32)))) (D.val (Value.int IntKind.u64 (↑((c + List.getD L k 0 + List.getD M k 0) / 4294967296) : Int))) (by simp (disch := omega) only [zHl]) (vrT 1 (vnil (zE (zC (zD (zA rfl (vr 2 (i6 (↑k + 1)) (vnil (zC ?_))))))))))
   rotate_left
   simp only [decide_eq_false_iff_not] at hc
   refine zG (zC (zD (zB (zA rfl (vw 5 [49] [] (True ∧ (0 : Int) ≤ (↑k : Int) ∧ (↑k : Int) < ↑(List.length L + 1)) (vo 50 0 k (vr 1 (Bk.fz (Bk.mk (List.map dig cur) 22 1 true false Kd.plain) = false ∧ true = true ∧ 1 = 1 ∧ k + 1 ≤ List.length (List.map dig cur) ∧ ¬0 ∈ []) (vb 0 (Bk.mk (setAt (List.map dig cur) k (cellsOf (dig ((c + List.getD L k 0) % 4294967296)))) (Bk.ty (Bk.mk (List.map dig cur) 22 1 true false Kd.plain)) (Bk.sz (Bk.mk (List.map dig cur) 22 1 true false Kd.plain)) (Bk.arr (Bk.mk (List.map dig cur) 22 1 true false Kd.plain)) (Bk.fz (Bk.mk (List.map dig cur) 22 1 true false Kd.plain)) (Bk.kd (Bk.mk (List.map dig cur) 22 1 true false Kd.plain))) (Bk.mk (List.map dig (List.set cur k ((c + List.getD L k 0) % 4294967296))) 22 1 true false Kd.plain) (by simp (disch := omega) only [cellsOf, setAt, zEx]) (veT (zA rfl (vr 2 ((0 : Int) ≤ (32 : Int)) (vs 52 (D.val (Value.int IntKind.u64 (Int.fdiv (↑(c + List.getD L k 0) : Int) ((2 : Int) ^ 32)))) (D.val (Value.int IntKind.u64 (↑((c + List.getD L k 0) / 4294967296) : Int))) (by simp (disch := omega) only [zHl]) (vrT 1 ?_)))))))))))))
   refine vnil (zE (zC (zD (zA rfl (vr 2 (i6 (↑k + 1)) (vnil (zC ?_)))))))
   rotate_left
   simp only [decide_eq_false_iff_not] at hc
   refine zQ (zH (zH (zP rfl (zC (zD (zB (zA rfl (vr 6 (u3 (↑c : Int) ∧ (0 : Int) ≤ (↑(List.length L) : Int) ∧ (↑(List.length L) : Int) < (↑(List.length L + 1) : Int)) (vo 59 0 (List.length L) (vr 1 (Bk.fz (Bk.mk (List.map dig cur) 22 1 true false Kd.plain) = false ∧ true = true ∧ 1 = 1 ∧ List.length L + 1 ≤ List.length (List.map dig cur) ∧ ¬0 ∈ []) (vb 0 (Bk.mk (setAt (List.map dig cur) (List.length L) (cellsOf (dig c))) (Bk.ty (Bk.mk (List.map dig cur) 22 1 true false Kd.plain)) (Bk.sz (Bk.mk (List.map dig cur) 22 1 true false Kd.plain)) (Bk.arr (Bk.mk (List.map dig cur) 22 1 true false Kd.plain)) (Bk.fz (Bk.mk (List.map dig cur) 22 1 true false Kd.plain)) (Bk.kd (Bk.mk (List.map dig cur) 22 1 true false Kd.plain))) (Bk.mk (List.map dig (List.set cur (List.length L) c)) 22 1 true false Kd.plain) (by simp (disch := omega) only [cellsOf, setAt, zEx]) (veT (zB ?_)))))))))))))
   refine zA rfl (vrT 1 (vcl [D.row (List.take (List.length L + 1) (List.drop 0 (List.map dig (List.set cur (List.length L) c)))) (List.length L + 1)] [D.row (List.map dig (List.take (List.length L + 1) (List.set cur (List.length L) c))) (List.length L + 1)] (LeL.of_eq (by simp (disch := omega) only [List.drop_zero, zGd])) (by exact zFt _ _ (by simp; omega) (by omega) ((h4.set _ _ (by omega) (by omega)).take _)) (veT (zM ?_))))
   refine vre (True) (natD (nval (List.take (List.length L + 1) (List.set cur (List.length L) c)))) (.inr rfl) ?_
   rotate_left
  ·obtain ⟨s1, s2⟩ := zJq (by omega) h2 dL dS h5
   refine ⟨k + 1, (c + L.getD k 0 + M.getD k 0) / 4294967296, cur.set k ((c + L.getD k 0 + M.getD k 0) % 4294967296), ⟨by omega, s1, by simpa using h3, h4.set _ _ (by omega) (by omega), s2⟩, by omega, ?_⟩
   refine vk 1
  ·obtain ⟨s1, s2⟩ := zJq (by omega) h2 dL dS h5
   have e0 : M.getD k 0 = 0 := by rw [List.getD_eq_getElem?_getD, List.getElem?_eq_none (by omega)]; rfl
   rw [e0, Nat.add_zero] at s1 s2
   refine ⟨k + 1, (c + L.getD k 0) / 4294967296, cur.set k ((c + L.getD k 0) % 4294967296), ⟨by omega, s1, by simpa using h3, h4.set _ _ (by omega) (by omega), s2⟩, by omega, ?_⟩
   refine vk 1
  ·have ek : k = L.length := by omega
   subst ek
   have e1 : nval ((cur.set L.length c).take (L.length + 1)) = nval a + nval b := by
    rw [zA0, take_set, zFk _ _ _ _ (by omega), if_pos rfl, h5, List.take_length, List.take_of_length_le (by omega), ev]
   rw [e1]
 all_goals omega
theorem zWy (a : Int) : Pure Tryd.prog 57 [.val (.int .i64 a)] [] (.val (.bool false)) := by
 refine zL zB0 mixed Tryd.func57 rfl ?_
 focus
  refine zB (zA rfl (v0s (veT (zB (zA rfl (veT (zM ?_)))))))
  refine vre (True) (D.val (Value.bool (a != a))) (.inr rfl) (by simp)
abbrev q0_ := D.val (Value.int IntKind.i64 (-1))
abbrev q1_ := D.val (Value.int IntKind.i64 1)
abbrev q2_ := D.val (Value.int IntKind.i64 0)
theorem zTb (a b : Int) : Pure Tryd.prog 38 [.val (.int .i64 a), .val (.int .i64 b)] [] (.val (.int .i64 (cmpD a b))) := by
 refine zL zB0 mixed Tryd.func38 rfl ?_
 focus
  refine zB (zA rfl (v0s (veT (zB (zA rfl (vrT 1 (vca [iD a] (by exact zWy _) (veT (zB (zA rfl (vrT 1 (vca [iD b] (by exact zWy _) (veT ?_)))))))))))))
  refine zB (zB (zA rfl (veT (vf (zG (zC (zD (zB (zB (zA rfl (veT (vf (zG ?_)))))))))))))
  refine zC (zD (zB (zB (zA rfl (veT ?_)))))
  refine zR (t := decide (a < b)) (by kernel_rfl) (fun hc => ?_) (fun hc => ?_)
  simp only [decide_eq_true_eq] at hc
  refine zB (zA rfl (veT (zM (zJ ?_))))
  refine vre (True) (q0_) (.inr rfl) ?_
  rotate_left
  simp only [decide_eq_false_iff_not] at hc
  refine zG (zC (zD (zB (zB (zA rfl (veT ?_))))))
  refine zR (t := decide (a > b)) (by kernel_rfl) (fun hc => ?_) (fun hc => ?_)
  simp only [decide_eq_true_eq] at hc
  refine zB (zA rfl (veT (zM (zJ ?_))))
  refine vre (True) (q1_) (.inr rfl) ?_
  rotate_left
  simp only [decide_eq_false_iff_not] at hc
  refine zG (zC (zD (zB (zA rfl (veT (zM ?_))))))
  refine vre (True) (q2_) (.inr rfl) ?_
  rotate_left
 all_goals (unfold cmpD; (repeat' split) <;> first | rfl | omega)
theorem zLy (a : Int) : Pure Tryd.prog 58 [.val (.int .u32 a)] [] (.val (.bool false)) := by
 refine zL zB0 mixed Tryd.func58 rfl ?_
 focus
  refine zB (zA rfl (v0s (veT (zB (zA rfl (veT (zM ?_)))))))
  refine vre (True) (D.val (Value.bool (a != a))) (.inr rfl) (by simp)
theorem zRi (a b : Int) : Pure Tryd.prog 39 [.val (.int .u32 a), .val (.int .u32 b)] [] (.val (.int .i64 (cmpD a b))) := by
 refine zL zB0 mixed Tryd.func39 rfl ?_
 focus
  refine zB (zA rfl (v0s (veT (zB (zA rfl (vrT 1 (vca [D.val (Value.int IntKind.u32 a)] (by exact zLy _) (veT (zB (zA rfl (vrT 1 (vca [D.val (Value.int IntKind.u32 b)] (by exact zLy _) (veT ?_)))))))))))))
  refine zB (zB (zA rfl (veT (vf (zG (zC (zD (zB (zB (zA rfl (veT (vf (zG ?_)))))))))))))
  refine zC (zD (zB (zB (zA rfl (veT ?_)))))
  refine zR (t := decide (a < b)) (by kernel_rfl) (fun hc => ?_) (fun hc => ?_)
  simp only [decide_eq_true_eq] at hc
  refine zB (zA rfl (veT (zM (zJ ?_))))
  refine vre (True) (q0_) (.inr rfl) ?_
  rotate_left
  simp only [decide_eq_false_iff_not] at hc
  refine zG (zC (zD (zB (zB (zA rfl (veT ?_))))))
  refine zR (t := decide (a > b)) (by kernel_rfl) (fun hc => ?_) (fun hc => ?_)
  simp only [decide_eq_true_eq] at hc
  refine zB (zA rfl (veT (zM (zJ ?_))))
  refine vre (True) (q1_) (.inr rfl) ?_
  rotate_left
  simp only [decide_eq_false_iff_not] at hc
  refine zG (zC (zD (zB (zA rfl (veT (zM ?_))))))
  refine vre (True) (q2_) (.inr rfl) ?_
  rotate_left
 all_goals (unfold cmpD; (repeat' split) <;> first | rfl | omega)
theorem zPp (a : Int) : Pure Tryd.prog 83 [.val (.int .i64 a)] [] (.val (.bool false)) := by
 refine zL zB0 mixed Tryd.func83 rfl ?_
 focus
  refine zB (zA rfl (v0s (veT (zB (zA rfl (veT (zM ?_)))))))
  refine vre (True) (D.val (Value.bool (a != a))) (.inr rfl) (by simp)
theorem zVi (a b : Int) : Pure Tryd.prog 71 [.val (.int .i64 a), .val (.int .i64 b)] [] (.val (.int .i64 (cmpD a b))) := by
 refine zL zB0 mixed Tryd.func71 rfl ?_
 focus
  refine zB (zA rfl (v0s (veT (zB (zA rfl (vrT 1 (vca [iD a] (by exact zPp _) (veT (zB (zA rfl (vrT 1 (vca [iD b] (by exact zPp _) (veT ?_)))))))))))))
  refine zB (zB (zA rfl (veT (vf (zG (zC (zD (zB (zB (zA rfl (veT (vf (zG ?_)))))))))))))
  refine zC (zD (zB (zB (zA rfl (veT ?_)))))
  refine zR (t := decide (a < b)) (by kernel_rfl) (fun hc => ?_) (fun hc => ?_)
  simp only [decide_eq_true_eq] at hc
  refine zB (zA rfl (veT (zM (zJ ?_))))
  refine vre (True) (q0_) (.inr rfl) ?_
  rotate_left
  simp only [decide_eq_false_iff_not] at hc
  refine zG (zC (zD (zB (zB (zA rfl (veT ?_))))))
  refine zR (t := decide (a > b)) (by kernel_rfl) (fun hc => ?_) (fun hc => ?_)
  simp only [decide_eq_true_eq] at hc
  refine zB (zA rfl (veT (zM (zJ ?_))))
  refine vre (True) (q1_) (.inr rfl) ?_
  rotate_left
  simp only [decide_eq_false_iff_not] at hc
  refine zG (zC (zD (zB (zA rfl (veT (zM ?_))))))
  refine vre (True) (q2_) (.inr rfl) ?_
  rotate_left
 all_goals (unfold cmpD; (repeat' split) <;> first | rfl | omega)
set_option maxHeartbeats 2000000 in
theorem mul_c (a b : List Nat) (n m : Nat) (hn : a.length = n) (hm : b.length = m) (hl : n ≤ 1000000) (hl' : m ≤ 1000000) (ha : Digs a) (hb : Digs b) : Pure Tryd.prog 122 [.row (a.map dig) n, .row (b.map dig) m] [] (natD (nval a * nval b)) := by
 subst hn hm
 have la := zL9 ha
 have lb := zL9 hb
 refine zL zB0 mixed Tryd.func122 rfl ?_
 focus
  refine zB (zA rfl (v0s (veT (zB (zA rfl (vrT 1 (vc (zFt a _ rfl (by omega) ha) (vrT 1 (vc (zFt b _ rfl (by omega) hb) (veT (zB (zA rfl (vr 6 (i6 ((↑(List.length (dg (nval a))) : Int) + (↑(List.length (dg (nval b))) : Int)) ∧ (0 : Int) ≤ (↑(List.length (dg (nval a)) + List.length (dg (nval b))) : Int) ∧ (↑(List.length (dg (nval a)) + List.length (dg (nval b))) : Int) ≤ (↑(List.length (dg (nval a)) + List.length (dg (nval b))) : Int) ∧ (↑(4 : Nat) : Int) * (↑(List.length (dg (nval a)) + List.length (dg (nval b))) : Int) ≤ (281474976710656 : Int) ∧ (↑(List.length (dg (nval a)) + List.length (dg (nval b))) : Int) ≤ (281474976710656 : Int) ∧ 0 < 1 ∧ 1 = 1) ?_)))))))))))))
  refine vb 0 (Bk.mk (repL (Int.toNat (↑(List.length (dg (nval a)) + List.length (dg (nval b))) : Int)) [D.val (Value.int IntKind.u32 0)]) 22 1 true false (kdOf false)) (Bk.mk (List.map dig (List.replicate (List.length (dg (nval a)) + List.length (dg (nval b))) 0)) 22 1 true false (kdOf false)) (by simp (disch := omega) only [Int.toNat_natCast, zMq]) (vrT 1 (vs 5 (D.osl 0 0 (Int.toNat (↑(List.length (dg (nval a)) + List.length (dg (nval b))) : Int)) (Int.toNat (↑(List.length (dg (nval a)) + List.length (dg (nval b))) : Int) * 1) true) (D.osl 0 0 (List.length (dg (nval a)) + List.length (dg (nval b))) (List.length (dg (nval a)) + List.length (dg (nval b))) true) (by simp (disch := omega) only [Int.toNat_natCast, Nat.mul_one]) (veT (zB (zB (zA rfl (veT (zF ?_))))))))
  rotate_left
 have ev : nval a * nval b = nval (dg (nval a)) * nval (dg (nval b)) := by rw [zBd, zBd]
 rw [ev]
 have dA : Digs (dg (nval a)) := zBg _
 have dB : Digs (dg (nval b)) := zBg _
 generalize dg (nval a) = A at *
 generalize dg (nval b) = B at *
 refine zAu (fun (i : Nat) (cur : List Nat) => fr 71 [(0, digR A), (1, digR B), (4, nl), (5, D.osl 0 0 (List.length A + List.length B) (List.length A + List.length B) true), (20, iD ↑(List.length A)), (21, iD ↑i)]) (fun i cur => [⟨cur.map dig, 22, 1, true, false, .plain⟩]) (fun i cur => A.length - i) (fun i cur => i ≤ A.length ∧ cur.length = A.length + B.length ∧ Digs cur ∧ (∀ t, i + B.length ≤ t → cur.getD t 0 = 0) ∧ nval cur = nval (A.take i) * nval B) 0 (List.replicate (A.length + B.length) 0) ?_ ?_ ?_
 ·refine ⟨by simp, by simp, Digs.replicate _, fun t _ => ?_, ?_⟩
  ·simp only [List.getD_eq_getElem?_getD, List.getElem?_replicate]; split <;> rfl
  ·rw [zLg]; simp [nval]
 ·refine vk 1
 rintro i cur ⟨h1, h2, h3, h4, h5⟩
 focus
  refine zB (zA rfl (v0s (veT (zB ?_))))
  refine zR (t := decide ((↑i : Int) < ↑(List.length A))) (by kernel_rfl) (fun hc => ?_) (fun hc => ?_)
  simp only [decide_eq_true_eq] at hc
  refine zG (zC (zD (zB (zF (zB (zA rfl (veT (zB (zA rfl (veT (zB (zB (zA rfl ?_)))))))))))))
  refine veT (zF ?_)
  rotate_left
  simp only [decide_eq_false_iff_not] at hc
  refine zQ (zH (zH (zP rfl (zC (zD (zB (zA rfl (vrT 1 (vcl [D.row (List.take (List.length A + List.length B) (List.drop 0 (List.map dig cur))) (List.length A + List.length B)] [D.row (List.map dig (List.take (List.length A + List.length B) cur)) (List.length A + List.length B)] (LeL.of_eq (by simp (disch := omega) only [List.drop_zero, zGd])) (by exact zFt _ _ (by simp; omega) (by omega) (h3.take _)) (veT (zM ?_)))))))))))
  refine vre (True) (natD (nval (List.take (List.length A + List.length B) cur))) (.inr rfl) ?_
  rotate_left
 ·refine zA4 (fun (j : Nat) (c : Nat) (cur' : List Nat) => fr 71 [(0, digR A), (1, digR B), (4, nl), (5, D.osl 0 0 (List.length A + List.length B) (List.length A + List.length B) true), (6, iD (↑i : Int)), (7, D.val (Value.int IntKind.u64 (↑c : Int))), (20, iD (↑(List.length A) : Int)), (21, iD (↑i : Int)), (25, iD (↑(List.length B) : Int)), (26, iD (↑j : Int))]) (fun j c cur' => [⟨cur'.map dig, 22, 1, true, false, .plain⟩]) (fun j c cur' => B.length - j) (fun j c cur' => j ≤ B.length ∧ c < 4294967296 ∧ zQp A B i j c cur') 0 0 cur ?_ ?_ ?_
  ·exact ⟨by simp, by simp, zWz h2 h3 h4 h5⟩
  ·refine vk 1
  rintro j c cur' ⟨k1, k2, k3⟩
  have hx := dA i
  have hy := dB j
  have hz := k3.2.1 (i + j)
  have hw := k3.1
  obtain ⟨b1, b2, b3⟩ := zW0 hx hy k2 hz
  focus
   refine zB (zA rfl (v0s (veT (zB ?_))))
   refine zR (t := decide ((↑j : Int) < ↑(List.length B))) (by kernel_rfl) (fun hc => ?_) (fun hc => ?_)
   simp only [decide_eq_true_eq] at hc
   refine zG (zC (zD (zB (zF (zB (zA rfl (veT (zB (vd [0, 1, 2, 3, 6, 7, 8, 12, 13, 14, 15, 16, 4, 5, 9, 10, 11, 17, 18, 19, 20, 21] (vr 4 (ix ↑i ↑(List.length A) (List.map dig A ≠ [])) (vp 32 i (List.map dig A) (vr 3 (ix ↑j ↑(List.length B) (List.map dig B ≠ [])) (vp 37 j (List.map dig B) ?_) ⟨(by omega), ⟨(by omega), (by exact zY (by omega))⟩⟩)) ⟨(by omega), ⟨(by omega), (by exact zY (by omega))⟩⟩))))))))))
   refine vr 5 (i6 ((↑i : Int) + (↑j : Int)) ∧ (0 : Int) ≤ (↑(i + j) : Int) ∧ (↑(i + j) : Int) < (↑(List.length A + List.length B) : Int)) (vo 45 0 (i + j) (vr 1 (0 < List.length (List.drop i (List.map dig A))) (vs 33 (List.headD (List.drop i (List.map dig A)) Uk) (dig (List.getD A i 0)) (by simp (disch := omega) only [zA7]) (vr 2 (u6 (↑(List.getD A i 0) : Int) ∧ 0 < List.length (List.drop j (List.map dig B))) (vs 38 (List.headD (List.drop j (List.map dig B)) Uk) (dig (List.getD B j 0)) (by simp (disch := omega) only [zA7]) (vr 3 (u6 (↑(List.getD B j 0) : Int) ∧ u6 ((↑(List.getD A i 0) : Int) * (↑(List.getD B j 0) : Int)) ∧ 0 < List.length (List.drop (i + j) (List.map dig cur'))) (vs 46 (List.headD (List.drop (i + j) (List.map dig cur')) Uk) (dig (List.getD cur' (i + j) 0)) (by simp (disch := omega) only [zA7]) (ve (u6 (↑(List.getD cur' (i + j) 0) : Int) ∧ u6 ((↑(List.getD A i 0 * List.getD B j 0) : Int) + (↑(List.getD cur' (i + j) 0) : Int)) ∧ u6 ((↑c : Int) + (↑(List.getD A i 0 * List.getD B j 0 + List.getD cur' (i + j) 0) : Int))) (zB (zA rfl (vw 7 [55] [] (i6 ((↑i : Int) + (↑j : Int)) ∧ True ∧ (0 : Int) ≤ (↑(i + j) : Int) ∧ (↑(i + j) : Int) < (↑(List.length A + List.length B) : Int)) (vo 56 0 (i + j) (vr 1 (Bk.fz (Bk.mk (List.map dig cur') 22 1 true false Kd.plain) = false ∧ true = true ∧ 1 = 1 ∧ i + j + 1 ≤ List.length (List.map dig cur') ∧ ¬0 ∈ []) ?_)))))))))))))
   refine vb 0 (Bk.mk (setAt (List.map dig cur') (i + j) (cellsOf (dig ((c + (List.getD A i 0 * List.getD B j 0 + List.getD cur' (i + j) 0)) % 4294967296)))) (Bk.ty (Bk.mk (List.map dig cur') 22 1 true false Kd.plain)) (Bk.sz (Bk.mk (List.map dig cur') 22 1 true false Kd.plain)) (Bk.arr (Bk.mk (List.map dig cur') 22 1 true false Kd.plain)) (Bk.fz (Bk.mk (List.map dig cur') 22 1 true false Kd.plain)) (Bk.kd (Bk.mk (List.map dig cur') 22 1 true false Kd.plain))) (Bk.mk (List.map dig (List.set cur' (i + j) ((c + (List.getD A i 0 * List.getD B j 0 + List.getD cur' (i + j) 0)) % 4294967296))) 22 1 true false Kd.plain) (by simp (disch := omega) only [cellsOf, setAt, zEx]) (veT (zA rfl (vr 2 ((0 : Int) ≤ (32 : Int)) (vs 58 (D.val (Value.int IntKind.u64 (Int.fdiv (↑(c + (List.getD A i 0 * List.getD B j 0 + List.getD cur' (i + j) 0)) : Int) ((2 : Int) ^ 32)))) (D.val (Value.int IntKind.u64 (↑((c + (List.getD A i 0 * List.getD B j 0 + List.getD cur' (i + j) 0)) / 4294967296) : Int))) (by simp (disch := omega) only [zHl]) (vrT 1 (vnil (zE (zC (zD (zA rfl (vr 2 (i6 (↑j + 1)) (vnil (zC ?_)))))))))))))
   rotate_left
   simp only [decide_eq_false_iff_not] at hc
   refine zQ (zH (zH (zP rfl (zC (zD (zA rfl (vr 8 (i6 ((↑i : Int) + (↑(List.length B) : Int)) ∧ u3 (↑c : Int) ∧ (0 : Int) ≤ (↑(i + List.length B) : Int) ∧ (↑(i + List.length B) : Int) < (↑(List.length A + List.length B) : Int)) (vo 67 0 (i + List.length B) (vr 1 (Bk.fz (Bk.mk (List.map dig cur') 22 1 true false Kd.plain) = false ∧ true = true ∧ 1 = 1 ∧ i + List.length B + 1 ≤ List.length (List.map dig cur') ∧ ¬0 ∈ []) (vb 0 (Bk.mk (setAt (List.map dig cur') (i + List.length B) (cellsOf (dig c))) (Bk.ty (Bk.mk (List.map dig cur') 22 1 true false Kd.plain)) (Bk.sz (Bk.mk (List.map dig cur') 22 1 true false Kd.plain)) (Bk.arr (Bk.mk (List.map dig cur') 22 1 true false Kd.plain)) (Bk.fz (Bk.mk (List.map dig cur') 22 1 true false Kd.plain)) (Bk.kd (Bk.mk (List.map dig cur') 22 1 true false Kd.plain))) (Bk.mk (List.map dig (List.set cur' (i + List.length B) c)) 22 1 true false Kd.plain) (by simp (disch := omega) only [cellsOf, setAt, zEx]) (vnil (zE (zC ?_)))))))))))))
   refine zD (zA rfl (vr 2 (i6 (↑i + 1)) (vnil (zC ?_))))
   rotate_left
  ·refine ⟨j + 1, (c + (A.getD i 0 * B.getD j 0 + cur'.getD (i + j) 0)) / 4294967296, cur'.set (i + j) ((c + (A.getD i 0 * B.getD j 0 + cur'.getD (i + j) 0)) % 4294967296), ⟨by omega, b3, zZu (by omega) (by omega) k3⟩, by omega, ?_⟩
   refine vk 1
  ·have ej : j = B.length := by omega
   subst ej
   obtain ⟨m1, m2, m3, m4⟩ := mul_end (by omega) k2 k3
   refine ⟨i + 1, cur'.set (i + B.length) c, ⟨by omega, m1, m2, m3, m4⟩, by omega, ?_⟩
   refine vk 1
 ·have ei : i = A.length := by omega
  rw [List.take_of_length_le (by omega), h5, ei, List.take_length]
theorem cmp_c (a b : List Nat) (n m : Nat) (hn : a.length = n) (hm : b.length = m) (hl : n ≤ 1000000) (hl' : m ≤ 1000000) (ha : Digs a) (hb : Digs b) : Pure Tryd.prog 16 [.row (a.map dig) n, .row (b.map dig) m] [] (.val (.int .i64 (cmpD (nval a) (nval b)))) := by
 subst hn hm
 have la := zL9 ha
 have lb := zL9 hb
 refine zL zB0 mixed Tryd.func16 rfl ?_
 focus
  refine zB (zA rfl (v0s (veT (zB (zA rfl (vrT 1 (vc (zFt a _ rfl (by omega) ha) (vrT 1 (vc (zFt b _ rfl (by omega) hb) (veT (zB (zB (zA rfl ?_)))))))))))))
  refine veT ?_
  refine zR (t := (↑(List.length (dg (nval a))) : Int) != (↑(List.length (dg (nval b))) : Int)) (by kernel_rfl) (fun hc => ?_) (fun hc => ?_)
  simp only [bne_iff_ne] at hc
  refine zB (zA rfl (vrT 4 (vca [iD (↑(List.length (dg (nval a))) : Int), iD (↑(List.length (dg (nval b))) : Int)] (by exact zTb _ _) (veT (zM (zJ ?_))))))
  refine vre (True) (D.val (Value.int IntKind.i64 (cmpD (↑(List.length (dg (nval a))) : Int) (↑(List.length (dg (nval b))) : Int)))) (.inr rfl) ?_
  rotate_left
  simp only [bne_eq_false_iff_eq] at hc
  refine zG (zC (zD (zB (zB (zA rfl (ve (i6 ((↑(List.length (dg (nval a))) : Int) - (1 : Int))) (zF ?_)))))))
  rotate_left
 ·congr 2
  have n1 := zPl (nval a)
  have n2 := zPl (nval b)
  have e1 := zBd (nval a)
  have e2 := zBd (nval b)
  refine zXy (fun h => ?_) (fun h => ?_) (fun h => by omega)
  ·have := Normal.lt_of_length (zBg (nval a)) n2 h; omega
  ·have := Normal.lt_of_length (zBg (nval b)) n1 h; omega
 ·have ev : cmpD (nval a) (nval b) = cmpD (nval (dg (nval a))) (nval (dg (nval b))) := by rw [zBd, zBd]
  rw [ev]
  have dA : Digs (dg (nval a)) := zBg _
  have dB : Digs (dg (nval b)) := zBg _
  generalize dg (nval a) = A at *
  generalize dg (nval b) = B at *
  refine zW (fun (n : Nat) => fr 45 [(0, digR A), (1, digR B), (5, iD (↑n - 1))]) (fun _ => []) (fun n => n) (fun n => n ≤ A.length ∧ A.drop n = B.drop n) A.length ?_ ?_ ?_
  ·exact ⟨Nat.le_refl _, by rw [List.drop_length, List.drop_of_length_le (by omega)]⟩
  ·refine vk 0
  rintro n ⟨h1, h2⟩
  focus
   refine zB (zB (zA rfl (v0s (veT ?_))))
   refine zR (t := decide ((↑n : Int) - (1 : Int) ≥ (0 : Int))) (by kernel_rfl) (fun hc => ?_) (fun hc => ?_)
   simp only [decide_eq_true_eq] at hc
   refine zG (zC (zD (zB (zF (zB (vd [0, 1, 2, 4, 5, 6, 3, 7, 8] (vrT 2 (vs 28 (iD (↑n - 1)) (iD ↑(n - 1)) (by simp (disch := omega) only [zDb]) (vr 1 (ix ↑(n - 1) ↑(List.length A) (List.map dig A ≠ [])) (vp 29 (n - 1) (List.map dig A) (vrT 2 (vs 32 (iD (↑n - 1)) (iD ↑(n - 1)) (by simp (disch := omega) only [zDb]) (vr 1 (ix ↑(n - 1) ↑(List.length B) (List.map dig B ≠ [])) ?_ ⟨(by omega), ⟨(by omega), (by exact zY (by omega))⟩⟩)))) ⟨(by omega), ⟨(by omega), (by exact zY (by omega))⟩⟩)))))))))
   refine vp 33 (n - 1) (List.map dig B) (vr 1 (0 < List.length (List.drop (n - 1) (List.map dig A))) (vs 30 (List.headD (List.drop (n - 1) (List.map dig A)) Uk) (dig (List.getD A (n - 1) 0)) (by simp (disch := omega) only [zA7]) (vr 1 (0 < List.length (List.drop (n - 1) (List.map dig B))) (vs 34 (List.headD (List.drop (n - 1) (List.map dig B)) Uk) (dig (List.getD B (n - 1) 0)) (by simp (disch := omega) only [zA7]) (veT ?_)))))
   refine zR (t := (↑(List.getD A (n - 1) 0) : Int) != (↑(List.getD B (n - 1) 0) : Int)) (by kernel_rfl) (fun hc => ?_) (fun hc => ?_)
   simp only [bne_iff_ne] at hc
   refine zB (vd [0, 1, 2, 4, 5, 6, 3, 7, 8, 9] (vrT 2 (vs 37 (iD (↑n - 1)) (iD ↑(n - 1)) (by simp (disch := omega) only [zDb]) (vr 1 (ix ↑(n - 1) ↑(List.length A) (List.map dig A ≠ [])) (vp 38 (n - 1) (List.map dig A) (vrT 2 (vs 41 (iD (↑n - 1)) (iD ↑(n - 1)) (by simp (disch := omega) only [zDb]) (vr 1 (ix ↑(n - 1) ↑(List.length B) (List.map dig B ≠ [])) (vp 42 (n - 1) (List.map dig B) (vr 1 (0 < List.length (List.drop (n - 1) (List.map dig A))) (vs 39 (List.headD (List.drop (n - 1) (List.map dig A)) Uk) (dig (List.getD A (n - 1) 0)) (by simp (disch := omega) only [zA7]) (vr 1 (0 < List.length (List.drop (n - 1) (List.map dig B))) (vs 43 (List.headD (List.drop (n - 1) (List.map dig B)) Uk) (dig (List.getD B (n - 1) 0)) (by simp (disch := omega) only [zA7]) ?_))))) ⟨(by omega), ⟨(by omega), (by exact zY (by omega))⟩⟩)))) ⟨(by omega), ⟨(by omega), (by exact zY (by omega))⟩⟩))))
   refine vca [dig (List.getD A (n - 1) 0), dig (List.getD B (n - 1) 0)] (by exact zRi _ _) (veT (zM (zN (zJ (zJ (zN (zJ ?_)))))))
   refine vre (True) (D.val (Value.int IntKind.i64 (cmpD (↑(List.getD A (n - 1) 0) : Int) (↑(List.getD B (n - 1) 0) : Int)))) (.inr rfl) ?_
   rotate_left
   simp only [bne_eq_false_iff_eq] at hc
   refine zG (zE (zC (zD (zA rfl (vrT 1 (vs 25 (iD (↑n - 1)) (iD ↑(n - 1)) (by simp (disch := omega) only [zDb]) (vr 2 (i6 (↑(n - 1) - 1)) (vnil (zC ?_)))))))))
   rotate_left
   simp only [decide_eq_false_iff_not] at hc
   refine zQ (zH (zH (zP rfl (zC (zD (zB (zA rfl (veT (zM ?_)))))))))
   refine vre (True) (q2_) (.inr rfl) ?_
   rotate_left
  ·have h3 : A.drop (n - 1 + 1) = B.drop (n - 1 + 1) := by rw [show n - 1 + 1 = n by omega]; exact h2
   congr 2
   refine zXy (fun h => ?_) (fun h => ?_) (fun h => by omega)
   ·exact zEr dA (by omega) (by omega) h3 h
   ·exact zEr dB (by omega) (by omega) h3.symm h
  ·refine ⟨n - 1, ⟨by omega, ?_⟩, by omega, ?_⟩
   ·rw [zK0 A (n - 1) (by omega), zK0 B (n - 1) (by omega), show n - 1 + 1 = n by omega, h2]
    congr 1; omega
   ·refine vk 0
  ·have e0 : n = 0 := by omega
   subst e0
   rw [List.drop_zero, List.drop_zero] at h2
   simp [h2, cmpD]
end
section
open Go.RowKit
attribute [local irreducible] seqW awp zAf zAo zAg Weak updS zAw retL Pure Acts rP setP setQ cP nP fr
set_option maxRecDepth 4096
theorem zLl : (ByteArray.mk #[]).toList = [] := by rw [ByteArray.toList_eq]
theorem zNv (l : List UInt8) : (l == []) = l.isEmpty := by cases l <;> rfl
theorem zYy (v : Va) : Pure Tryd.prog 59 [vaD v] [] (bD (vok v)) := by
 refine zL zB0 mixed Tryd.func59 rfl ?_
 focus
  refine zB (zA rfl (v0s (veT (zB (zB (zA rfl (ve (True ∧ 0 < 3) (zF (zB (zA rfl (veT ?_)))))))))))
  refine zR (t := Va.kind v == (1 : Int)) (by kernel_rfl) (fun hc => ?_) (fun hc => ?_)
  simp only [beq_iff_eq] at hc
  refine zB (zA rfl (vr 3 (True ∧ 0 < 1 ∧ True) (vs 9 (bD (ByteArray.toList (bs (Va.str v)) == ByteArray.toList (ByteArray.mk #[]))) (bD (Va.str v == [])) (by simp (disch := omega) only [zFa, zLl]) (veT (zM (zN (zJ ?_)))))))
  refine vre (True) (D.val (Value.bool (Va.str v == []))) (.inr rfl) ?_
  rotate_left
  simp only [beq_eq_false_iff_ne] at hc
  refine zB (zA rfl (veT ?_))
  refine zR (t := Va.kind v == (2 : Int)) (by kernel_rfl) (fun hc => ?_) (fun hc => ?_)
  simp only [beq_iff_eq] at hc
  refine zB (zA rfl (vr 4 (True ∧ 0 < 2 ∧ True) ?_))
  refine vsp 15 (Va.int v == (0 : Int)) (fun hc => ?_) (fun hc => ?_)
  simp only [beq_iff_eq] at hc
  refine ve (True ∧ 0 < 1) (zM (zN (zJ ?_)))
  refine vre (True) (D.val (Value.bool (decide ((↑(List.length (Va.str v)) : Int) ≤ (24 : Int))))) (.inr rfl) ?_
  rotate_left
  simp only [beq_eq_false_iff_ne] at hc
  refine veT (zM (zN (zJ ?_)))
  refine vre (True) (D.val (Value.bool false)) (.inr rfl) ?_
  rotate_left
  simp only [beq_eq_false_iff_ne] at hc
  refine zG (zE (zC (zD (zB (zA rfl (veT (zM ?_)))))))
  refine vre (True) (D.val (Value.bool false)) (.inr rfl) ?_
  rotate_left
 ·congr 2
  rw [zNv]
  simp [vok, *]
 ·congr 2
  have h : ¬ v.kind = 1 := by assumption
  simp [vok, *]
  omega
 ·congr 2
  have h : ¬ v.kind = 1 := by assumption
  simp [vok, *]
 ·congr 2
  simp [vok, *]
theorem zTm (a b : Va) : Pure Tryd.prog 67 [vaD a, vaD b] [] (iD (vcmp a b)) := by
 refine zL zB0 mixed Tryd.func67 rfl ?_
 focus
  refine zB (zA rfl (v0s (veT (zB (zB (zA rfl (ve (True ∧ 0 < 3 ∧ True ∧ 0 < 3 ∧ True) ?_)))))))
  refine zR (t := Va.kind a != Va.kind b) (by kernel_rfl) (fun hc => ?_) (fun hc => ?_)
  simp only [bne_iff_ne] at hc
  refine zB (zA rfl (vr 4 (True ∧ 0 < 3 ∧ True ∧ 0 < 3) (vca [iD (Va.kind a), iD (Va.kind b)] (by exact zTb _ _) (veT (zM (zJ ?_))))))
  refine vre (True) (D.val (Value.int IntKind.i64 (cmpD (Va.kind a) (Va.kind b)))) (.inr rfl) ?_
  rotate_left
  simp only [bne_eq_false_iff_eq] at hc
  refine zG (zC (zD (zB (zB (zA rfl (ve (True ∧ 0 < 2 ∧ True ∧ 0 < 2 ∧ True) ?_))))))
  refine zR (t := Va.int a != Va.int b) (by kernel_rfl) (fun hc => ?_) (fun hc => ?_)
  simp only [bne_iff_ne] at hc
  refine zB (zA rfl (vr 4 (True ∧ 0 < 2 ∧ True ∧ 0 < 2) (vca [iD (Va.int a), iD (Va.int b)] (by exact zVi _ _) (veT (zM (zJ ?_))))))
  refine vre (True) (D.val (Value.int IntKind.i64 (cmpD (Va.int a) (Va.int b)))) (.inr rfl) ?_
  rotate_left
  simp only [bne_eq_false_iff_eq] at hc
  refine zG (zC (zD (zB (zA rfl (vr 4 (True ∧ 0 < 1 ∧ True ∧ 0 < 1) (vca [D.val (Value.string (bs (Va.str a))), D.val (Value.string (bs (Va.str b)))] (by exact scmp_c _ _) (veT (zM ?_))))))))
  refine vre (True) (D.val (Value.int IntKind.i64 (Lib.compareBytes (Va.str a) (Va.str b)))) (.inr rfl) ?_
  rotate_left
 all_goals simp [vcmp, *]
theorem zB2 (r : List Va) (i : Nat) (h : i < r.length) : 3 ≤ (List.drop (i * 3) (zK r)).length := by
 rw [List.length_drop, zB8]; omega
theorem zNm {α : Type} (p : α → Bool) (d : α) (l : List α) (i : Nat) (h : i < l.length) : (l.take (i + 1)).all p = ((l.take i).all p && p (l.getD i d)) := by
 rw [List.take_succ_eq_append_getElem h, List.all_append, List.getD_eq_getElem?_getD, List.getElem?_eq_getElem h]; simp
theorem zTh {α : Type} (p : α → Bool) (d : α) (l : List α) (i : Nat) (h : i < l.length) (hp : p (l.getD i d) = false) : l.all p = false := by
 rw [Bool.eq_false_iff]
 intro ha
 rw [List.all_eq_true] at ha
 have := ha _ (List.getElem_mem h)
 rw [List.getD_eq_getElem?_getD, List.getElem?_eq_getElem h] at hp
 simp only [Option.getD_some] at hp
 rw [this] at hp; cases hp
abbrev q3_ (x0 : List Va) := D.row (zK x0) (List.length x0)
set_option maxHeartbeats 1000000 in
theorem zY6 (r : List Va) (n : Nat) (hn : r.length = n) (hl : n ≤ 1000000000) : Pure Tryd.prog 40 [.row (zK r) n] [] (bD (r.all vok)) := by
 subst hn
 refine zL zB0 mixed Tryd.func40 rfl ?_
 focus
  refine zB (zA rfl (v0s (veT (zB (zB (zA rfl (veT (zF ?_))))))))
  rotate_left
 refine zW (fun (i : Nat) => fr 16 [(0, (q3_ r)), (5, iD ↑(List.length r)), (6, iD ↑i)]) (fun _ => []) (fun i => r.length - i) (fun i => i ≤ r.length ∧ (r.take i).all vok = true) 0 ?_ ?_ ?_
 ·exact ⟨by omega, by simp⟩
 ·refine vk 0
 rintro i ⟨h1, h2⟩
 focus
  refine zB (zA rfl (v0s (veT (zB ?_))))
  refine zR (t := decide ((↑i : Int) < ↑(List.length r))) (by kernel_rfl) (fun hc => ?_) (fun hc => ?_)
  simp only [decide_eq_true_eq] at hc
  refine zG (zC (zD (zB (zF (zB (zA rfl (veT (zB (zA rfl (vr 4 (ix ↑i ↑(List.length r) (zK r ≠ []) ∧ 3 ≤ List.length (List.drop (i * 3) (zK r))) (vs 12 (D.agg (List.take 3 (List.drop (i * 3) (zK r)))) (D.agg (vaC (List.getD r i default))) (by simp (disch := omega) only [zA9]) (vca [D.agg [iD (Va.kind (List.getD r i default)), iD (Va.int (List.getD r i default)), D.val (Value.string (bs (Va.str (List.getD r i default))))]] (by exact zYy _) (veT ?_))) ⟨⟨(by omega), ⟨(by omega), (by exact zDd _ (by omega))⟩⟩, (by exact zB2 _ _ (by omega))⟩))))))))))
  refine zR (t := !vok (List.getD r i default)) (by kernel_rfl) (fun hc => ?_) (fun hc => ?_)
  simp only [Bool.not_eq_true'] at hc
  refine zB (zA rfl (veT (zM (zN (zJ (zJ (zN (zJ ?_))))))))
  refine vre (True) (D.val (Value.bool false)) (.inr rfl) ?_
  rotate_left
  simp only [Bool.not_eq_false'] at hc
  refine zG (zE (zC (zD (zA rfl (vr 2 (i6 (↑i + 1)) (vnil (zC ?_)))))))
  rotate_left
  simp only [decide_eq_false_iff_not] at hc
  refine zQ (zH (zH (zP rfl (zC (zD (zB (zA rfl (veT (zM ?_)))))))))
  refine vre (True) (D.val (Value.bool true)) (.inr rfl) ?_
  rotate_left
 ·congr 2
  symm
  exact zTh vok default r i (by omega) (by assumption)
 ·refine ⟨i + 1, ⟨by omega, ?_⟩, by omega, ?_⟩
  ·rw [zNm vok default r i (by omega), h2]; simpa using hc
  ·refine vk 0
 ·congr 2
  have e : i = r.length := by omega
  rw [e, List.take_length] at h2
  exact h2.symm
def zJ8 : List Va → List Va → List Bool → Int
 | [], [], _ => 0
 | [], _ :: _, _ => -1
 | _ :: _, [], _ => 1
 | a :: r, b :: s, ds => if vcmp a b = 0 then zJ8 r s ds.tail else if ds.headD false then - vcmp a b else vcmp a b
theorem zJ7 : ∀ (a b : List Va), zJ8 a b [] = rcmp a b
 | [], [] => rfl
 | [], _ :: _ => rfl
 | _ :: _, [] => rfl
 | a :: r, b :: s => by simp only [zJ8, rcmp, List.tail_nil, List.headD_nil, Bool.false_eq_true, if_false]; rw [zJ7 r s]
theorem zG6 : ∀ (i : Nat) (a b : List Va) (ds : List Bool), i ≤ a.length → i ≤ b.length → a.take i = b.take i → zJ8 a b ds = zJ8 (a.drop i) (b.drop i) (ds.drop i)
 | 0, _, _, _, _, _, _ => rfl
 | i + 1, [], b, _, h, _, _ => by simp at h
 | i + 1, _ :: _, [], _, _, h, _ => by simp at h
 | i + 1, x :: a, y :: b, ds, h1, h2, h3 => by
  simp only [List.take_succ_cons, List.cons.injEq] at h3
  obtain ⟨rfl, h3⟩ := h3
  rw [zJ8, if_pos ((zCh x x).2.1.2 rfl), zG6 i a b ds.tail (by simpa using h1) (by simpa using h2) h3]
  cases ds <;> simp
theorem zMt (i : Nat) (a b : List Va) (ds : List Bool) (ha : i < a.length) (hb : i < b.length) (h : a.take i = b.take i) (hv : vcmp (a.getD i default) (b.getD i default) ≠ 0) : zJ8 a b ds = if ds.getD i false then - vcmp (a.getD i default) (b.getD i default) else vcmp (a.getD i default) (b.getD i default) := by
 rw [zG6 i a b ds (by omega) (by omega) h, List.drop_eq_getElem_cons ha, List.drop_eq_getElem_cons hb]
 simp only [List.getD_eq_getElem?_getD, List.getElem?_eq_getElem ha, List.getElem?_eq_getElem hb, Option.getD_some] at hv ⊢
 rw [zJ8, if_neg hv, List.headD_eq_head?_getD, List.head?_drop]
abbrev bl (b : Bool) : D := bD b
theorem zZ6 (l : List Bool) (k : Nat) (h : k < l.length) : ((l.map bD).drop k).headD .unk = bD (l.getD k false) := zC7 bD l false k h
theorem zSa (a b : List Va) (i : Nat) (ds : List Bool) (ha : i ≤ a.length) (hb : i ≤ b.length) (h : a.take i = b.take i) (he : i = a.length ∨ i = b.length) : zJ8 a b ds = if a.length < b.length then -1 else if a.length > b.length then 1 else 0 := by
 rw [zG6 i a b ds ha hb h]
 rcases he with rfl | rfl
 ·rw [List.drop_length]
  cases hc : b.drop a.length with
  | nil =>
   have := congrArg List.length hc
   simp at this
   rw [if_neg (by omega), if_neg (by omega)]; rfl
  | cons x r =>
   have := congrArg List.length hc
   simp at this
   rw [if_pos (by omega)]; rfl
 ·rw [List.drop_length]
  cases hc : a.drop b.length with
  | nil =>
   have := congrArg List.length hc
   simp at this
   rw [if_neg (by omega), if_neg (by omega)]; rfl
  | cons x r =>
   have := congrArg List.length hc
   simp at this
   rw [if_neg (by omega), if_pos (by omega)]; rfl
set_option maxHeartbeats 2000000 in
theorem zN9 (a b : List Va) (ds : List Bool) (n m k : Nat) (hn : a.length = n) (hm : b.length = m) (hk : ds.length = k) (ln : n ≤ 1000000000) (lm : m ≤ 1000000000) (lk : k ≤ 1000000000) : Pure Tryd.prog 60 [.row (zK a) n, .row (zK b) m, .row (ds.map bD) k] [] (iD (zJ8 a b ds)) := by
 subst hn hm hk
 refine zL zB0 mixed Tryd.func60 rfl ?_
 focus
  refine zB (zA rfl (v0s (veT (zB (zB (zA rfl (veT (zF ?_))))))))
  rotate_left
 refine zW (fun (i : Nat) => fr 54 [(0, (q3_ a)), (1, (q3_ b)), (2, D.row (List.map bD ds) (List.length ds)), (13, iD (if (↑(List.length b) : Int) < (↑(List.length a) : Int) then (↑(List.length b) : Int) else (↑(List.length a) : Int))), (14, iD ↑i)]) (fun _ => []) (fun i => a.length - i) (fun i => i ≤ a.length ∧ i ≤ b.length ∧ a.take i = b.take i) 0 ?_ ?_ ?_
 ·exact ⟨by omega, by omega, by simp⟩
 ·refine vk 0
 rintro i ⟨h1, h2, h3⟩
 have hv := (zCh (a.getD i default) (b.getD i default)).1
 focus
  refine zB (zA rfl (v0s (veT (zB ?_))))
  refine zR (t := decide ((↑i : Int) < if (↑(List.length b) : Int) < (↑(List.length a) : Int) then (↑(List.length b) : Int) else (↑(List.length a) : Int))) (by kernel_rfl) (fun hc => ?_) (fun hc => ?_)
  simp only [decide_eq_true_eq] at hc
  refine zG (zC (zD (zB (zF (zB (zA rfl (veT (zB (vd [0, 1, 2, 4, 5, 6, 3, 7, 8, 9] (vr 7 (ix ↑i ↑(List.length a) (zK a ≠ []) ∧ ix ↑i ↑(List.length b) (zK b ≠ []) ∧ 3 ≤ List.length (List.drop (i * 3) (zK a))) (vs 20 (D.agg (List.take 3 (List.drop (i * 3) (zK a)))) (D.agg (vaC (List.getD a i default))) (by simp (disch := omega) only [zA9]) (vr 1 (3 ≤ List.length (List.drop (i * 3) (zK b))) (vs 24 (D.agg (List.take 3 (List.drop (i * 3) (zK b)))) (D.agg (vaC (List.getD b i default))) (by simp (disch := omega) only [zA9]) ?_) (by exact zB2 _ _ (by omega)))) ⟨⟨(by omega), ⟨(by omega), (by exact zDd _ (by omega))⟩⟩, ⟨(by omega), ⟨(by omega), (by exact zDd _ (by omega))⟩⟩, (by exact zB2 _ _ (by omega))⟩))))))))))
  refine vca [D.agg [iD (Va.kind (List.getD a i default)), iD (Va.int (List.getD a i default)), D.val (Value.string (bs (Va.str (List.getD a i default))))], D.agg [iD (Va.kind (List.getD b i default)), iD (Va.int (List.getD b i default)), D.val (Value.string (bs (Va.str (List.getD b i default))))]] (by exact zTm _ _) (veT (zB (zB (zA rfl (veT ?_)))))
  refine zR (t := vcmp (List.getD a i default) (List.getD b i default) == (0 : Int)) (by kernel_rfl) (fun hc => ?_) (fun hc => ?_)
  simp only [beq_iff_eq] at hc
  refine zQ (zH (zP rfl (zC (zD (zA rfl (vr 2 (i6 (↑i + 1)) (vnil (zC ?_))))))))
  rotate_left
  simp only [beq_eq_false_iff_ne] at hc
  refine zG (zC (zD (zB (zB (zA rfl (vrT 5 ?_))))))
  refine vsp 32 (decide ((↑i : Int) < ↑(List.length ds))) (fun hc => ?_) (fun hc => ?_)
  simp only [decide_eq_true_eq] at hc
  refine vr 3 (ix ↑i ↑(List.length ds) (List.map bD ds ≠ [])) (vp 35 i (List.map bD ds) (vr 1 (0 < List.length (List.drop i (List.map bD ds))) (vs 36 (List.headD (List.drop i (List.map bD ds)) Uk) (bD (List.getD ds i false)) (by simp (disch := omega) only [zZ6]) (veT ?_)))) ⟨(by omega), ⟨(by omega), (by exact zY (by omega))⟩⟩
  refine zR (t := List.getD ds i false) (by kernel_rfl) (fun hc => ?_) (fun hc => ?_)
  refine zB (zA rfl (ve (i6 ((0 : Int) - vcmp (List.getD a i default) (List.getD b i default))) (zM (zJ (zN (zJ (zJ (zN (zJ ?_)))))))))
  refine vre (True) (D.val (Value.int IntKind.i64 ((0 : Int) - vcmp (List.getD a i default) (List.getD b i default)))) (.inr rfl) ?_
  rotate_left
  refine zG (zC (zD (zB (zA rfl (veT (zM (zN (zJ (zJ (zN (zJ ?_)))))))))))
  refine vre (True) (D.val (Value.int IntKind.i64 (vcmp (List.getD a i default) (List.getD b i default)))) (.inr rfl) ?_
  rotate_left
  simp only [decide_eq_false_iff_not] at hc
  refine veT (vf (zG (zC (zD (zB (zA rfl (veT (zM (zN (zJ (zJ (zN (zJ ?_)))))))))))))
  refine vre (True) (D.val (Value.int IntKind.i64 (vcmp (List.getD a i default) (List.getD b i default)))) (.inr rfl) ?_
  rotate_left
  simp only [decide_eq_false_iff_not] at hc
  refine zQ (zH (zH (zP rfl (zC (zD (zB (zF (zB (zA rfl (veT ?_))))))))))
  refine zR (t := decide ((↑(List.length a) : Int) < (↑(List.length b) : Int))) (by kernel_rfl) (fun hc => ?_) (fun hc => ?_)
  simp only [decide_eq_true_eq] at hc
  refine zB (zA rfl (veT (zM (zN (zJ ?_)))))
  refine vre (True) (q0_) (.inr rfl) ?_
  rotate_left
  simp only [decide_eq_false_iff_not] at hc
  refine zB (zA rfl (veT ?_))
  refine zR (t := decide ((↑(List.length a) : Int) > (↑(List.length b) : Int))) (by kernel_rfl) (fun hc => ?_) (fun hc => ?_)
  simp only [decide_eq_true_eq] at hc
  refine zB (zA rfl (veT (zM (zN (zJ ?_)))))
  refine vre (True) (q1_) (.inr rfl) ?_
  rotate_left
  simp only [decide_eq_false_iff_not] at hc
  refine zG (zE (zC (zD (zB (zA rfl (veT (zM ?_)))))))
  refine vre (True) (q2_) (.inr rfl) ?_
  rotate_left
 ·refine ⟨i + 1, ⟨by omega, by omega, ?_⟩, by omega, ?_⟩
  ·exact zHx i a b (by omega) (by omega) h3 (by omega)
  ·refine vk 0
 ·rw [zMt i a b ds (by omega) (by omega) h3 (by assumption), if_pos (by assumption), Int.zero_sub]
 ·rw [zMt i a b ds (by omega) (by omega) h3 (by assumption), if_neg (by rw [show ds.getD i false = false by assumption]; decide)]
 ·rw [zMt i a b ds (by omega) (by omega) h3 (by assumption), if_neg]
  rw [List.getD_eq_getElem?_getD, List.getElem?_eq_none (by omega)]; simp
 all_goals
  have he : i = a.length ∨ i = b.length := by
   have hc' : ¬ ((i : Int) < if (b.length : Int) < a.length then (b.length : Int) else a.length) := by omega
   split at hc' <;> omega
  rw [zSa a b i ds (by omega) (by omega) h3 he]
 ·rw [if_pos (by omega)]
 ·rw [if_neg (by omega), if_pos (by omega)]
 ·rw [if_neg (by omega), if_neg (by omega)]
theorem zLt (a b : List Va) (n m : Nat) (hn : a.length = n) (hm : b.length = m) (ln : n ≤ 1000000000) (lm : m ≤ 1000000000) : Pure Tryd.prog 41 [.row (zK a) n, .row (zK b) m] [] (iD (rcmp a b)) := by
 refine zL zB0 mixed Tryd.func41 rfl ?_
 focus
  refine zB (zA rfl (v0s (veT (zB (zA rfl (vrT 2 (vcl [D.row (zK a) n, D.row (zK b) m, nl] [D.row (zK a) n, D.row (zK b) m, D.row [] 0] (LeL.trans (LeL.refl _) (LeL.cons (LeD.refl _) (LeL.cons (LeD.refl _) (LeL.cons LeD.nil_row LeL.nil)))) (by exact zN9 a b [] _ _ 0 hn hm rfl ln lm (by omega)) (veT (zM ?_)))))))))
  refine vre (True) (D.val (Value.int IntKind.i64 (zJ8 a b []))) (.inr rfl) ?_
  rotate_left
 rw [zJ7]
abbrev vaB (l : List Va) : Bk := ⟨zK l, 69, 3, true, false, .plain⟩
theorem repL_va (n : Nat) : repL n [.val (.int .i64 0), .val (.int .i64 0), .val (.string ⟨#[]⟩)] = zK (List.replicate n ⟨0, 0, []⟩) := by
 induction n with
 | zero => rfl
 | succ n ih => simp only [repL, List.replicate_succ, List.flatten_cons] at ih ⊢; rw [ih]; rfl
def zAc (r : List Va) (cols : List Nat) : List Va := cols.map fun c => r.getD c default
theorem set3_va (r : List Va) (i : Nat) (v : Va) (h : i < r.length) : (((zK r).set (i * 3) (iD v.kind)).set (i * 3 + 1) (iD v.int)).set (i * 3 + 1 + 1) (strD v.str) = zK (r.set i v) := zVl r i v h
theorem zGe (r : List Va) (n : Nat) (h : r.length = n) : (zK r).take (n * 3) = zK r := List.take_of_length_le (by rw [zB8]; omega)
theorem zL1 : kdOf false = .plain := rfl
theorem zR5 {α : Type} {a b : List α} {i : Nat} (d : α) (ha : i < a.length) (hb : i < b.length) (h : a.take i = b.take i) : (a.set i (b.getD i d)).take (i + 1) = b.take (i + 1) := by
 rw [List.take_succ_eq_append_getElem (by simpa using ha), List.take_succ_eq_append_getElem hb, List.take_set_of_le (Nat.le_refl _), h, List.getElem_set_self, List.getD_eq_getElem?_getD, List.getElem?_eq_getElem hb]; rfl
theorem zTz (r : List Va) (cols : List Nat) (i : Nat) (h : i < cols.length) : (zAc r cols).getD i default = r.getD (cols.getD i 0) default := by
 simp only [zAc, List.getD_eq_getElem?_getD, List.getElem?_map, List.getElem?_eq_getElem h, Option.map_some, Option.getD_some]
set_option maxHeartbeats 2000000 in
theorem zLq (r : List Va) (cols : List Nat) (n m : Nat) (hn : r.length = n) (hm : cols.length = m) (ln : n ≤ 1000000000) (lm : m ≤ 100000) (hc : ∀ c ∈ cols, c < r.length) : Pure Tryd.prog 62 [.row (zK r) n, .row (cols.map fun c => iD (c : Nat)) m] [] (.tup [.row (zK (zAc r cols)) m, iD 0]) := by
 subst hn hm
 have hci : ∀ i, i < cols.length → cols.getD i 0 < r.length := fun i h => by
  rw [List.getD_eq_getElem?_getD, List.getElem?_eq_getElem h]; exact hc _ (List.getElem_mem h)
 have hd : ∀ i, i < cols.length → ((cols.map fun c => iD ((c : Nat) : Int)).drop i).headD .unk = iD (cols.getD i 0 : Nat) := fun i h => zC7 (fun c : Nat => iD (c : Int)) cols 0 i h
 refine zL zB0 mixed Tryd.func62 rfl ?_
 focus
  refine zB (zA rfl (v0s (veT (zB (zB (zA rfl (veT (zF ?_))))))))
  rotate_left
 refine zW (fun (i : Nat) => fr 49 [(0, (q3_ r)), (1, D.row (List.map (fun (c : Nat) => iD ↑c) cols) (List.length cols)), (10, iD ↑(List.length cols)), (11, iD ↑i)]) (fun _ => []) (fun i => cols.length - i) (fun i => i ≤ cols.length) 0 ?_ ?_ ?_
 ·omega
 ·refine vk 0
 rintro i h1
 have hi := hci i
 focus
  refine zB (zA rfl (v0s (veT (zB ?_))))
  refine zR (t := decide ((↑i : Int) < ↑(List.length cols))) (by kernel_rfl) (fun hc => ?_) (fun hc => ?_)
  simp only [decide_eq_true_eq] at hc
  refine zG (zC (zD (zB (zF (zB (zA rfl (veT (zB (zA rfl (vr 3 (ix ↑i ↑(List.length cols) (List.map (fun (c : Nat) => iD ↑c) cols ≠ [])) (vp 16 i (List.map (fun (c : Nat) => iD ↑c) cols) (vr 1 (0 < List.length (List.drop i (List.map (fun (c : Nat) => iD ↑c) cols))) (vs 17 (List.headD (List.drop i (List.map (fun (c : Nat) => iD ↑c) cols)) Uk) (iD ↑(List.getD cols i 0)) (by simp (disch := omega) only [hd]) ?_))) ⟨(by omega), ⟨(by omega), (by exact zY (by omega))⟩⟩))))))))))
  refine vw 5 [] [(5, false)] (decide ((↑(List.getD cols i 0) : Int) < 0) = false ∧ ix ↑i ↑(List.length cols) (List.map (fun (c : Nat) => iD ↑c) cols ≠ [])) (vp 22 i (List.map (fun (c : Nat) => iD ↑c) cols) (vr 1 (0 < List.length (List.drop i (List.map (fun (c : Nat) => iD ↑c) cols))) (vs 23 (List.headD (List.drop i (List.map (fun (c : Nat) => iD ↑c) cols)) Uk) (iD ↑(List.getD cols i 0)) (by simp (disch := omega) only [hd]) (veT (vF ((↑(List.getD cols i 0) : Int) ≥ (↑(List.length r) : Int)) (zG (zE (zC (zD (zA rfl (vr 2 (i6 (↑i + 1)) (vnil (zC ?_))))))))))))) ⟨(by kernel_rfl), ⟨(by omega), ⟨(by omega), (by exact zY (by omega))⟩⟩⟩
  rotate_left
  simp only [decide_eq_false_iff_not] at hc
  refine zQ (zH (zH (zP rfl (zC (zD (zB (zA rfl (ve ((0 : Int) ≤ (↑(List.length cols) : Int) ∧ (↑(List.length cols) : Int) ≤ (↑(List.length cols) : Int) ∧ (↑(32 : Nat) : Int) * (↑(List.length cols) : Int) ≤ (281474976710656 : Int) ∧ (↑(List.length cols) : Int) ≤ (281474976710656 : Int) ∧ 0 < 3 ∧ 3 = 3) (zB (zB (zA rfl (veT (zF ?_)))))))))))))
  rotate_left
 ·refine ⟨i + 1, by omega, by omega, ?_⟩
  refine vk 0
 refine zAu (fun (i : Nat) (cur : List Va) => fr 49 [(0, (q3_ r)), (1, D.row (List.map (fun (c : Nat) => iD ↑c) cols) (List.length cols)), (7, D.osl 0 0 (List.length cols) (List.length cols * 3) true), (33, iD ↑(List.length cols)), (34, iD ↑i)]) (fun i cur => [vaB cur]) (fun i cur => cols.length - i) (fun i cur => i ≤ cols.length ∧ cur.length = cols.length ∧ cur.take i = (zAc r cols).take i) 0 (List.replicate cols.length (Va.mk 0 0 [])) ?_ ?_ ?_
 ·exact ⟨by omega, by simp, by simp⟩
 ·refine wkn (fr 49 [(0, D.row (zK r) (List.length r)), (1, D.row (List.map (fun (c : Nat) => iD (↑c : Int)) cols) (List.length cols)), (7, D.osl 0 0 (List.length cols) (List.length cols * 3) true), (33, iD (↑(List.length cols) : Int)), (34, iD 0)]) [Bk.mk (repL (List.length cols) [iD 0, iD 0, D.val (Value.string (ByteArray.mk #[]))]) 69 3 true false (kdOf false)] (zJi [(0, 1), (1, 1), (7, 1), (33, 1), (34, 1)] (D.row (zK r) (List.length r) = D.row (zK r) (List.length r) ∧ D.row (List.map (fun (c : Nat) => iD (↑c : Int)) cols) (List.length cols) = D.row (List.map (fun (c : Nat) => iD (↑c : Int)) cols) (List.length cols) ∧ D.osl 0 0 (List.length cols) (List.length cols * 3) true = D.osl 0 0 (List.length cols) (List.length cols * 3) true ∧ iD (↑(List.length cols) : Int) = iD (↑(List.length cols) : Int) ∧ iD 0 = iD (↑(0 : Nat) : Int)) 1 [] (by kernel_rfl) ⟨rfl, rfl, rfl, rfl, (by kernel_rfl)⟩ (by kernel_rfl) (fun _ _ => rfl) (by simp [updB, repL_va, zL1]))
 rintro j cur ⟨k1, k2, k3⟩
 have hj := hci j
 focus
  refine zB (zA rfl (v0s (veT (zB ?_))))
  refine zR (t := decide ((↑j : Int) < ↑(List.length cols))) (by kernel_rfl) (fun hc => ?_) (fun hc => ?_)
  simp only [decide_eq_true_eq] at hc
  refine zG (zC (zD (zB (zF (zB (zA rfl (veT (zA rfl (vr 6 (ix ↑j ↑(List.length cols) (List.map (fun (c : Nat) => iD ↑c) cols ≠ [])) (vp 42 j (List.map (fun (c : Nat) => iD ↑c) cols) (vr 1 (0 < List.length (List.drop j (List.map (fun (c : Nat) => iD ↑c) cols))) (vs 43 (List.headD (List.drop j (List.map (fun (c : Nat) => iD ↑c) cols)) Uk) (iD ↑(List.getD cols j 0)) (by simp (disch := omega) only [hd]) (vr 2 (ix ↑(List.getD cols j 0) ↑(List.length r) (zK r ≠ []) ∧ 3 ≤ List.length (List.drop (List.getD cols j 0 * 3) (zK r))) ?_ ⟨⟨(by omega), ⟨(by omega), (by exact zDd _ (by omega))⟩⟩, (by exact zB2 _ _ (by omega))⟩)))) ⟨(by omega), ⟨(by omega), (by exact zY (by omega))⟩⟩)))))))))
  refine vs 45 (D.agg (List.take 3 (List.drop (List.getD cols j 0 * 3) (zK r)))) (D.agg (vaC (List.getD r (List.getD cols j 0) default))) (by simp (disch := omega) only [zA9]) (vr 1 ((0 : Int) ≤ (↑j : Int) ∧ (↑j : Int) < ↑(List.length cols)) (vo0 46 0 (j * 3) (vr 1 (Bk.fz (vaB cur) = false ∧ true = true ∧ 3 = 3 ∧ j * 3 + 3 ≤ List.length (Bk.cells (vaB cur)) ∧ ¬0 ∈ []) (vb 0 (Bk.mk (setAt (Bk.cells (vaB cur)) (j * 3) [iD (Va.kind (List.getD r (List.getD cols j 0) default)), iD (Va.int (List.getD r (List.getD cols j 0) default)), D.val (Value.string (bs (Va.str (List.getD r (List.getD cols j 0) default))))]) (Bk.ty (vaB cur)) (Bk.sz (vaB cur)) (Bk.arr (vaB cur)) (Bk.fz (vaB cur)) (Bk.kd (vaB cur))) (Bk.mk (zK (List.set cur j (List.getD r (List.getD cols j 0) default))) (69 : TypeId) 3 true false Kd.plain) (by simp (disch := omega) only [setAt, set3_va]) (vnil (zE (zC (zD (zA rfl (vr 2 (i6 (↑j + 1)) (vnil (zC ?_))))))))) ⟨(by kernel_rfl), ⟨(by kernel_rfl), ⟨(by kernel_rfl), ⟨(by (simp [zB8]; omega)), (by decide)⟩⟩⟩⟩)))
  rotate_left
  simp only [decide_eq_false_iff_not] at hc
  refine zQ (zH (zH (zP rfl (zC (zD (zB (zA rfl (veT (zM ?_)))))))))
  refine zBm (True) (D.tup [D.row (List.take (List.length cols * 3) (List.drop 0 (Bk.cells (vaB cur)))) (List.length cols), iD 0]) (D.tup [D.row (List.take (List.length cols * 3) (zK cur)) (List.length cols), D.val (Value.int IntKind.i64 0)]) (.inr rfl) (by kernel_rfl) trivial (by simp (disch := omega) only [List.drop_zero]) ?_
  rotate_left
 ·refine ⟨j + 1, cur.set j (r.getD (cols.getD j 0) default), ⟨by omega, by simpa using k2, ?_⟩, by omega, ?_⟩
  ·rw [← zTz r cols j (by omega)]
   exact zR5 default (by omega) (by simp [zAc]; omega) k3
  ·refine vk 1
 ·have ej : j = cols.length := by omega
  rw [zGe _ _ k2]
  rw [ej, ← k2, List.take_length, List.take_of_length_le (by simp [zAc, k2])] at k3
  rw [k3]
end
end Go.Proofs.YtmfamhoopjeaiaaDoor

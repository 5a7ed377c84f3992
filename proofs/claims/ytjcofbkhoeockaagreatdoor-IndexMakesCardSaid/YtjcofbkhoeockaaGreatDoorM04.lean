/- Texts of this claim, joined: Ab28 Oq Dp End Rd Re Str Ac DapP VaP Fr Dap -/
import Derived.Test.YtjcofbkhoeockaaGreatDoorM03
import Derived.ProofKit
import Derived.Carry
import Derived.ChangeSame
import Derived.Test.YtjcofbkhoeockaaGreatDoorProg
import Derived.BigQuiet
import Derived.Lib.SliceRun
import Derived.Lib.AppendZeros
import Derived.Laws.Append
import Derived.Lib.Bytealg
import Derived.Lib.Strings
import Derived.Deep.QuietTactic
import Derived.Test.YtjcofbkhoeockaaGreatDoorShelf
import Derived.Lib.RowBridge
import Derived.BigCall
import Derived.Lib.ItoaLen
import Derived.Lib.Walk
import Derived.WalkKit
import Derived.Lib.ItoaWalk
import Derived.Lib.LaidTab
import Derived.Lib.Hide
set_option linter.unusedVariables false
set_option linter.unusedSimpArgs false
namespace Go.Proofs.YtjcofbkhoeockaaGreatDoor
section
open Go.RowKit
theorem lb {a b : Nat} (h : Nat.ble a b = true) : a ≤ b := Nat.le_of_ble_eq_true h
abbrev nl : D := .val (.slice none 0 0)
section
variable {P : Program} {T : Par}
theorem LeD.trans {a b c : D} (h : LeD a b) (k : LeD b c) : LeD a c := fun I w β v hv => k I w β v (h I w β v hv)
theorem LeL.trans {a b c : List D} (h : LeL a b) : LeL b c → LeL a c := by
 induction h generalizing c with
 | nil => exact fun h => h
 | cons h1 _ ih =>
  intro k
  cases k with
  | cons k1 k2 => exact .cons (h1.trans k1) (ih k2)
theorem LeL.set (sl : List D) (i : Nat) : LeL sl (sl.set i .unk) := by
 induction sl generalizing i with
 | nil => exact .nil
 | cons d ds ih =>
  cases i with
  | zero => exact .cons (.unk _) (.refl _)
  | succ i => exact .cons (.refl _) (ih i)
theorem LeL.dead (dead : List Nat) : ∀ sl : List D, LeL sl (zB0 sl dead) := by
 induction dead with
 | nil => exact fun sl => .refl sl
 | cons i r ih => exact fun sl => (LeL.set sl i).trans (ih _)
theorem Pure.frozen {f : FuncId} {args : List D} {b : Bk} {n m : Nat} {wh : Bool} {cs : List D} (h : Pure P f args [b] (.osl 0 0 n m wh)) (hb : b.arr = true) (hc : b.cells.take m = cs) : Pure P f args [] (.row cs n) := by
 intro I w vs hr hi hg
 refine (h I w vs hr hi hg).mono ?_
 rintro e w' ⟨v, I', γ, he, h1, h2, h3, h4, h5, h6, h7, h8, h9, h10, h11⟩
 have hs : Sim γ I' w' [.osl 0 0 n m wh] [b] [v] := ⟨by simp only [RelT]; exact ⟨v, [], rfl, h10, rfl⟩, h6, h7, h8, h9, h2, hg.mono h3⟩
 have hkd : b.kd = .plain := (h11 b (by simp)).2
 have hf : frz true [b] zA8 (.osl 0 0 n m wh) = some (.row cs n, [0]) := by simp [frz, zA8, hb, hc, hkd, Bk.nob, Kd.isMap, Kd.isSh]
 have h12 := zCj hs.sr.weak _ _ _ _ _ hf h10
 refine ⟨v, fixI I' γ [b] [0], noB, he, h1, zEq hs.sr.weak h2 [0], h3.trans (zAt [0]), fun x o hx => ?_, fun k b c h => (by cases h), fun k b c h => (by cases h), fun k k' b c c' h => (by cases h), fun k b c j e h => (by cases h), fun k y h => (by cases h), h12, by simp⟩
 rcases hx with hx | ⟨k, _, c, e, hk, _⟩
 ·exact h4 x o hx
 ·exact .inr (h5 k x c hk)
theorem Pure.le {f : FuncId} {args args' : List D} {news : List Bk} {x : D} (h : Pure P f args' news x) (ha : LeL args args') : Pure P f args news x := fun I w vs hr hi => h I w vs (ha.rel hr) hi
theorem Acts.le {f : FuncId} {args args' : List D} {st st' : List Bk} {x : D} {ch : List Nat} (h : Acts P f args' st ch x st') (ha : LeL args args') : Acts P f args st ch x st' := fun β I w vs hr => h β I w vs (ha.rel hr)
section
variable {ops : Array Oper} {dr : Bool} {l : List Oper} {sl : List D} {st : List Bk} {K : List D → List Bk → Prop}
theorem zRq (n : Nat) (raws : List Nat) (gs : List (Nat × Bool)) (C : Prop) (ch : List (Nat × D)) (st' : List Bk) (h : (runL P T ops raws (l.take n) gs sl st).map (fun x => (Alls x.1, x.2.1, x.2.2)) = some (C, updS sl ch, st')) (hc : C) (k : seqW P T ops dr (l.drop n) (updS sl ch) st' K) : seqW P T ops dr l sl st K := by
 rw [Option.map_eq_some_iff] at h
 obtain ⟨⟨c, s1, s2⟩, h1, h2⟩ := h
 simp only [Prod.mk.injEq] at h2
 obtain ⟨rfl, rfl, rfl⟩ := h2
 have := zCi (P := P) (T := T) (dr := dr) (K := K) (l.take n) (l.drop n) gs sl st c _ _ h1 hc k
 rwa [List.take_append_drop] at this
theorem zRr {b : Code} {Q Q' : Exit → List D → List Bk → Prop} (raws : List Nat) (gs : List (Nat × Bool)) (dead : List Nat) (C : Prop) (ch : List (Nat × D)) (st' : List Bk) (h : (runL P T ops raws l gs sl st).map (fun x => (Alls x.1, zB0 x.2.1 dead, x.2.2)) = some (C, updS (zB0 sl dead) ch, st')) (hc : C) (k : awp P T b Q (updS (zB0 sl dead) ch) st') : seqW P T ops dr l sl st (zA3 (zCo P T b Q) Q' .normal) := by
 rw [Option.map_eq_some_iff] at h
 obtain ⟨⟨c, s1, s2⟩, h1, h2⟩ := h
 simp only [Prod.mk.injEq] at h2
 obtain ⟨rfl, e, rfl⟩ := h2
 have := zCi (P := P) (T := T) (dr := dr) (K := zA3 (zCo P T b Q) Q' .normal) l [] gs sl st c s1 s2 h1 hc ?_
 ·rwa [List.append_nil] at this
 ·exact ⟨_, _, Weak.slots (LeL.dead dead s1), e ▸ k⟩
theorem zF (n : Nat) (raws : List Nat) (gs : List (Nat × Bool)) (C : Prop) (ch : List (Nat × D)) (h : (runL P T ops raws (l.take n) gs sl st).map (fun x => (Alls x.1, x.2.1, x.2.2)) = some (C, updS sl ch, st)) (hc : C) (k : seqW P T ops dr (l.drop n) (updS sl ch) st K) : seqW P T ops dr l sl st K := zRq n raws gs C ch st h hc k
theorem zQ {b : Code} {Q Q' : Exit → List D → List Bk → Prop} (raws : List Nat) (gs : List (Nat × Bool)) (dead : List Nat) (C : Prop) (ch : List (Nat × D)) (h : (runL P T ops raws l gs sl st).map (fun x => (Alls x.1, zB0 x.2.1 dead, x.2.2)) = some (C, updS (zB0 sl dead) ch, st)) (hc : C) (k : awp P T b Q (updS (zB0 sl dead) ch) st) : seqW P T ops dr l sl st (zA3 (zCo P T b Q) Q' .normal) := zRr raws gs dead C ch st h hc k
theorem zY (i : Nat) (d0 d : D) (h : sl.getD i .unk = d0) (hd : d0 = d) (hu : zHw d || zC2 d || (match d with | .tup _ => true | _ => false) = true) (k : seqW P T ops dr l (sl.set i d) st K) : seqW P T ops dr l sl st K := by
 subst hd
 rwa [zFn h (by intro e; subst e; simp [zHw, zC2] at hu)] at k
theorem zBn (i : Nat) (b0 b : Bk) (h : st[i]? = some b0) (hd : b0 = b) (k : seqW P T ops dr l sl (st.set i b) K) : seqW P T ops dr l sl st K := by
 subst hd
 rwa [show st.set i b0 = st from by
  apply List.ext_getElem?
  intro j
  rw [List.getElem?_set]
  split
  ·rename_i e
   subst e
   rw [h]
   split
   ·rfl
   ·rename_i hx; rw [List.getElem?_eq_none (by omega)] at h; cases h
  ·rfl] at k
def hdst (l : List Oper) : Option Nat := (l.head?).bind (·.dst)
def zN0 (P : Program) (T : Par) (ops : Array Oper) (l : List Oper) (gs : List (Nat × Bool)) (sl : List D) (st : List Bk) : Option (List Prop × FuncId × List D × List Bk) := match l with
 | [] => none
 | o :: _ => match gdec ops o gs sl with
  | .go cs _ sl => match aeff P T o.op o.type (evD sl) st with
   | .call f args fz => if zAf T o.op then none else some (cs, f, args, zAr st fz)
   | _ => none
  | _ => none
theorem zVz {gs : List (Nat × Bool)} {cs : List Prop} {f : FuncId} {args : List D} {st' : List Bk} (h : zN0 P T ops l gs sl st = some (cs, f, args, st')) (hc : Alls cs) : ∃ o r fz, l = o :: r ∧ zAf T o.op = false ∧ aeff P T o.op o.type (evD sl) st = .call f args fz ∧ st' = zAr st fz ∧ ∀ {K : List D → List Bk → Prop}, goW P T ops dr o r sl st K → seqW P T ops dr (o :: r) sl st K := by
 unfold zN0 at h
 split at h
 ·cases h
 ·rename_i o r
  split at h
  ·rename_i c1 g1 s1 hg
   split at h
   ·rename_i f1 a1 fz he
    split at h
    ·cases h
    ·rename_i hl
     simp only [Option.some.injEq, Prod.mk.injEq] at h
     obtain ⟨rfl, rfl, rfl, rfl⟩ := h
     obtain ⟨rfl, g2⟩ := zEp (P := P) (T := T) hg hc
     exact ⟨o, r, fz, rfl, by simpa using hl, he, rfl, fun k => g2 k⟩
   ·cases h
  ·cases h
theorem zKp (gs : List (Nat × Bool)) (cs : List Prop) {f : FuncId} (args : List D) (st' : List Bk) {x : D} (args' : List D) (h : zN0 P T ops l gs sl st = some (cs, f, args, st')) (hc : Alls cs) (ha : LeL args args') (hp : Pure P f args' [] x) (k : seqW P T ops dr l.tail (putD sl (hdst l) x) st' K) : seqW P T ops dr l sl st K := by
 obtain ⟨o, r, fz, rfl, hl, he, rfl, g⟩ := zVz (dr := dr) h hc
 exact g (zSv he hl (hp.le ha) rfl rfl k)
theorem st_callr {f : FuncId} (args : List D) {x : D} (h : zN0 P T ops l [] sl st = some ([], f, args, st)) (hp : Pure P f args [] x) (k : seqW P T ops dr l.tail (putD sl (hdst l) x) st K) : seqW P T ops dr l sl st K := zKp [] [] args st args h trivial (LeL.refl _) hp k
theorem zG {b : Code} {Q Q' : Exit → List D → List Bk → Prop} (dead : List Nat) (ch : List (Nat × D)) (k : awp P T b Q (updS (zB0 sl dead) ch) st) (h : (runL P T ops [] l [] sl st).map (fun x => (Alls x.1, zB0 x.2.1 dead, x.2.2)) = some (True, updS (zB0 sl dead) ch, st) := by kernel_rfl) : seqW P T ops dr l sl st (zA3 (zCo P T b Q) Q' .normal) := zRr [] [] dead True ch st h trivial k
theorem zAi (n : Nat) (ch : List (Nat × D)) (k : seqW P T ops dr (l.drop n) (updS sl ch) st K) (h : (runL P T ops [] (l.take n) [] sl st).map (fun x => (Alls x.1, x.2.1, x.2.2)) = some (True, updS sl ch, st) := by kernel_rfl) : seqW P T ops dr l sl st K := zRq n [] [] True ch st h trivial k
theorem zX {f : FuncId} (args : List D) {x : D} (hp : Pure P f args [] x) (k : seqW P T ops dr l.tail (putD sl (hdst l) x) st K) (h : zN0 P T ops l [] sl st = some ([], f, args, st) := by kernel_rfl) : seqW P T ops dr l sl st K := zKp [] [] args st args h trivial (LeL.refl _) hp k
theorem zAz {f : FuncId} (args : List D) {x : D} (args' : List D) (h : zN0 P T ops l [] sl st = some ([], f, args, st)) (ha : LeL args args') (hp : Pure P f args' [] x) (k : seqW P T ops dr l.tail (putD sl (hdst l) x) st K) : seqW P T ops dr l sl st K := zKp [] [] args st args' h trivial ha hp k
def actL (P : Program) (T : Par) (ops : Array Oper) (dr : Bool) (l : List Oper) (gs : List (Nat × Bool)) (sl : List D) (st : List Bk) : Option (List Prop × FuncId × List D) := match l with
 | [] => none
 | o :: _ => match gdec ops o gs sl with
  | .go cs _ sl => match aeff P T o.op o.type (evD sl) st with
   | .act f args => if !zAf T o.op && (!dr || isE T o.op) then some (cs, f, args) else none
   | _ => none
  | _ => none
theorem zLq (gs : List (Nat × Bool)) (cs : List Prop) {f : FuncId} (args : List D) {x : D} {st' : List Bk} (args' : List D) (h : actL P T ops dr l gs sl st = some (cs, f, args)) (hc : Alls cs) (ha : LeL args args') (hp : Acts P f args' st [] x st') (k : seqW P T ops dr l.tail (putD sl (hdst l) x) st' K) : seqW P T ops dr l sl st K := by
 unfold actL at h
 split at h
 ·cases h
 ·rename_i o r
  split at h
  ·rename_i c1 g1 s1 hg
   split at h
   ·rename_i f1 a1 he
    split at h
    ·rename_i hl
     simp only [Option.some.injEq, Prod.mk.injEq] at h
     obtain ⟨rfl, rfl, rfl⟩ := h
     obtain ⟨rfl, g2⟩ := zEp (P := P) (T := T) hg hc
     simp only [Bool.and_eq_true, Bool.not_eq_true', Bool.or_eq_true] at hl
     exact g2 (zWm he hl.1 hl.2 (hp.le ha) rfl k)
    ·cases h
   ·cases h
  ·cases h
theorem zAb (k : K sl st) (e : l = []) : seqW P T ops dr l sl st K := by subst e; exact k
def zWj (ops : Array Oper) (l : List Oper) (sl : List D) : Option (Nat × Bool) := match l with
 | [] => none
 | o :: _ => match o.guard with
  | none => none
  | some (j, _) => match (ops[j]?).bind (·.dst) with
   | none => none
   | some t => match sl.getD t .unk with
    | .val (.bool b) => some (t, b)
    | _ => none
theorem zKo (t : Nat) (b : Bool) (h : zWj ops l sl = some (t, b)) (k1 : b = true → seqW P T ops dr l (sl.set t (.val (.bool true))) st K) (k2 : b = false → seqW P T ops dr l (sl.set t (.val (.bool false))) st K) : seqW P T ops dr l sl st K := by
 unfold zWj at h
 (repeat' split at h) <;> try cases h
 rename_i hb
 cases b with
 | true => rw [← zFn hb (by simp)]; exact k1 rfl
 | false => rw [← zFn hb (by simp)]; exact k2 rfl
theorem zDk {K' : List D → List Bk → Prop} (hK : ∀ sl st, K sl st → K' sl st) : ∀ (l : List Oper) (sl : List D) (st : List Bk), seqW P T ops dr l sl st K → seqW P T ops dr l sl st K'
 | [], sl, st, h => hK _ _ h
 | o :: r, sl, st, h => by
  have ih := zDk hK r
  have go : goW P T ops dr o r sl st K → goW P T ops dr o r sl st K' := by
   unfold goW
   split
   ·exact fun h => h
   ·exact fun h => ⟨h.1, h.2.1, ih _ _ h.2.2⟩
   ·exact fun h => ⟨h.1, h.2.1, ih _ _ h.2.2⟩
   ·exact fun h => ⟨h.1, h.2.1, ih _ _ h.2.2⟩
   ·rintro ⟨h1, n, x, h2, h3⟩; exact ⟨h1, n, x, h2, ih _ _ h3⟩
   ·exact fun h => ⟨h.1, h.2.1, ih _ _ h.2.2⟩
   ·exact fun h => ⟨h.1, h.2.1, ih _ _ h.2.2⟩
   ·rintro ⟨h1, h4, c, x, s, h2, h3⟩; exact ⟨h1, h4, c, x, s, h2, ih _ _ h3⟩
  cases hg : o.guard with
  | none =>
   simp only [seqW, hg] at h
   exact zKs hg (go h)
  | some jw =>
   obtain ⟨j, want⟩ := jw
   simp only [seqW, hg] at h ⊢
   split at h
   ·exact ⟨fun e => go (h.1 e), fun e => ih _ _ (h.2 e)⟩
   ·exact ih _ _ h
   ·exact h.elim
end
theorem zLs {ops : Array Oper} {K K' : List D → List Bk → Prop} (hK : ∀ sl st, K sl st → K' sl st) : ∀ (its : List zC1) (sl : List D) (st : List Bk), seqI P T ops its sl st K → seqI P T ops its sl st K'
 | [], sl, st, h => hK _ _ h
 | (e, c, l) :: r, sl, st, h => ⟨h.1, zDk (fun sl st h2 => ⟨h2.1, zDk (fun sl st h3 => zLs hK r sl st h3) _ _ _ h2.2⟩) _ _ _ h.2⟩
theorem zG1 : ∀ (c : Code) {Q Q' : Exit → List D → List Bk → Prop} (hQ : ∀ e sl st, Q e sl st → Q' e sl st) (sl : List D) (st : List Bk), awp P T c Q sl st → awp P T c Q' sl st := by
 intro c
 induction c with
 | skip => intro Q Q' hQ sl st h; exact hQ _ _ _ h
 | region id ops dr =>
  intro Q Q' hQ sl st h
  simp only [awp] at h ⊢
  split
  ·rename_i hd
   rw [if_pos hd] at h
   rcases h with ⟨o, h1, h2⟩ | ⟨l0, its, h1, h2⟩
   ·exact .inl ⟨o, h1, zDk (hQ .normal) _ _ _ h2⟩
   ·exact .inr ⟨l0, its, h1, zDk (fun sl st h3 => zLs (hQ .normal) _ _ _ h3) _ _ _ h2⟩
  ·rename_i hd
   rw [if_neg hd] at h
   exact zDk (hQ .normal) _ _ _ h
 | seq x y ihx ihy =>
  intro Q Q' hQ sl st h
  simp only [awp] at h ⊢
  refine ihx (fun e sl st hk => ?_) sl st h
  cases e <;> simp only [zA3] at hk ⊢ <;> first | exact hQ _ _ _ hk | skip
  obtain ⟨a, b, c, d⟩ := hk
  exact ⟨a, b, c, ihy hQ _ _ d⟩
 | cond c x y ihx ihy =>
  intro Q Q' hQ sl st h
  simp only [awp] at h ⊢
  split at h
  ·exact ⟨fun e => ihx hQ _ _ (h.1 e), fun e => ihy hQ _ _ (h.2 e)⟩
  ·exact h.elim
 | block id b ih =>
  intro Q Q' hQ sl st h
  simp only [awp] at h ⊢
  refine ih (fun e sl st hk => ?_) sl st h
  cases e <;> simp only [zBd] at hk ⊢ <;> first | exact hQ _ _ _ hk | skip
  split at hk
  ·rename_i e; rw [if_pos e]; exact hQ _ _ _ hk
  ·rename_i e; rw [if_neg e]; exact hQ _ _ _ hk
 | loop b ih =>
  intro Q Q' hQ sl st h
  simp only [awp] at h ⊢
  intro X hX
  refine h X fun Y sl st hY hb => hX Y sl st hY (ih (fun e sl st hk => ?_) sl st hb)
  cases e <;> simp only [zA3] at hk ⊢ <;> first | exact hQ _ _ _ hk | exact hk
 | exit id => intro Q Q' hQ sl st h; exact hQ _ _ _ h
 | label l => intro Q Q' hQ sl st h; exact hQ _ _ _ h
 | ret => intro Q Q' hQ sl st h; exact hQ _ _ _ h
 | _ => intro Q Q' hQ sl st h; exact h.elim
variable {Q : Exit → List D → List Bk → Prop} {sl : List D} {st : List Bk}
theorem zCk {c : Operand} {x y : Code} {t : Bool} (hc : evD sl c = .val (.bool t)) (ht : t = true) (h : awp P T x Q sl st) : awp P T (.cond c x y) Q sl st :=
 zAm hc (fun _ => h) (fun e => by rw [ht] at e; cases e)
theorem zBc {c : Operand} {x y : Code} {t : Bool} (hc : evD sl c = .val (.bool t)) (ht : t = false) (h : awp P T y Q sl st) : awp P T (.cond c x y) Q sl st :=
 zAm hc (fun e => by rw [ht] at e; cases e) (fun _ => h)
theorem zAa {c : Operand} {x y : Code} (h : awp P T x Q sl st) (hc : evD sl c = .val (.bool true) := by kernel_rfl) : awp P T (.cond c x y) Q sl st := zCk hc rfl h
theorem zS {c : Operand} {x y : Code} (h : awp P T y Q sl st) (hc : evD sl c = .val (.bool false) := by kernel_rfl) : awp P T (.cond c x y) Q sl st := zBc hc rfl h
def resL (P : Program) (sl : List D) (st : List Bk) : List ResultVar → Option (List Prop × List D)
 | [] => some ([], [])
 | .tmp t :: rs => (resL P sl st rs).map fun x => (x.1, sl.getD t .unk :: x.2)
 | r :: rs => match zGk P sl st r with
  | .get p d => (resL P sl st rs).map fun x => (p :: x.1, d :: x.2)
  | _ => none
theorem zKw : ∀ {rs : List ResultVar} {cs : List Prop} {ds : List D} {K : List D → Prop}, resL P sl st rs = some (cs, ds) → Alls cs → K ds → retL P sl st rs K
 | [], cs, ds, K, h, hc, k => by
  simp only [resL, Option.some.injEq, Prod.mk.injEq] at h
  obtain ⟨_, rfl⟩ := h
  exact k
 | r :: rs, cs, ds, K, h, hc, k => by
  have key : ∀ p d, zGk P sl st r = .get p d → (∃ c1 d1, resL P sl st rs = some (c1, d1) ∧ (p ∧ Alls c1) ∧ ds = d :: d1) → retL P sl st (r :: rs) K := by
   rintro p d e ⟨c1, d1, h1, ⟨h2, h3⟩, rfl⟩
   simp only [retL, e]
   exact ⟨h2, zKw h1 h3 k⟩
  cases r with
  | tmp t =>
   simp only [resL, Option.map_eq_some_iff, Prod.exists, Prod.mk.injEq] at h
   obtain ⟨c1, d1, h1, rfl, rfl⟩ := h
   exact key True _ rfl ⟨c1, d1, h1, ⟨trivial, hc⟩, rfl⟩
  | cell a t =>
   simp only [resL] at h
   split at h
   ·rename_i p d he
    simp only [Option.map_eq_some_iff, Prod.exists, Prod.mk.injEq] at h
    obtain ⟨c1, d1, h1, rfl, rfl⟩ := h
    exact key p d he ⟨c1, d1, h1, hc.cons, rfl⟩
   ·cases h
def retC (P : Program) (rs : List ResultVar) (sl : List D) (st : List Bk) : Option (List Prop × D) := match resL P sl st rs with
 | none => none
 | some (cs, ds) => (frz true st zA8 (oneD ds)).map fun y => (cs, y.1)
theorem zZ {rs : List ResultVar} {e : Exit} {x : D} (C : Prop) (y y' : D) (he : e = .normal ∨ e = .ret) (h : (retC P rs sl st).map (fun x => (Alls x.1, zFq x.2)) = some (C, y)) (hc : C) (hy : y = y') (hx : y' = x) : (e = .normal ∨ e = .ret) ∧ retL P sl st rs (fun ds => ∃ y ks, frz true st zA8 (oneD ds) = some (y, ks) ∧ LeD y x) := by
 subst hy
 refine ⟨he, ?_⟩
 rw [Option.map_eq_some_iff] at h
 obtain ⟨⟨c, y0⟩, h, h0⟩ := h
 simp only [Prod.mk.injEq] at h0
 obtain ⟨rfl, rfl⟩ := h0
 unfold retC at h
 split at h
 ·cases h
 ·rename_i c1 ds h1
  rw [Option.map_eq_some_iff] at h
  obtain ⟨⟨y1, ks⟩, h2, h3⟩ := h
  simp only [Prod.mk.injEq] at h3
  obtain ⟨rfl, rfl⟩ := h3
  exact zKw h1 hc ⟨y1, ks, h2, hx ▸ zSa y1⟩
theorem zR0 {rs : List ResultVar} {e : Exit} (C : Prop) (y : D) (he : e = .normal ∨ e = .ret) (h : (retC P rs sl st).map (fun x => (Alls x.1, x.2)) = some (C, y)) (hc : C) : (e = .normal ∨ e = .ret) ∧ retL P sl st rs (fun ds => ∃ z ks, frz true st zA8 (oneD ds) = some (z, ks) ∧ LeD z y) := by
 refine ⟨he, ?_⟩
 rw [Option.map_eq_some_iff] at h
 obtain ⟨⟨c, y0⟩, h, h0⟩ := h
 simp only [Prod.mk.injEq] at h0
 obtain ⟨rfl, rfl⟩ := h0
 unfold retC at h
 split at h
 ·cases h
 ·rename_i c1 ds h1
  rw [Option.map_eq_some_iff] at h
  obtain ⟨⟨y1, ks⟩, h2, h3⟩ := h
  simp only [Prod.mk.injEq] at h3
  obtain ⟨rfl, rfl⟩ := h3
  exact zKw h1 hc ⟨y1, ks, h2, LeD.refl _⟩
theorem zA7 {rs : List ResultVar} {e : Exit} {K : List D → Prop} (C : Prop) (ds : List D) (he : e = .normal ∨ e = .ret) (h : (resL P sl st rs).map (fun x => (Alls x.1, x.2)) = some (C, ds)) (hc : C) (hk : K ds) : (e = .normal ∨ e = .ret) ∧ retL P sl st rs K := by
 rw [Option.map_eq_some_iff] at h
 obtain ⟨⟨c, y0⟩, h, h0⟩ := h
 simp only [Prod.mk.injEq] at h0
 obtain ⟨rfl, rfl⟩ := h0
 exact ⟨he, zKw h hc hk⟩
theorem zC0 {α : Type} {b0 : Code} (S : α → List D) (B : α → List Bk) (μ : α → Nat) (J : α → Prop) (a₀ : α) (h₀ : J a₀) (hw : Weak T sl st (S a₀) (B a₀))
  (step : ∀ a, J a → awp P T b0 (zA3 (fun sl' st' => ∃ a', J a' ∧ μ a' < μ a ∧ Weak T sl' st' (S a') (B a')) Q) (S a) (B a)) : awp P T (.loop b0) Q sl st := by
 refine zG2 (α := α) (S) (B) (μ) (J) a₀ h₀ hw ?_
 rintro a hj
 refine zG1 b0 (fun e sl st hk => ?_) _ _ (step a hj)
 cases e <;> simp only [zA3] at hk ⊢ <;> first | exact hk | skip
theorem zTn {α : Type} {β : Type} {b0 : Code} (S : α → β → List D) (B : α → β → List Bk) (μ : α → β → Nat) (J : α → β → Prop) (a₀ : α) (b₀ : β) (h₀ : J a₀ b₀) (hw : Weak T sl st (S a₀ b₀) (B a₀ b₀))
  (step : ∀ a b, J a b → awp P T b0 (zA3 (fun sl' st' => ∃ a' b', J a' b' ∧ μ a' b' < μ a b ∧ Weak T sl' st' (S a' b') (B a' b')) Q) (S a b) (B a b)) : awp P T (.loop b0) Q sl st := by
 refine zG2 (α := α × β) (fun x => S x.1 x.2) (fun x => B x.1 x.2) (fun x => μ x.1 x.2) (fun x => J x.1 x.2) (a₀, b₀) h₀ hw ?_
 rintro ⟨a, b⟩ hj
 refine zG1 b0 (fun e sl st hk => ?_) _ _ (step a b hj)
 cases e <;> simp only [zA3] at hk ⊢ <;> first | exact hk | skip
 obtain ⟨a', b', h1, h2, h3⟩ := hk
 exact ⟨(a', b'), h1, h2, h3⟩
theorem zJf {α : Type} {β : Type} {γ : Type} {b0 : Code} (S : α → β → γ → List D) (B : α → β → γ → List Bk) (μ : α → β → γ → Nat) (J : α → β → γ → Prop) (a₀ : α) (b₀ : β) (c₀ : γ) (h₀ : J a₀ b₀ c₀) (hw : Weak T sl st (S a₀ b₀ c₀) (B a₀ b₀ c₀))
  (step : ∀ a b c, J a b c → awp P T b0 (zA3 (fun sl' st' => ∃ a' b' c', J a' b' c' ∧ μ a' b' c' < μ a b c ∧ Weak T sl' st' (S a' b' c') (B a' b' c')) Q) (S a b c) (B a b c)) : awp P T (.loop b0) Q sl st := by
 refine zG2 (α := α × β × γ) (fun x => S x.1 x.2.1 x.2.2) (fun x => B x.1 x.2.1 x.2.2) (fun x => μ x.1 x.2.1 x.2.2) (fun x => J x.1 x.2.1 x.2.2) (a₀, b₀, c₀) h₀ hw ?_
 rintro ⟨a, b, c⟩ hj
 refine zG1 b0 (fun e sl st hk => ?_) _ _ (step a b c hj)
 cases e <;> simp only [zA3] at hk ⊢ <;> first | exact hk | skip
 obtain ⟨a', b', c', h1, h2, h3⟩ := hk
 exact ⟨(a', b', c'), h1, h2, h3⟩
theorem zTm {α : Type} {β : Type} {γ : Type} {δ : Type} {ε : Type} {b0 : Code} (S : α → β → γ → δ → ε → List D) (B : α → β → γ → δ → ε → List Bk) (μ : α → β → γ → δ → ε → Nat) (J : α → β → γ → δ → ε → Prop) (a₀ : α) (b₀ : β) (c₀ : γ) (d₀ : δ) (e₀ : ε) (h₀ : J a₀ b₀ c₀ d₀ e₀) (hw : Weak T sl st (S a₀ b₀ c₀ d₀ e₀) (B a₀ b₀ c₀ d₀ e₀))
  (step : ∀ a b c d e, J a b c d e → awp P T b0 (zA3 (fun sl' st' => ∃ a' b' c' d' e', J a' b' c' d' e' ∧ μ a' b' c' d' e' < μ a b c d e ∧ Weak T sl' st' (S a' b' c' d' e') (B a' b' c' d' e')) Q) (S a b c d e) (B a b c d e)) : awp P T (.loop b0) Q sl st := by
 refine zG2 (α := α × β × γ × δ × ε) (fun x => S x.1 x.2.1 x.2.2.1 x.2.2.2.1 x.2.2.2.2) (fun x => B x.1 x.2.1 x.2.2.1 x.2.2.2.1 x.2.2.2.2) (fun x => μ x.1 x.2.1 x.2.2.1 x.2.2.2.1 x.2.2.2.2) (fun x => J x.1 x.2.1 x.2.2.1 x.2.2.2.1 x.2.2.2.2) (a₀, b₀, c₀, d₀, e₀) h₀ hw ?_
 rintro ⟨a, b, c, d, e⟩ hj
 refine zG1 b0 (fun e sl st hk => ?_) _ _ (step a b c d e hj)
 cases e <;> simp only [zA3] at hk ⊢ <;> first | exact hk | skip
 obtain ⟨a', b', c', d', e', h1, h2, h3⟩ := hk
 exact ⟨(a', b', c', d', e'), h1, h2, h3⟩
theorem Weak.all {sl' : List D} {st' : List Bk} (m : Nat) (bs : List Bk) (hl : LeL sl sl') (hn : zL3 sl' st m st.length = true) (hk : ∀ k, m ≤ k → T.keep k = false) (e : st.take m ++ bs = st') : Weak T sl st sl' st' := by
 subst e
 exact ((Weak.slots hl).trans (Weak.cut m hn hk)).trans (Weak.more bs)
def zWr (hs : List (Nat × Nat)) (i : Nat) : Nat := match hs with
 | [] => 0
 | (j, h) :: r => if i == j then h else zWr r i
def le1 (h : Nat) (d d' : D) : List Prop := match h with
 | 0 => match d' with
  | .unk => []
  | _ => [False]
 | 1 => [d = d']
 | 2 => match d, d' with
  | .val (.slice none 0 0), .osl _ 0 0 0 _ => []
  | _, _ => [False]
 | 3 => match d, d' with
  | .val (.slice none 0 0), .row [] 0 => []
  | _, _ => [False]
 | 4 => match d with
  | .fx e => [e = d']
  | _ => [False]
 | _ => [False]
def leC : Nat → List D → List D → List (Nat × Nat) → List Prop
 | _, [], [], _ => []
 | i, d :: ds, d' :: ds', hs => le1 (zWr hs i) d d' ++ leC (i + 1) ds ds' hs
 | _, _, _, _ => [False]
theorem LeD.fx (d : D) : LeD (.fx d) d := fun I w β v h => by
 simp only [Rel] at h
 exact Rel.no h.2
theorem Pure.res {f : FuncId} {args : List D} {x x' : D} (h : Pure P f args [] x) (hx : LeD x x') : Pure P f args [] x' := fun I w vs hr hi hg => (h I w vs hr hi hg).mono fun e w' ⟨v, I', γ, h1, h2, h3, h4, h5, h6, h7, h8, h9, h10, h11, h12⟩ => ⟨v, I', γ, h1, h2, h3, h4, h5, h6, h7, h8, h9, h10, hx I' w' γ v h11, h12⟩
theorem Pure.fx {f : FuncId} {args : List D} {x : D} (h : Pure P f args [] x) (hx : ∀ I w v, Rel I w noB x v → v.oneCell' = true) : Pure P f args [] (.fx x) := fun I w vs hr hi hg => (h I w vs hr hi hg).mono fun e w' ⟨v, I', γ, h1, h2, h3, h4, h5, h6, h7, h8, h9, h10, h11, h12⟩ => by
 have hn : γ = noB := by
  funext k
  cases hk : γ k with
  | none => rfl
  | some y => have := h10 k y hk; simp at this
 subst hn
 exact ⟨v, I', noB, h1, h2, h3, h4, h5, h6, h7, h8, h9, h10, by simp only [Rel]; exact ⟨hx _ _ _ h11, h11⟩, h12⟩
theorem zWf {hs : List (Nat × Nat)} : ∀ {i : Nat} {sl sl' : List D}, Alls (leC i sl sl' hs) → LeL sl sl'
 | i, [], [], _ => .nil
 | i, [], _ :: _, h => h.elim
 | i, _ :: _, [], h => h.elim
 | i, d :: ds, d' :: ds', h => by
  simp only [leC] at h
  obtain ⟨h1, h2⟩ := Alls.app h
  refine .cons ?_ (zWf h2)
  unfold le1 at h1
  split at h1
  ·split at h1
   ·exact .unk _
   ·exact h1.elim
  ·exact .eq h1
  ·split at h1
   ·exact .nil _ _
   ·exact h1.elim
  ·split at h1
   ·exact .nil_row
   ·exact h1.elim
  ·split at h1
   ·rename_i e
    have h3 : e = d' := h1
    subst h3
    exact LeD.fx _
   ·exact h1.elim
  ·exact h1.elim
theorem zAp {sl' : List D} {st' : List Bk} (hs : List (Nat × Nat)) (C : Prop) (m : Nat) (bs : List Bk) (h : Alls (leC 0 sl sl' hs) = C) (hc : C) (hn : zL3 sl' st m st.length = true) (hk : ∀ k, m ≤ k → T.keep k = false) (e : st.take m ++ bs = st') : Weak T sl st sl' st' := by
 subst h
 exact Weak.all m bs (zWf hc) hn hk e
end
end
section
open Go.RowKit
abbrev eqDL (a b : List D) : Prop := a = b
section
variable {P : Program} {T : Par} {ops : Array Oper} {dr : Bool} {l : List Oper} {sl : List D} {st : List Bk} {K : List D → List Bk → Prop}
theorem zF4 (gs : List (Nat × Bool)) (cs : List Prop) {f : FuncId} (args : List D) {x : D} {st' : List Bk} {ch : List Nat} (args' : List D) (h : actL P T ops dr l gs sl st = some (cs, f, args)) (hc : Alls cs) (ha : LeL args args') (hp : Acts P f args' st ch x st') (hk : ch.all (fun k => !T.keep k) = true) (k : seqW P T ops dr l.tail (putD (sl.map (zBs ch)) (hdst l) x) st' K) : seqW P T ops dr l sl st K := by
 unfold actL at h
 split at h
 ·cases h
 ·rename_i o r
  split at h
  ·rename_i c1 g1 s1 hg
   split at h
   ·rename_i f1 a1 he
    split at h
    ·rename_i hl
     simp only [Option.some.injEq, Prod.mk.injEq] at h
     obtain ⟨rfl, rfl, rfl⟩ := h
     obtain ⟨rfl, g2⟩ := zEp (P := P) (T := T) hg hc
     simp only [Bool.and_eq_true, Bool.not_eq_true', Bool.or_eq_true] at hl
     refine g2 ?_
     simp only [goW, he]
     exact ⟨hl.1, hl.2, ch, x, st', ⟨hp.le ha, fun k hk' => by simpa using List.all_eq_true.1 hk k hk'⟩, k⟩
    ·cases h
   ·cases h
  ·cases h
def updB (st : List Bk) (ups : List (Nat × Bk)) (news : List Bk) : List Bk := ups.foldl (fun s p => s.set p.1 p.2) st ++ news
theorem zAg (n : Nat) (raws : List Nat) (gs : List (Nat × Bool)) (C : Prop) (ch : List (Nat × D)) (ups : List (Nat × Bk)) (news : List Bk) (h : (runL P T ops raws (l.take n) gs sl st).map (fun x => (Alls x.1, x.2.1, x.2.2)) = some (C, updS sl ch, updB st ups news)) (hc : C) (k : seqW P T ops dr (l.drop n) (updS sl ch) (updB st ups news) K) : seqW P T ops dr l sl st K := zRq n raws gs C ch _ h hc k
theorem zN {b : Code} {Q Q' : Exit → List D → List Bk → Prop} (raws : List Nat) (gs : List (Nat × Bool)) (dead : List Nat) (C : Prop) (ch : List (Nat × D)) (ups : List (Nat × Bk)) (news : List Bk) (h : (runL P T ops raws l gs sl st).map (fun x => (Alls x.1, zB0 x.2.1 dead, x.2.2)) = some (C, updS (zB0 sl dead) ch, updB st ups news)) (hc : C) (k : awp P T b Q (updS (zB0 sl dead) ch) (updB st ups news)) : seqW P T ops dr l sl st (zA3 (zCo P T b Q) Q' .normal) := zRr raws gs dead C ch _ h hc k
theorem zAq {f : FuncId} (args : List D) (ks : List Nat) {x : D} (args' : List D) (h : zN0 P T ops l [] sl st = some ([], f, args, zAr st ks)) (ha : LeL args args') (hp : Pure P f args' [] x) (k : seqW P T ops dr l.tail (putD sl (hdst l) x) (zAr st ks) K) : seqW P T ops dr l sl st K := zKp [] [] args _ args' h trivial ha hp k
theorem Acts.cut {f : FuncId} {args : List D} {s : List Bk} {x : D} {ch : List Nat} (m : Nat) (h : Acts P f args st ch x s) (hm : st.length ≤ m) (hn : zL3 [x] s m s.length = true) : Acts P f args st ch x (s.take m) := by
 intro β I w vs hr hsr hinj hfz hdom hi hg
 refine (h β I w vs hr hsr hinj hfz hdom hi hg).mono ?_
 rintro e w' ⟨v, β', I', rfl, p1, p2, p3, p4, p5, p6, p7, p8⟩
 have hs : Sim β' I' w' [x] s [v] := ⟨by simp only [RelT]; exact ⟨v, [], rfl, p8, rfl⟩, p4, p5, p6, p7, p1, hg.mono p2.fix⟩
 obtain ⟨β2, I2, s2, t2, k2⟩ := Weak.cut (T := ⟨fun _ => false, fun _ _ => none, fun k => decide (k < m), fun _ => false, fun _ => false⟩) m hn (fun k hk => by simp; omega) β' I' w' _ hs
 have hx := s2.rel
 simp only [RelT] at hx
 obtain ⟨v2, us, hv, hx, _⟩ := hx
 simp only [List.cons.injEq] at hv
 obtain ⟨rfl, _⟩ := hv
 refine ⟨v, β2, I2, rfl, s2.imb, p2.trans t2, fun k y hk hb => k2 k y (by have := hdom k y hb; simp; omega) (p3 k y hk hb), s2.sr, s2.inj, s2.fz, s2.dom, hx⟩
end
end
section
open Go.RowKit
theorem zDm {α β : Type} {f : α → β} {l : List α} (h : 0 < l.length) : l.map f ≠ [] := fun e => by
 rw [List.map_eq_nil_iff] at e; subst e; simp at h
theorem zMe {α : Type} (f : α → D) (l : List α) (d0 : α) (k : Nat) (h : k < l.length) : ((l.map f).drop k).headD .unk = f (l.getD k d0) := by
 rw [List.drop_eq_getElem_cons (by simpa using h)]; simp [h]
theorem zCf (a b : Nat) : (a : Int) + (b : Int) = ((a + b : Nat) : Int) := by simp
theorem zVy (a b : Nat) : (a : Int) * (b : Int) = ((a * b : Nat) : Int) := by simp
theorem zBh (a : Nat) : (a : Int) + 1 = ((a + 1 : Nat) : Int) := by simp
theorem zCw (a : Nat) (h : 1 ≤ a) : (a : Int) - 1 = ((a - 1 : Nat) : Int) := by omega
theorem zBq (n : Nat) : IntKind.u32.wrap (n : Int) = ((n % 4294967296 : Nat) : Int) := by
 simp only [IntKind.wrap, IntKind.bits, IntKind.signed, Bool.false_and, Bool.false_eq_true, if_false]; omega
theorem zGd (n : Nat) : Int.fdiv (n : Int) (2 ^ 32) = ((n / 4294967296 : Nat) : Int) := by
 rw [Int.fdiv_eq_ediv_of_nonneg _ (by decide)]; omega
abbrev dig (x : Nat) : D := .val (.int .u32 x)
abbrev digR (l : List Nat) : D := .row (l.map dig) l.length
theorem zBg (l : List Nat) (k : Nat) (h : k < l.length) : ((l.map dig).drop k).headD .unk = dig (l.getD k 0) := by
 rw [List.drop_eq_getElem_cons (by simpa using h)]; simp [h]
theorem zEi (l : List Nat) (k x : Nat) : (l.map dig).set k (.val (.int .u32 (x : Int))) = (l.set k x).map dig := by
 rw [List.map_set]
theorem zKx (n : Nat) : repL n [.val (.int .u32 0)] = (List.replicate n 0).map dig := by
 rw [List.map_replicate]
 induction n with
 | zero => rfl
 | succ n ih => simp only [repL, List.replicate_succ, List.flatten_cons, List.cons_append, List.nil_append] at ih ⊢; rw [ih]; rfl
theorem zFm (l : List Nat) (n : Nat) : (l.map dig).take n = (l.take n).map dig := by rw [List.map_take]
def dg (n : Nat) : List Nat := if h : n = 0 then [] else n % 4294967296 :: dg (n / 4294967296)
 decreasing_by omega
theorem zBk (n : Nat) : nval (dg n) = n := by
 induction n using Nat.strongRecOn with
 | _ n ih =>
  unfold dg
  split
  ·simp [nval, *]
  ·rw [nval, ih _ (by omega)]; omega
theorem zBl (n : Nat) : Digs (dg n) := by
 induction n using Nat.strongRecOn with
 | _ n ih =>
  intro i
  unfold dg
  split
  ·simp
  ·cases i with
   | zero => simp; omega
   | succ i => simp only [List.getD_cons_succ]; exact ih _ (by omega) i
theorem zNd {x : Nat} {l : List Nat} (h : Normal (x :: l)) : Normal l ∧ (l = [] → x ≠ 0) := by
 rcases h with h | h
 ·cases h
 ·cases l with
  | nil => exact ⟨.inl rfl, fun _ => by simpa using h⟩
  | cons y l => exact ⟨.inr (by simpa using h), fun h => by cases h⟩
theorem zS4 : ∀ (l : List Nat), Normal l → Digs l → dg (nval l) = l
 | [], _, _ => by unfold dg; simp [nval]
 | x :: l, hn, hd => by
  obtain ⟨h1, h2⟩ := zNd hn
  have hx : x < 4294967296 := by simpa using hd 0
  have ih := zS4 l h1 (fun i => by simpa using hd (i + 1))
  have hne : nval (x :: l) ≠ 0 := fun h => by
   have := (Normal.zero hn).1 h
   cases this
  rw [nval] at hne ⊢
  unfold dg
  rw [dif_neg hne, show (x + 4294967296 * nval l) % 4294967296 = x by omega, show (x + 4294967296 * nval l) / 4294967296 = nval l by omega, ih]
theorem zKl {l : List Nat} (hl : Digs l) : l.take (zBv l l.length) = dg (nval l) := by
 have h1 := zL1 l l.length (Nat.le_refl _)
 have h2 := zFb l l.length (Nat.le_refl _)
 rw [List.take_length] at h1
 rw [← h1, zS4 _ h2 (hl.take _)]
theorem zL2 (n : Nat) : Normal (dg n) := by
 have h := zFb (dg n) (dg n).length (Nat.le_refl _)
 rw [zKl (zBl n), zBk] at h; exact h
theorem zH6 {l : List Nat} (hl : Digs l) : (dg (nval l)).length ≤ l.length := by
 rw [← zKl hl, List.length_take]; omega
def cmpD (a b : Int) : Int := if a < b then -1 else if b < a then 1 else 0
theorem zS7 {a b c d : Nat} (h1 : a < b → c < d) (h2 : b < a → d < c) (h3 : a = b → c = d) : cmpD a b = cmpD c d := by
 unfold cmpD
 rcases Nat.lt_trichotomy a b with h | h | h
 ·have := h1 h; rw [if_pos (by omega), if_pos (by omega)]
 ·have := h3 h; rw [if_neg (by omega), if_neg (by omega), if_neg (by omega), if_neg (by omega)]
 ·have := h2 h; rw [if_neg (by omega), if_pos (by omega), if_neg (by omega), if_pos (by omega)]
abbrev natD (n : Nat) : D := digR (dg n)
end
section
open Go.ChangeShapes Go.WideShapes Go.ChangeAt Go.RowKit
section
variable {H : Type} {enc : TypeId × Value → H} {P : Program}
theorem zG8 (hl : laidOutB P = true) {W W' : World} (hb : Ext W W') : ∀ {ts : List TypeId} {vs : List Value} {ds : List (DataW H)} {ps : List MemPlace} (sp : Nat → Bool),
  ts.all (fun t => P.readableRec t && decide (t < P.types.size)) = true → DataW.TrodAll enc P W 0 (fun _ => true) true ts vs ds ps → (∀ p ∈ ps, p.block < W.heap.size) → (∀ p ∈ ps, sp p.block = true) → DataW.TrodAll enc P W' 0 sp true ts vs ds ps
 | [], [], [], ps, sp, _, h, _, _ => h
 | t :: ts, v :: vs, d :: ds, ps, sp, hr, ⟨p, q, h1, h2, h3⟩, hlt, hsp => by
  subst h3
  simp only [List.all_cons, Bool.and_eq_true, decide_eq_true_eq] at hr
  refine ⟨p, q, WideElems.Trod_stays hl hr.1.1 hr.1.2 h1 (fun x hx => Below.same hb (hlt x (List.mem_append_left _ hx))) (fun x hx => hsp x (List.mem_append_left _ hx)), ?_, rfl⟩
  exact zG8 hl hb sp hr.2 h2 (fun x hx => hlt x (List.mem_append_right _ hx)) (fun x hx => hsp x (List.mem_append_right _ hx))
 | [], _ :: _, _, _, _, _, h, _, _ => h.elim
 | [], [], _ :: _, _, _, _, h, _, _ => h.elim
 | _ :: _, [], _, _, _, _, h, _, _ => h.elim
 | _ :: _, _ :: _, [], _, _, _, h, _, _ => h.elim
theorem zR3 {f : Func} {s : ChangeSpec} {W W' : World} {args : Array Value} {ds : List (DataW H)} {before : List MemPlace} {bt : TypeId}
  (hl : laidOutB P = true) (hv : s.vars = []) (hrt : f.resultTypes = #[bt]) (hbt : P.underlying bt = some .bool)
  (hr : f.params.toList.all (fun t => P.readableRec t && decide (t < P.types.size)) = true)
  (hfn : s.fn H ds = { results := [.lit (.bool true)], args := ds })
  (hW : DataW.Whole enc P f.params.toList s.vars false W args.toList ds [] before) (hx : Ext W W') :
  s.post enc P f false true false false W args (.bool true) W' := by
 have hlt : ∀ p ∈ before, p.block < W.heap.size := fun p hp => hW.lt p hp
 obtain ⟨p, q, hA, hV, hpq, hz, hn⟩ := id hW
 rw [hv] at hV
 have hq : q = [] := hV
 subst hq
 rw [List.append_nil] at hpq
 subst hpq
 have hfn' : s.fn H (ds ++ []) = { results := [.lit (.bool true)], args := ds } := by rw [List.append_nil]; exact hfn
 have hstay : ∀ sp : Nat → Bool, (∀ x ∈ before, sp x.block = true) → DataW.TrodAll enc P W' 0 sp true f.params.toList args.toList ds before := fun sp hsp => zG8 hl hx sp hr hA hlt hsp
 have hres : ∀ (b : Nat) (sp : Nat → Bool) (hd : Bool), DataW.TrodAll enc P W' b sp hd f.resultTypes.toList ((Value.bool true).resultList f.resultTypes.size) [.lit (.bool true)] [] := by
  intro b sp hd
  rw [hrt]
  exact ⟨[], [], shut_bool hbt true, rfl, rfl⟩
 have hvars : ∀ sp : Nat → Bool, DataW.TrodVars enc P W' sp s.vars ([] : List (DataW H)) [] := fun sp => by rw [hv]; exact rfl
 refine ⟨ds, [], before, [], before, [], hW, by rw [hfn']; exact hres _ _ _, by rw [hfn']; exact hstay _ (fun x hx => by simpa using hlt x hx), by rw [hfn']; exact hvars _, World.keptBut_mono (fun x hx => ⟨hx, Or.inr (by simpa using hx)⟩) (Below.frame hx (· ∈ before)), fun _ => ?_⟩
 refine ⟨?_, _, _, ([] ++ before) ++ [], ⟨[] ++ before, [], trodAll_append (by simpa using hstay _ (fun _ _ => rfl)) (by simpa using hres _ _ _), hvars _, rfl, ?_, fun h => by cases h⟩, ?_⟩
 ·intro j t r h1 h2
  rw [hrt] at h1 h2
  cases j with
  | zero =>
   simp [Value.resultList] at h1 h2
   subst h1 h2
   exact okWide_bool_mk hbt _
  | succ j => simp at h1
 ·intro b off hp
  have hin : MemPlace.cell b off ∈ before := by simpa using hp
  rw [Below.frozen hx (hlt _ hin)]
  exact hz b off hin
 ·intro x hx2 _
  simpa using hx2
end
end
section
open Go.ChangeShapes Go.WideShapes Go.ChangeAt Go.RowKit
def allI (w : World) : Im := fun b _ => b < w.heap.size
def Shp (P : Program) : Nat → TypeId → List D → Prop
 | 0, _, _ => False
 | n + 1, t, ds => match P.underlying t with
  | some .bool => ∃ b, ds = [.val (.bool b)]
  | some (.int k) => ∃ z, ds = [.val (.int k z)] ∧ (Lit.int k z).wf = true
  | some .string => ∃ s, ds = [.val (.string s)] ∧ s.size ≤ maxLen
  | some (.slice e) => ∃ ls : List (List D), ds = [.row ls.flatten ls.length] ∧ (∀ x ∈ ls, Shp P n e x ∧ x.length = P.cellsOf e) ∧ ls.length ≤ maxLen
  | some (.struct fs) => ds.length = P.cellsOf t ∧ ∀ f ∈ fs.toList, Shp P n f.type ((ds.drop f.offset).take (P.cellsOf f.type))
  | some (.array m e) => ds.length = P.cellsOf t ∧ ∀ i, i < m → Shp P n e ((ds.drop (i * P.cellsOf e)).take (P.cellsOf e))
  | _ => False
section
variable {H : Type} {enc : TypeId × Value → H} {P : Program} {w : World}
theorem zFs {α β : Type} {f : α → Option β} : ∀ {l : List α} {r : List β}, l.mapM f = some r → r.length = l.length ∧ ∀ (i : Nat) x, l[i]? = some x → ∃ y, f x = some y
 | [], r, h => by simp at h; subst h; exact ⟨rfl, by simp⟩
 | a :: l, r, h => by
  rw [List.mapM_cons] at h
  cases ha : f a with
  | none => simp [ha] at h
  | some b =>
   cases hl : l.mapM f with
   | none => simp [ha, hl] at h
   | some bs =>
    simp [ha, hl] at h
    subst h
    obtain ⟨h1, h2⟩ := zFs hl
    refine ⟨by simp [h1], fun i x hx => ?_⟩
    cases i with
    | zero => simp at hx; subst hx; exact ⟨b, ha⟩
    | succ i => exact h2 i x (by simpa using hx)
theorem RelC.append {I : Im} {b : Nat} : ∀ {x y : List D} {o : Nat}, RelC I w x b o → RelC I w y b (o + x.length) → RelC I w (x ++ y) b o
 | [], y, o, h, k => by simpa using k
 | d :: x, y, o, h, k => by
  simp only [List.cons_append, RelC] at h ⊢
  refine ⟨h.1, h.2.append ?_⟩
  rw [show o + 1 + x.length = o + (d :: x).length by simp; omega]; exact k
theorem zGm {I : Im} {b sz : Nat} : ∀ (ls : List (List D)) (o : Nat), (∀ j x, ls[j]? = some x → RelC I w x b (o + j * sz) ∧ x.length = sz) → RelC I w ls.flatten b o
 | [], o, h => by simp only [List.flatten_nil, RelC]
 | x :: ls, o, h => by
  rw [List.flatten_cons]
  have h0 := h 0 x rfl
  refine RelC.append (by simpa using h0.1) (zGm (sz := sz) ls _ fun j y hy => ?_)
  have := h (j + 1) y (by simpa using hy)
  rw [h0.2]
  refine ⟨?_, this.2⟩
  rw [show o + sz + j * sz = o + (j + 1) * sz by rw [Nat.succ_mul]; omega]; exact this.1
theorem zKy {b o n : Nat} {cs : List Value} {ds : List D} (h : RelL (allI w) w noB ds cs) (hc : ∀ j v, cs[j]? = some v → w.cell? ⟨b, o + j, none⟩ = some v) : RelC (allI w) w ds b o :=
 RelC.of_get fun i d hd => by
  obtain ⟨v, k1, k2, k3⟩ := h.get i d hd
  have hv := hc i v k1
  exact ⟨World.block_lt_of_cell? w _ hv, v, hv, k2, k3⟩
def zEr (P : Program) (total : Nat) : List Field → Nat → Bool
 | [], off => off == total
 | f :: r, off => f.offset == off && zEr P total r (off + P.cellsOf f.type)
theorem zMk {total : Nat} : ∀ {fs : List Field} {off : Nat}, zEr P total fs off = true → off ≤ total
 | [], off, h => by simp [zEr] at h; omega
 | f :: r, off, h => by
  simp only [zEr, Bool.and_eq_true, beq_iff_eq] at h
  have := zMk h.2
  omega
theorem zMl {total : Nat} : ∀ {fs : List Field} {off : Nat}, zEr P total fs off = true → ∀ f ∈ fs, off ≤ f.offset
 | [], off, h, f, hf => by cases hf
 | g :: r, off, h, f, hf => by
  simp only [zEr, Bool.and_eq_true, beq_iff_eq] at h
  rcases List.mem_cons.1 hf with rfl | hf
  ·omega
  ·have := zMl h.2 f hf; omega
theorem zKd {total : Nat} {cs : List Value} (hl : cs.length = total) {S : TypeId → List D → Prop} : ∀ (fs : List Field) (off : Nat), zEr P total fs off = true → (∀ f ∈ fs, ∃ ds, RelL (allI w) w noB ds ((cs.drop f.offset).take (P.cellsOf f.type)) ∧ S f.type ds) →
  ∃ ds, RelL (allI w) w noB ds (cs.drop off) ∧ ∀ f ∈ fs, S f.type ((ds.drop (f.offset - off)).take (P.cellsOf f.type))
 | [], off, hc, h => by
  simp only [zEr, beq_iff_eq] at hc
  exact ⟨[], by rw [List.drop_of_length_le (by omega)]; simp only [RelL], by simp⟩
 | f :: r, off, hc, h => by
  simp only [zEr, Bool.and_eq_true, beq_iff_eq] at hc
  obtain ⟨df, h1, h2⟩ := h f (List.mem_cons_self ..)
  obtain ⟨dr, h3, h4⟩ := zKd hl r _ hc.2 (fun g hg => h g (List.mem_cons_of_mem _ hg))
  have hle := zMk hc.2
  have hlen : df.length = P.cellsOf f.type := by
   rw [h1.length, List.length_take, List.length_drop, hc.1]; omega
  refine ⟨df ++ dr, ?_, fun g hg => ?_⟩
  ·have := h1.append h3
   rw [hc.1] at this
   rwa [show (cs.drop off).take (P.cellsOf f.type) ++ cs.drop (off + P.cellsOf f.type) = cs.drop off by rw [← List.drop_drop]; exact List.take_append_drop _ _] at this
  ·rcases List.mem_cons.1 hg with rfl | hg
   ·rw [hc.1, Nat.sub_self, List.drop_zero, List.take_append_of_le_length (by omega), List.take_of_length_le (by omega)]
    exact h2
   ·have hge := zMl hc.2 g hg
    have := h4 g hg
    rw [List.drop_append, List.drop_of_length_le (l := df) (by omega), List.nil_append, show g.offset - off - df.length = g.offset - (off + P.cellsOf f.type) by omega]
    exact this
theorem zMc {sz : Nat} {S : List D → Prop} : ∀ (m : Nat) (cs : List Value), cs.length = m * sz → (∀ i, i < m → ∃ ds, RelL (allI w) w noB ds ((cs.drop (i * sz)).take sz) ∧ S ds) →
  ∃ ds, RelL (allI w) w noB ds cs ∧ ∀ i, i < m → S ((ds.drop (i * sz)).take sz)
 | 0, cs, hl, h => by
  obtain rfl : cs = [] := List.eq_nil_of_length_eq_zero (by simpa using hl)
  exact ⟨[], by simp only [RelL], by simp⟩
 | m + 1, cs, hl, h => by
  obtain ⟨d0, h1, h2⟩ := h 0 (by omega)
  rw [Nat.zero_mul, List.drop_zero] at h1
  rw [Nat.succ_mul] at hl
  have hlen : d0.length = sz := by rw [h1.length, List.length_take]; omega
  obtain ⟨dr, h3, h4⟩ := zMc (sz := sz) (S := S) m (cs.drop sz) (by rw [List.length_drop]; omega) (fun i hi => by
   obtain ⟨ds, k1, k2⟩ := h (i + 1) (by omega)
   refine ⟨ds, ?_, k2⟩
   rw [List.drop_drop, show sz + i * sz = (i + 1) * sz by rw [Nat.succ_mul]; omega]
   exact k1)
  refine ⟨d0 ++ dr, ?_, fun i hi => ?_⟩
  ·have := h1.append h3
   rwa [List.take_append_drop] at this
  ·cases i with
   | zero =>
    rw [Nat.zero_mul, List.drop_zero, List.take_append_of_le_length (by omega), List.take_of_length_le (by omega)]
    exact h2
   | succ i =>
    have := h4 i (by omega)
    rw [Nat.succ_mul, List.drop_append, List.drop_of_length_le (l := d0) (by omega), List.nil_append, show i * sz + sz - d0.length = i * sz by omega]
    exact this
def okT (P : Program) : Nat → TypeId → Bool
 | 0, _ => true
 | n + 1, t => match P.underlying t with
  | some .bool | some (.int _) | some .string => true
  | some (.slice e) => decide (0 < P.cellsOf e) && okT P n e
  | some (.struct fs) => zEr P (P.cellsOf t) fs.toList 0 && fs.toList.all (fun f => okT P n f.type)
  | some (.array m e) => P.cellsOf t == m * P.cellsOf e && okT P n e
  | _ => false
theorem zPd : ∀ (fuel : Nat) (t : TypeId) (cs : List Value) (d : DataW H) (ps : List MemPlace), DataW.trod enc P w 0 (fun _ => true) true fuel t cs = some (d, ps) → okT P fuel t = true → ∃ ds, RelL (allI w) w noB ds cs ∧ Shp P fuel t ds
 | 0, t, cs, d, ps, h, hk => by cases h
 | n + 1, t, cs, d, ps, h, hk => by
  have ih := zPd n
  simp only [DataW.trod] at h
  split at h
  case h_1 =>
   rename_i b hu
   exact ⟨[.val (.bool b)], by simp only [RelL, Rel]; exact ⟨_, _, rfl, rfl, rfl, rfl⟩, by simp [Shp, hu]⟩
  case h_2 =>
   rename_i k k' z hu
   split at h
   ·rename_i hc
    obtain ⟨rfl, hw⟩ := hc
    exact ⟨[.val (.int k' z)], by simp only [RelL, Rel]; exact ⟨_, _, rfl, rfl, rfl, rfl⟩, by simp [Shp, hu, hw]⟩
   ·cases h
  case h_4 =>
   rename_i z hu
   split at h
   ·rename_i hc
    exact ⟨[.val (.string z)], by simp only [RelL, Rel]; exact ⟨_, _, rfl, rfl, rfl, rfl⟩, by simp [Shp, hu, hc]⟩
   ·cases h
  case h_7 =>
   rename_i e hu
   exact ⟨[.row [] 0], by simp only [RelL, Rel]; exact ⟨_, _, rfl, rfl, ⟨none, 0, rfl, Nat.le_refl _, by decide, fun _ => rfl, .inl trivial⟩, rfl⟩, by simp only [Shp, hu]; exact ⟨[], rfl, by simp, by decide⟩⟩
  case h_8 =>
   rename_i e a len cap hu
   simp only [okT, hu, Bool.and_eq_true, decide_eq_true_eq] at hk
   split at h
   ·rename_i hc
    cases hm : (List.range len).mapM (fun i => (w.cells? 0 (a.add (i * P.cellsOf e)) (P.cellsOf e)).bind (DataW.trod enc P w 0 (fun _ => true) true n e)) with
    | none => simp [hm] at h
    | some es =>
     obtain ⟨_, h2⟩ := zFs hm
     have key : ∀ i, i < len → ∃ ds cs, RelL (allI w) w noB ds cs ∧ Shp P n e ds ∧ w.cells? 0 (a.add (i * P.cellsOf e)) (P.cellsOf e) = some cs := by
      intro i hi
      obtain ⟨y, hy⟩ := h2 i i (List.getElem?_range hi)
      rw [Option.bind_eq_some_iff] at hy
      obtain ⟨cs, k1, k2⟩ := hy
      obtain ⟨ds, k3, k4⟩ := ih e cs y.1 y.2 k2 hk.2
      exact ⟨ds, cs, k3, k4, k1⟩
     have hsp : 0 < len → a.spot = none := by
      intro h0
      obtain ⟨ds, cs, k1, k2, k3⟩ := key 0 h0
      obtain ⟨_, hl, hcell⟩ := World.cells?_some k3
      have := hcell 0 (by omega)
      have h5 : ∃ v, w.cell? ((a.add (0 * P.cellsOf e)).add 0) = some v := by
       rw [this]; exact ⟨cs[0]'(by omega), by simp⟩
      obtain ⟨v, hv⟩ := h5
      have := World.cell?_spot hv
      simpa [Addr.add] using this
     have hls : ∃ ls : List (List D), ls.length = len ∧ ∀ j x, ls[j]? = some x → ∃ cs, RelL (allI w) w noB x cs ∧ Shp P n e x ∧ w.cells? 0 (a.add (j * P.cellsOf e)) (P.cellsOf e) = some cs := by
      refine ⟨(List.range len).map (fun i => if hi : i < len then Classical.choose (key i hi) else []), by simp, fun j x hx => ?_⟩
      rw [List.getElem?_map, Option.map_eq_some_iff] at hx
      obtain ⟨j', hj, rfl⟩ := hx
      have hjl : j < len := by have := (List.getElem?_eq_some_iff.1 hj).1; simpa using this
      rw [List.getElem?_range hjl] at hj
      cases hj
      rw [dif_pos hjl]
      exact Classical.choose_spec (key j hjl)
     obtain ⟨ls, hl1, hl2⟩ := hls
     have hlen : ∀ (j : Nat) (x : List D), ls[j]? = some x → x.length = P.cellsOf e := by
      intro j x hx
      obtain ⟨cs, k1, k2, k3⟩ := hl2 j x hx
      rw [k1.length]; exact (World.cells?_some k3).2.1
     refine ⟨[.row ls.flatten ls.length], ?_, ?_⟩
     ·simp only [RelL, Rel]
      refine ⟨_, _, rfl, rfl, ⟨some a, cap, by rw [hl1], by omega, hc.2.2, (fun h => by cases h), ?_⟩, rfl⟩
      rcases Nat.eq_zero_or_pos len with h0 | h0
      ·left
       obtain rfl : ls = [] := List.eq_nil_of_length_eq_zero (by omega)
       rfl
      ·right
       obtain ⟨b, o, sp⟩ := a
       obtain rfl : sp = none := hsp h0
       refine ⟨b, o, rfl, zGm (sz := P.cellsOf e) ls o fun j x hx => ⟨?_, hlen j x hx⟩⟩
       obtain ⟨cs, k1, k2, k3⟩ := hl2 j x hx
       obtain ⟨_, k4, k5⟩ := World.cells?_some k3
       refine zKy (n := 0) k1 fun i v hv => ?_
       have hi : i < P.cellsOf e := by have := (List.getElem?_eq_some_iff.1 hv).1; omega
       have := k5 i hi
       rw [hv] at this
       rw [add_plain, add_plain] at this
       exact this
     ·simp only [Shp, hu]
      refine ⟨ls, rfl, fun x hx => ?_, by omega⟩
      obtain ⟨j, hj⟩ := List.getElem?_of_mem hx
      obtain ⟨cs, k1, k2, k3⟩ := hl2 j x hj
      exact ⟨k2, hlen j x hj⟩
   ·cases h
  case h_9 =>
   rename_i fs hu
   simp only [okT, hu, Bool.and_eq_true] at hk
   split at h
   ·rename_i hl
    rw [Option.map_eq_some_iff] at h
    obtain ⟨xs, hm, _⟩ := h
    obtain ⟨_, h2⟩ := zFs hm
    obtain ⟨ds, k1, k2⟩ := zKd (P := P) (S := Shp P n) hl fs.toList 0 hk.1 (fun f hf => by
     obtain ⟨j, hj⟩ := List.getElem?_of_mem hf
     obtain ⟨y, hy⟩ := h2 j f hj
     exact ih _ _ y.1 y.2 hy (List.all_eq_true.1 hk.2 f hf))
    rw [List.drop_zero] at k1
    exact ⟨ds, k1, by simp only [Shp, hu]; exact ⟨by rw [k1.length]; exact hl, fun f hf => by simpa using k2 f hf⟩⟩
   ·cases h
  case h_10 =>
   rename_i m e hu
   simp only [okT, hu, Bool.and_eq_true, beq_iff_eq] at hk
   split at h
   ·rename_i hl
    rw [Option.map_eq_some_iff] at h
    obtain ⟨xs, hm, _⟩ := h
    obtain ⟨_, h2⟩ := zFs hm
    obtain ⟨ds, k1, k2⟩ := zMc (sz := P.cellsOf e) (S := Shp P n e) m _ (by rw [hl, hk.1]) (fun i hi => by
     obtain ⟨y, hy⟩ := h2 i i (List.getElem?_range hi)
     exact ih _ _ y.1 y.2 hy hk.2)
    exact ⟨ds, k1, by simp only [Shp, hu]; exact ⟨by rw [k1.length]; exact hl, k2⟩⟩
   ·cases h
  all_goals (exfalso; simp_all [okT])
end
end
section
open Go.ChangeShapes Go.WideShapes Go.ChangeAt Go.RowKit
def okS (P : Program) : Nat → TypeId → Bool
 | 0, _ => false
 | n + 1, t => match P.underlying t with
  | some .bool | some (.int _) | some .string => true
  | some (.slice e) => decide (0 < P.cellsOf e) && okS P n e
  | some (.struct fs) => zEr P (P.cellsOf t) fs.toList 0 && fs.toList.all (fun f => okS P n f.type)
  | some (.array m e) => P.cellsOf t == m * P.cellsOf e && okS P n e
  | _ => false
theorem zK0 {P : Program} : ∀ {k : Nat} {t : TypeId}, okS P k t = true → ∀ n, okT P n t = true
 | 0, t, h, n => by cases h
 | k + 1, t, h, 0 => rfl
 | k + 1, t, h, n + 1 => by
  simp only [okS] at h
  simp only [okT]
  split at h <;> rename_i hu <;> (try simp only [hu]) <;> try trivial
  ·simp only [Bool.and_eq_true] at h ⊢
   exact ⟨h.1, zK0 h.2 n⟩
  ·simp only [Bool.and_eq_true, List.all_eq_true] at h ⊢
   exact ⟨h.1, fun f hf => zK0 (h.2 f hf) n⟩
  ·simp only [Bool.and_eq_true] at h ⊢
   exact ⟨h.1, zK0 h.2 n⟩
section
variable {P : Program} {n : Nat} {t : TypeId} {ds : List D}
theorem zKr {k : IntKind} (hu : P.underlying t = some (.int k)) (h : Shp P n t ds) : ∃ z, ds = [.val (.int k z)] ∧ inK k z := by
 cases n with
 | zero => exact h.elim
 | succ n =>
  simp only [Shp, hu] at h
  obtain ⟨z, h1, h2⟩ := h
  refine ⟨z, h1, ?_⟩
  cases k <;> simpa [Lit.wf, IntKind.min, IntKind.max, IntKind.signed, IntKind.bits, inK] using h2
theorem zRx {k : Nat} {e : TypeId} (hu : P.underlying t = some (.array k e)) (h : Shp P n t ds) : ds.length = P.cellsOf t ∧ ∃ m, ∀ i, i < k → Shp P m e ((ds.drop (i * P.cellsOf e)).take (P.cellsOf e)) := by
 cases n with
 | zero => exact h.elim
 | succ n =>
  simp only [Shp, hu] at h
  exact ⟨h.1, n, h.2⟩
end
theorem zL0 {P : Program} {w : World} {r : Reach} {base : Nat} {t : TypeId} {v : Value} {k : Nat} {e : TypeId} (ht : P.underlying t = some (.array k e)) (h : Value.okWide P w r base t v) : ∃ cs, v = .agg cs ∧ cs.size = P.cellsOf t := by
 simp only [Value.okWide, ht] at h
 obtain ⟨cs, h1, h2, _⟩ := h
 exact ⟨cs, h1, h2⟩
def ArgD (P : Program) (t : TypeId) (d : D) : Prop := ∃ n, if zCs P t then ∃ ds, d = .agg ds ∧ Shp P n t ds else Shp P n t [d]
section
variable {H : Type} {enc : TypeId × Value → H} {P : Program} {W : World}
theorem arg_rel {r : Reach} {b : Nat} {t : TypeId} {v : Value} {d : DataW H} {ps : List MemPlace} (hval : Value.okWide P W r b t v) (h : DataW.Trod enc P W 0 (fun _ => true) true t v d ps) {k : Nat} (hk : okS P k t = true) :
  ∃ x, Rel (allI W) W noB x v ∧ ArgD P t x := by
 obtain ⟨fuel, hf⟩ := h
 obtain ⟨ds, k1, k2⟩ := zPd fuel t _ _ _ hf (zK0 hk fuel)
 have one : v.cells = #[v] → zCs P t = false → ∃ x, Rel (allI W) W noB x v ∧ ArgD P t x := by
  intro hc ha
  rw [hc] at k1
  have hl := k1.length
  match ds, hl with
  | [x], _ =>
   simp only [RelL] at k1
   obtain ⟨u, us, e, _, k3, k4⟩ := k1
   simp only [List.cons.injEq] at e
   obtain ⟨rfl, rfl⟩ := e
   exact ⟨x, k3, fuel, by rw [if_neg (by simp [ha])]; exact k2⟩
 have many : (∃ cs, v = .agg cs) → zCs P t = true → ∃ x, Rel (allI W) W noB x v ∧ ArgD P t x := by
  rintro ⟨cs, rfl⟩ ha
  refine ⟨.agg ds, ?_, fuel, by rw [if_pos ha]; exact ⟨ds, rfl, k2⟩⟩
  simp only [Rel]
  exact ⟨cs.toList, by simp, by simpa [Value.cells] using k1⟩
 cases k with
 | zero => cases hk
 | succ k =>
  simp only [okS] at hk
  split at hk <;> rename_i hu
  ·obtain ⟨b, rfl⟩ := okWide_bool hu hval
   exact one rfl (by simp [zCs, hu])
  ·obtain ⟨b, rfl⟩ := okWide_int hu hval
   exact one rfl (by simp [zCs, hu])
  ·obtain ⟨b, rfl⟩ := okWide_string hu hval
   exact one rfl (by simp [zCs, hu])
  ·obtain ⟨a, l, c, rfl⟩ := okWide_slice hu hval
   exact one rfl (by simp [zCs, hu])
  ·obtain ⟨cs, rfl, _⟩ := okWide_struct hu hval
   exact many ⟨cs, rfl⟩ (by simp [zCs, hu])
  ·obtain ⟨cs, rfl, _⟩ := zL0 hu hval
   exact many ⟨cs, rfl⟩ (by simp [zCs, hu])
  ·cases hk
inductive ArgsD (P : Program) : List TypeId → List D → Prop
 | nil : ArgsD P [] []
 | cons {t : TypeId} {ts : List TypeId} {d : D} {ds : List D} : ArgD P t d → ArgsD P ts ds → ArgsD P (t :: ts) (d :: ds)
theorem zPz {r : Reach} {b k : Nat} : ∀ {ts : List TypeId} {vs : List Value} {ds : List (DataW H)} {ps : List MemPlace}, (∀ (j : Nat) t v, ts[j]? = some t → vs[j]? = some v → Value.okWide P W r b t v) → DataW.TrodAll enc P W 0 (fun _ => true) true ts vs ds ps → ts.all (okS P k) = true →
  ∃ xs, RelT (allI W) W noB xs vs ∧ ArgsD P ts xs
 | [], vs, ds, ps, hv, h, hk => by
  obtain ⟨rfl, _, _⟩ := trodAll_nil h
  exact ⟨[], by simp only [RelT], .nil⟩
 | t :: ts, vs, ds, ps, hv, h, hk => by
  obtain ⟨v, vs, d, ds, p, q, rfl, rfl, rfl, h1, h2⟩ := trodAll_cons h
  simp only [List.all_cons, Bool.and_eq_true] at hk
  obtain ⟨x, k1, k2⟩ := arg_rel (hv 0 t v rfl rfl) h1 hk.1
  obtain ⟨xs, k3, k4⟩ := zPz (fun j t v h1 h2 => hv (j + 1) t v (by simpa using h1) (by simpa using h2)) h2 hk.2
  exact ⟨x :: xs, by simp only [RelT]; exact ⟨v, vs, rfl, k1, k3⟩, .cons k2 k4⟩
theorem ArgsD.one {t : TypeId} {xs : List D} (h : ArgsD P [t] xs) : ∃ d, xs = [d] ∧ ArgD P t d := by
 cases h with | cons h1 h2 => cases h2; exact ⟨_, rfl, h1⟩
theorem ArgsD.more {t : TypeId} {ts : List TypeId} {xs : List D} (h : ArgsD P (t :: ts) xs) : ∃ d ds, xs = d :: ds ∧ ArgD P t d ∧ ArgsD P ts ds := by
 cases h with | cons h1 h2 => exact ⟨_, _, rfl, h1, h2⟩
theorem ArgD.agg {t : TypeId} {d : D} (h : ArgD P t d) (ha : zCs P t = true) : ∃ n ds, d = .agg ds ∧ Shp P n t ds := by
 obtain ⟨n, h⟩ := h
 rw [if_pos ha] at h
 exact ⟨n, h⟩
theorem ArgD.cell {t : TypeId} {d : D} (h : ArgD P t d) (ha : zCs P t = false) : ∃ n, Shp P n t [d] := by
 obtain ⟨n, h⟩ := h
 rw [if_neg (by simp [ha])] at h
 exact ⟨n, h⟩
theorem zG7 : ∀ {ts : List TypeId} {vs : List Value} {ds : List (DataW H)} {ps : List MemPlace}, DataW.TrodAll enc P W 0 (fun _ => true) true ts vs ds ps → ds.length = ts.length
 | [], vs, ds, ps, h => by
  obtain ⟨_, rfl, _⟩ := trodAll_nil h
  rfl
 | t :: ts, vs, ds, ps, h => by
  obtain ⟨v, vs, d, ds, p, q, rfl, rfl, rfl, h1, h2⟩ := trodAll_cons h
  rw [List.length_cons, List.length_cons, zG7 h2]
theorem zVl {fn : Func} {s : ChangeSpec} {f : FuncId} {bt : TypeId} {args : Array Value} {ds gs : List (DataW H)} {before : List MemPlace} {base : Nat} (k : Nat)
  (hl : laidOutB P = true) (hv : s.vars = []) (hrt : fn.resultTypes = #[bt]) (hbt : P.underlying bt = some .bool)
  (hr : fn.params.toList.all (fun t => P.readableRec t && decide (t < P.types.size)) = true) (hfn : ∀ ds, ds.length = fn.params.toList.length → s.fn H ds = { results := [.lit (.bool true)], args := ds })
  (hk : fn.params.toList.all (okS P k) = true)
  (hval : ∀ (j : Nat) t v, fn.params[j]? = some t → args[j]? = some v → Value.okWide P W .any base t v)
  (hW : DataW.Whole enc P fn.params.toList s.vars false W args.toList ds gs before)
  (hg : Gl (allI W) W) (main : ∀ xs, ArgsD P fn.params.toList xs → Pure P f xs [] (.val (.bool true))) :
  Calls P f args W fun e W' => ∃ v, e = .returned v ∧ s.post enc P fn false true false false W args v W' := by
 have hW' := hW
 obtain ⟨p, q, hA0, hV, rfl, hfz, hnd⟩ := hW
 rw [hv] at hV
 obtain ⟨rfl, rfl⟩ := trodVars_none hV
 have hA : DataW.TrodAll enc P W 0 (fun _ => true) true fn.params.toList args.toList ds p := hA0
 obtain ⟨xs, h1, h2⟩ := zPz (k := k) (r := .any) (b := base) (fun j t v k1 k2 => hval j t v (by simpa using k1) (by simpa using k2)) hA hk
 refine (main xs h2 (allI W) W args.toList h1 (fun b o h => h) hg).mono ?_
 rintro e W' ⟨v, I', γ, rfl, hx, _, _, _, _, _, _, _, _, hr', _⟩
 simp only [Rel] at hr'
 subst hr'
 exact ⟨_, rfl, zR3 (bt := bt) hl hv hrt hbt hr (hfn ds (zG7 hA)) hW' hx⟩
end
end
section
open Go.RowKit
def Tz : Par := ⟨fun _ => false, fun _ _ => none, fun _ => false, fun _ => false, fun _ => false⟩
theorem zAo : zBi Tryz.prog Tz := by intro t n f h; cases h
theorem mixed : Tryz.prog.follows .mixedOrders = true := by kernel_rfl
theorem zGw {I : Im} {w : World} {β : Be} : ∀ (us vs : List Value), RelT I w β (us.map .val) vs → vs = us
 | [], vs, h => by simpa only [List.map_nil, RelT] using h
 | u :: us, vs, h => by
  simp only [List.map_cons, RelT, Rel] at h
  obtain ⟨v, vs', rfl, rfl, h⟩ := h
  rw [zGw us vs' h]
theorem zD0 {P : Program} {f : FuncId} {us : List Value} {v : Value} (h : ∀ w, Calls P f us.toArray w fun e w' => e = .returned v ∧ w = w') : Pure P f (us.map .val) [] (.val v) := by
 intro I w vs hr hi hg
 rw [zGw us vs hr]
 refine (h w).mono ?_
 rintro e w' ⟨rfl, rfl⟩
 exact ⟨v, I, noB, rfl, Ext.refl _, hi, Fix.refl _ _, fun _ _ h => .inl h, fun _ _ _ h => (by cases h), fun _ _ _ h => (by cases h), fun _ _ _ _ _ h => (by cases h), fun _ _ _ _ _ h => (by cases h), fun _ _ h => (by cases h), by simp only [Rel], by simp⟩
theorem zEj {P : Program} {f : FuncId} {args : List D} {e : TypeId} {sz : Nat} (h : ∀ I w vs, RelT I w noB args vs → Calls P f vs.toArray w fun x w' => (x = .returned (.slice none 0 0) ∧ Ext w w') ∨ ∃ (g : Nat) (cur : List Value) (cap : Nat), x = .returned (.slice (some ⟨g, 0, none⟩) 0 cap) ∧ w.heap.size ≤ g ∧ Ext w w' ∧ w'.heap[g]? = some (.cells cur.toArray e (0, 0)) ∧ cur.length = cap * sz ∧ cap ≤ maxLen) :
  Pure P f args [⟨[], e, sz, true, false, .plain⟩] (.osl 0 0 0 0 true) := by
 intro I w vs hr hi hg
 refine (h I w vs hr).mono ?_
 rintro x w' (⟨rfl, he⟩ | ⟨g, cur, cap, rfl, hgs, he, h1, h2, h3⟩)
 ·exact ⟨_, I, noB, rfl, he, fun b o hb => Nat.lt_of_lt_of_le (hi b o hb) he.size, Fix.ext he fun _ _ h => h, fun _ _ h => .inl h, fun _ _ _ h => (by cases h), fun _ _ _ h => (by cases h), fun _ _ _ _ _ h => (by cases h), fun _ _ _ _ _ h => (by cases h), fun _ _ h => (by cases h), by rw [Rel]; exact .inl ⟨rfl, rfl, rfl⟩, by simp⟩
 ·have hg : ∀ k y, (if k = 0 then some (g, cap) else none : Option (Nat × Nat)) = some y → k = 0 ∧ y = (g, cap) := by
   intro k y hy
   split at hy
   ·exact ⟨by assumption, by cases hy; rfl⟩
   ·cases hy
  refine ⟨_, I, fun k => if k = 0 then some (g, cap) else none, rfl, he, fun b o hb => Nat.lt_of_lt_of_le (hi b o hb) he.size, Fix.ext he fun _ _ h => h, fun _ _ h => .inl h, ?_, ?_, ?_, ?_, ?_, ?_, by simp⟩
  ·intro k b c hk
   obtain ⟨_, e⟩ := hg k _ hk
   cases e; exact hgs
  ·intro k b c hk
   obtain ⟨rfl, e⟩ := hg k _ hk
   cases e
   exact ⟨_, rfl, OwnC.r ⟨cur, h1, Nat.zero_le _, by simp only [List.length_nil, List.take_zero, RelL], fun _ => h2, h3⟩ rfl⟩
  ·intro k k' b c c' hk hk'
   rw [(hg k _ hk).1, (hg k' _ hk').1]
  ·intro k b c j e hk hE hI
   obtain ⟨rfl, e'⟩ := hg k _ hk
   cases e'
   exact absurd (hi _ _ hI) (by omega)
  ·intro k y hk
   rw [(hg k _ hk).1]; simp
  ·rw [Rel]
   exact .inr (.inr ⟨_, _, cap, if_pos rfl, rfl, Nat.zero_le _, h3, fun _ => ⟨rfl, rfl⟩⟩)
theorem zVr : (Tryz.prog.info? 36).map (fun i => (i.zero, i.size, i.bytes)) = some (some (.int .u32 0), 1, 4) := by kernel_rfl
set_option maxHeartbeats 400000 in
theorem zQy : Pure Tryz.prog 101 [.row [] 0] [⟨[], 36, 1, true, false, .plain⟩] (.osl 0 0 0 0 true) := by
 refine zEj fun I w vs hr => ?_
 simp only [RelT, Rel] at hr
 obtain ⟨v, ys, rfl, ⟨a, c, rfl, _, _, hc, _⟩, rfl⟩ := hr
 cases a with
 | none =>
  obtain rfl := hc rfl
  have he := fun (w : World) => Lib.run_eql_slice_nil (P := Tryz.prog) w 44 36 none 0 0 0 0 Tryz.underlying44
  go_enter Tryz.func101, Tryz.ntmps101
  go_wp2
  go_ret
  exact .inl ⟨rfl, Ext.refl _⟩
 | some x =>
  obtain ⟨i0, hi, hz0, hz1, hz2⟩ := info_parts zVr
  have he := fun (w : World) => Lib.run_eql_slice_nil (P := Tryz.prog) w 44 36 (some x) 0 c 0 0 Tryz.underlying44
  have hS : RowAt (fun _ => True) w (some x) [] := .inl rfl
  go_enter Tryz.func101, Tryz.ntmps101
  go_wp2_with (at_builtin; refine zA9 rfl _ _ 44 rfl w.heap.size 36 i0 (.int .u32 0) 1 4 Tryz.underlying44 hi hz0 hz1 hz2 rfl (by decide) (.slice (some ⟨w.heap.size, 0, none⟩) 0 0) 0 [] rfl (World.ownsRow_made _ #[] 0 (Nat.le_refl _) (Nat.zero_le _) rfl) (some x) 0 c [] rfl (by simp) (hS.ext (Ext.alloc _ _)) (by simp) (by simp) (by decide) (by decide) (by simp) ?_; intro v' w' hown hgrow)
  go_ret
  have hext : Ext w w' := ((Below.refl _ _).alloc (Nat.le_refl _) _).grown hgrow (by simp) (by simp [Value.ownBlock])
  obtain ⟨_, ⟨rfl, _⟩ | ⟨g, cap, cur, rfl, hb, hg, _, hc1, hs, _⟩⟩ := hown
  ·exact .inl ⟨rfl, hext⟩
  ·exact .inr ⟨g, cur.toList, cap, rfl, hb, hext, by rw [Array.toArray_toList]; exact hg, by simpa using hs, hc1⟩
theorem zQr : (Tryz.prog.info? 4).map (fun i => (i.zero, i.size, i.bytes)) = some (some (.bool false), 1, 1) := by kernel_rfl
set_option maxHeartbeats 400000 in
theorem zMo : Pure Tryz.prog 75 [.row [] 0] [⟨[], 4, 1, true, false, .plain⟩] (.osl 0 0 0 0 true) := by
 refine zEj fun I w vs hr => ?_
 simp only [RelT, Rel] at hr
 obtain ⟨v, ys, rfl, ⟨a, c, rfl, _, _, hc, _⟩, rfl⟩ := hr
 cases a with
 | none =>
  obtain rfl := hc rfl
  have he := fun (w : World) => Lib.run_eql_slice_nil (P := Tryz.prog) w 22 4 none 0 0 0 0 Tryz.underlying22
  go_enter Tryz.func75, Tryz.ntmps75
  go_wp2
  go_ret
  exact .inl ⟨rfl, Ext.refl _⟩
 | some x =>
  obtain ⟨i0, hi, hz0, hz1, hz2⟩ := info_parts zQr
  have he := fun (w : World) => Lib.run_eql_slice_nil (P := Tryz.prog) w 22 4 (some x) 0 c 0 0 Tryz.underlying22
  have hS : RowAt (fun _ => True) w (some x) [] := .inl rfl
  go_enter Tryz.func75, Tryz.ntmps75
  go_wp2_with (at_builtin; refine zA9 rfl _ _ 22 rfl w.heap.size 4 i0 (.bool false) 1 1 Tryz.underlying22 hi hz0 hz1 hz2 rfl (by decide) (.slice (some ⟨w.heap.size, 0, none⟩) 0 0) 0 [] rfl (World.ownsRow_made _ #[] 0 (Nat.le_refl _) (Nat.zero_le _) rfl) (some x) 0 c [] rfl (by simp) (hS.ext (Ext.alloc _ _)) (by simp) (by simp) (by decide) (by decide) (by simp) ?_; intro v' w' hown hgrow)
  go_ret
  have hext : Ext w w' := ((Below.refl _ _).alloc (Nat.le_refl _) _).grown hgrow (by simp) (by simp [Value.ownBlock])
  obtain ⟨_, ⟨rfl, _⟩ | ⟨g, cap, cur, rfl, hb, hg, _, hc1, hs, _⟩⟩ := hown
  ·exact .inl ⟨rfl, hext⟩
  ·exact .inr ⟨g, cur.toList, cap, rfl, hb, hext, by rw [Array.toArray_toList]; exact hg, by simpa using hs, hc1⟩
theorem zSp : (Tryz.prog.info? 54).map (fun i => (i.zero, i.size, i.bytes)) = some (some (.slice none 0 0), 1, 24) := by kernel_rfl
set_option maxHeartbeats 400000 in
theorem clone0_rows : Pure Tryz.prog 92 [.row [] 0] [⟨[], 54, 1, true, false, .plain⟩] (.osl 0 0 0 0 true) := by
 refine zEj fun I w vs hr => ?_
 simp only [RelT, Rel] at hr
 obtain ⟨v, ys, rfl, ⟨a, c, rfl, _, _, hc, _⟩, rfl⟩ := hr
 cases a with
 | none =>
  obtain rfl := hc rfl
  have he := fun (w : World) => Lib.run_eql_slice_nil (P := Tryz.prog) w 65 54 none 0 0 0 0 Tryz.underlying65
  go_enter Tryz.func92, Tryz.ntmps92
  go_wp2
  go_ret
  exact .inl ⟨rfl, Ext.refl _⟩
 | some x =>
  obtain ⟨i0, hi, hz0, hz1, hz2⟩ := info_parts zSp
  have he := fun (w : World) => Lib.run_eql_slice_nil (P := Tryz.prog) w 65 54 (some x) 0 c 0 0 Tryz.underlying65
  have hS : RowAt (fun _ => True) w (some x) [] := .inl rfl
  go_enter Tryz.func92, Tryz.ntmps92
  go_wp2_with (at_builtin; refine zA9 rfl _ _ 65 rfl w.heap.size 54 i0 (.slice none 0 0) 1 24 Tryz.underlying65 hi hz0 hz1 hz2 rfl (by decide) (.slice (some ⟨w.heap.size, 0, none⟩) 0 0) 0 [] rfl (World.ownsRow_made _ #[] 0 (Nat.le_refl _) (Nat.zero_le _) rfl) (some x) 0 c [] rfl (by simp) (hS.ext (Ext.alloc _ _)) (by simp) (by simp) (by decide) (by decide) (by simp) ?_; intro v' w' hown hgrow)
  go_ret
  have hext : Ext w w' := ((Below.refl _ _).alloc (Nat.le_refl _) _).grown hgrow (by simp) (by simp [Value.ownBlock])
  obtain ⟨_, ⟨rfl, _⟩ | ⟨g, cap, cur, rfl, hb, hg, _, hc1, hs, _⟩⟩ := hown
  ·exact .inl ⟨rfl, hext⟩
  ·exact .inr ⟨g, cur.toList, cap, rfl, hb, hext, by rw [Array.toArray_toList]; exact hg, by simpa using hs, hc1⟩
theorem zVq : (Tryz.prog.info? 64).map (fun i => (i.zero, i.size, i.bytes)) = some (some (.agg #[.int .i64 0, .int .i64 0, .string ByteArray.empty]), 3, 32) := by kernel_rfl
set_option maxHeartbeats 400000 in
theorem clone0_row : Pure Tryz.prog 100 [.row [] 0] [⟨[], 64, 3, true, false, .plain⟩] (.osl 0 0 0 0 true) := by
 refine zEj fun I w vs hr => ?_
 simp only [RelT, Rel] at hr
 obtain ⟨v, ys, rfl, ⟨a, c, rfl, _, _, hc, _⟩, rfl⟩ := hr
 cases a with
 | none =>
  obtain rfl := hc rfl
  have he := fun (w : World) => Lib.run_eql_slice_nil (P := Tryz.prog) w 54 64 none 0 0 0 0 Tryz.underlying54
  go_enter Tryz.func100, Tryz.ntmps100
  go_wp2
  go_ret
  exact .inl ⟨rfl, Ext.refl _⟩
 | some x =>
  obtain ⟨i0, hi, hz0, hz1, hz2⟩ := info_parts zVq
  have he := fun (w : World) => Lib.run_eql_slice_nil (P := Tryz.prog) w 54 64 (some x) 0 c 0 0 Tryz.underlying54
  have hS : RowAt (fun _ => True) w (some x) [] := .inl rfl
  go_enter Tryz.func100, Tryz.ntmps100
  go_wp2_with (at_builtin; refine zA9 rfl _ _ 54 rfl w.heap.size 64 i0 (.agg #[.int .i64 0, .int .i64 0, .string ByteArray.empty]) 3 32 Tryz.underlying54 hi hz0 hz1 hz2 rfl (by decide) (.slice (some ⟨w.heap.size, 0, none⟩) 0 0) 0 [] rfl (World.ownsRow_made _ #[] 0 (Nat.le_refl _) (Nat.zero_le _) rfl) (some x) 0 c [] rfl (by simp) (hS.ext (Ext.alloc _ _)) (by simp) (by simp) (by decide) (by decide) (by simp) ?_; intro v' w' hown hgrow)
  go_ret
  have hext : Ext w w' := ((Below.refl _ _).alloc (Nat.le_refl _) _).grown hgrow (by simp) (by simp [Value.ownBlock])
  obtain ⟨_, ⟨rfl, _⟩ | ⟨g, cap, cur, rfl, hb, hg, _, hc1, hs, _⟩⟩ := hown
  ·exact .inl ⟨rfl, hext⟩
  ·exact .inr ⟨g, cur.toList, cap, rfl, hb, hext, by rw [Array.toArray_toList]; exact hg, by simpa using hs, hc1⟩
theorem zSq : (Tryz.prog.info? 99).map (fun i => (i.zero, i.size, i.bytes)) = some (some (.agg #[.int .i64 0, .int .u32 0, .int .i64 0]), 3, 24) := by kernel_rfl
set_option maxHeartbeats 400000 in
theorem zNx : Pure Tryz.prog 78 [.row [] 0] [⟨[], 99, 3, true, false, .plain⟩] (.osl 0 0 0 0 true) := by
 refine zEj fun I w vs hr => ?_
 simp only [RelT, Rel] at hr
 obtain ⟨v, ys, rfl, ⟨a, c, rfl, _, _, hc, _⟩, rfl⟩ := hr
 cases a with
 | none =>
  obtain rfl := hc rfl
  have he := fun (w : World) => Lib.run_eql_slice_nil (P := Tryz.prog) w 40 99 none 0 0 0 0 Tryz.underlying40
  go_enter Tryz.func78, Tryz.ntmps78
  go_wp2
  go_ret
  exact .inl ⟨rfl, Ext.refl _⟩
 | some x =>
  obtain ⟨i0, hi, hz0, hz1, hz2⟩ := info_parts zSq
  have he := fun (w : World) => Lib.run_eql_slice_nil (P := Tryz.prog) w 40 99 (some x) 0 c 0 0 Tryz.underlying40
  have hS : RowAt (fun _ => True) w (some x) [] := .inl rfl
  go_enter Tryz.func78, Tryz.ntmps78
  go_wp2_with (at_builtin; refine zA9 rfl _ _ 40 rfl w.heap.size 99 i0 (.agg #[.int .i64 0, .int .u32 0, .int .i64 0]) 3 24 Tryz.underlying40 hi hz0 hz1 hz2 rfl (by decide) (.slice (some ⟨w.heap.size, 0, none⟩) 0 0) 0 [] rfl (World.ownsRow_made _ #[] 0 (Nat.le_refl _) (Nat.zero_le _) rfl) (some x) 0 c [] rfl (by simp) (hS.ext (Ext.alloc _ _)) (by simp) (by simp) (by decide) (by decide) (by simp) ?_; intro v' w' hown hgrow)
  go_ret
  have hext : Ext w w' := ((Below.refl _ _).alloc (Nat.le_refl _) _).grown hgrow (by simp) (by simp [Value.ownBlock])
  obtain ⟨_, ⟨rfl, _⟩ | ⟨g, cap, cur, rfl, hb, hg, _, hc1, hs, _⟩⟩ := hown
  ·exact .inl ⟨rfl, hext⟩
  ·exact .inr ⟨g, cur.toList, cap, rfl, hb, hext, by rw [Array.toArray_toList]; exact hg, by simpa using hs, hc1⟩
end
section
open Go.RowKit
section
variable {P : Program} {I : Im} {w : World} {β : Be} {sl : List D} {st : List Bk} {tm : List Value}
theorem Fix.drew (I : Im) (w : World) (q : Nat) : Fix I w I (w.drewN q) := fun b o h => ⟨h, fun v hv => hv, fun _ _ h => h⟩
theorem Sim.drew (h : Sim β I w sl st tm) (q : Nat) : Sim β I (w.drewN q) sl st tm := by
 refine ⟨RelT.mono (Fix.drew I w q) β β (BeLe.refl _) _ _ h.rel, fun k b c hk => ?_, h.inj, h.fz, h.dom, h.imb, h.gl.mono (Fix.drew I w q)⟩
 obtain ⟨e, h1, h2⟩ := h.sr k b c hk
 exact ⟨e, h1, OwnRel.mono h2 rfl (Fix.drew I w q) (BeLe.refl _)⟩
theorem Stp.drew (β : Be) (I : Im) (w : World) (q : Nat) : Stp β I w β I (w.drewN q) := ⟨Fix.drew _ _ _, Nat.le_refl _, fun _ _ _ => rfl, rfl, rfl, rfl, fun k b c h => .inl ⟨k, c, h⟩, fun _ _ h => .inl h⟩
theorem zLu {β : Be} : ∀ {us vs : List Value}, RelL I w β (us.map .val) vs → vs = us
 | [], vs, h => by simpa only [List.map_nil, RelL] using h
 | u :: us, vs, h => by
  simp only [List.map_cons, RelL, Rel] at h
  obtain ⟨v, vs', rfl, _, rfl, h⟩ := h
  rw [zLu h]
theorem zGl {β : Be} : ∀ {us : List Value}, (∀ v ∈ us, v.oneCell' = true) → RelL I w β (us.map .val) us
 | [], h => by simp only [List.map_nil, RelL]
 | u :: us, h => by
  simp only [List.map_cons, RelL, Rel]
  exact ⟨u, us, rfl, h u (List.mem_cons_self ..), rfl, zGl fun v hv => h v (List.mem_cons_of_mem _ hv)⟩
end
end
section
open Go.RowKit Go.Shelf Go.Lib
theorem zLy {P : Program} {f : FuncId} {us : List Value} {v : Value} (h : ∀ I w, Gl I w → Calls P f us.toArray w fun e w' => e = .returned v ∧ w = w') : Pure P f (us.map .val) [] (.val v) := by
 intro I w vs hr hi hg
 rw [zGw us vs hr]
 refine (h I w hg).mono ?_
 rintro e w' ⟨rfl, rfl⟩
 exact ⟨v, I, noB, rfl, Ext.refl _, hi, Fix.refl _ _, fun _ _ h => .inl h, fun _ _ _ h => (by cases h), fun _ _ _ h => (by cases h), fun _ _ _ _ _ h => (by cases h), fun _ _ _ _ _ h => (by cases h), fun _ _ h => (by cases h), by simp only [Rel], by simp⟩
section
variable {P : Program} {I : Im} {w : World} {β : Be} {st : List Bk}
theorem zJ2 : ∀ (ys xs pre zs : List D), xs.length = ys.length → setAt (pre ++ xs ++ zs) pre.length ys = pre ++ ys ++ zs
 | [], xs, pre, zs, hl => by
  obtain rfl : xs = [] := List.eq_nil_of_length_eq_zero (by simpa using hl)
  rfl
 | y :: ys, [], pre, zs, hl => by simp at hl
 | y :: ys, x :: xs, pre, zs, hl => by
  simp only [setAt]
  have e1 : (pre ++ x :: xs ++ zs).set pre.length y = (pre ++ [y]) ++ xs ++ zs := by simp
  rw [e1]
  have := zJ2 ys xs (pre ++ [y]) zs (by simpa using hl)
  simp only [List.length_append, List.length_cons, List.length_nil] at this
  rw [this]; simp
theorem zTx {f : FuncId} {k n : Nat} {e : Bk} {wh : Bool} {us vs : List Value} {margs : List D} {more : List Value} (hmore : ∀ I w β vs, RelT I w β margs vs → vs = more) (he : st[k]? = some e) (hkd : e.kd.isMap = false) (hf : e.fz = false) (hc : e.cells.take n = us.map .val) (hn : n ≤ e.cells.length) (hu : us.length = n) (hv : vs.length = n) (h1 : ∀ v ∈ vs, v.oneCell' = true) (hpos : 0 < n)
  (h : ∀ b c w, (∀ j, j < n → w.cell? ⟨b, 0 + j, none⟩ = some (us.getD j undef)) → (∀ j, j < n → w.frozen? ⟨b, 0 + j, none⟩ = false) → n ≤ c → Calls P f (#[.slice (some ⟨b, 0, none⟩) n c] ++ more.toArray) w fun x w' => x = .returned (.tuple #[]) ∧ ∃ q, w' = (w.drewN q).setCells b 0 vs) :
  Acts P f (.osl k 0 n n wh :: margs) st [] (.val (.tuple #[])) (st.set k { e with cells := vs.map .val ++ e.cells.drop n }) := by
 intro β I w xs hr hsr hinj hfz hdom hi hg
 simp only [RelT] at hr
 obtain ⟨v, ys, rfl, hr, hys⟩ := hr
 obtain rfl := hmore _ _ _ _ hys
 simp only [Rel] at hr
 rcases hr with ⟨e0, _, rfl⟩ | ⟨e0, _, _, a, c, rfl, _⟩ | ⟨b, c, cap, hb, rfl, k1, k2, k3⟩
 ·omega
 ·omega
 have hs0 : Sim β I w ([] : List D) st ({ tmps := #[], defers := [] } : Act).tmps.toList := ⟨by simp only [RelT], hsr, hinj, hfz, hdom, hi, hg⟩
 obtain ⟨e', he', hown⟩ := hsr k b c hb
 rw [he] at he'; cases he'
 obtain ⟨cur, c1, c2, c3, c4⟩ := hown.c hkd
 have hul : (cur.take n) = us := by
  have hx : RelL I w (if e.nob then noB else β) (e.cells.take n) (cur.take n) := by
   refine RelL.of_get (by simp; omega) fun i d v hd hv => ?_
   rw [List.getElem?_take] at hd hv
   split at hd
   ·rename_i hi
    rw [if_pos hi] at hv
    obtain ⟨v', k1, k2, k3⟩ := c3.get i d hd
    rw [List.getElem?_take, if_pos (by omega)] at k1
    rw [hv] at k1; cases k1
    exact ⟨k2, k3⟩
   ·cases hd
  rw [hc] at hx
  exact zLu hx
 have hpre := (hs0.put (off := 0) (cs := e.cells) (vs := cur.take e.cells.length) (ks := []) hb he hf hkd (by simp) (RelL.mono (zAt _) _ _ (BeLe.refl _) _ _ c3) (by simp) none undef).2.2
 have hlc : (cur.take e.cells.length).length = e.cells.length := c3.length.symm
 have e1 : (#[Value.slice (some ⟨b, 0, none⟩) n cap] ++ ys.toArray) = (Value.slice (some ⟨b, 0, none⟩) n cap :: ys).toArray := by apply Array.ext'; simp
 rw [← e1]
 refine (h b cap w (fun j hj => ?_) (fun j hj => (hpre j (by omega)).2) k1).mono ?_
 ·have hlt : j < cur.length := by omega
  rw [← hul, List.getD_eq_getElem?_getD, List.getElem?_take, if_pos hj, List.getElem?_eq_getElem hlt]
  simp [World.cell?, c1, hlt]
 ·rintro x w' ⟨rfl, q, rfl⟩
  obtain ⟨s1, s2, s3⟩ := (hs0.drew q).put (off := 0) (cs := vs.map .val) (vs := vs) (ks := []) hb he hf hkd (by simp) (zGl h1) (by simp; omega) none undef
  have hset2 : setAt e.cells 0 (vs.map .val) = vs.map .val ++ e.cells.drop n := by
   have := zJ2 (vs.map .val) (e.cells.take n) [] (e.cells.drop n) (by simp; omega)
   simpa [List.take_append_drop] using this
  rw [hset2] at s1
  exact ⟨_, β, _, rfl, s1.imb, (Stp.drew β I w q).trans s2, fun _ _ _ h => h, s1.sr, s1.inj, s1.fz, s1.dom, by simp only [Rel]⟩
end
theorem small_c (n : Nat) (h : n < 100) : Pure Tryz.prog 157 [.val (.int .i64 n)] [] (.val (.string ⟨(Lib.decDigits n).toArray⟩)) :=
 zD0 (us := [.int .i64 n]) fun w => (Tryz.internal_strconv_small n h w).mono fun e w' h => ⟨h.1, h.2.symm⟩
theorem zNc (u : Nat) (h1 : 1 ≤ u) (h2 : u < 18446744073709551616) : Pure Tryz.prog 158 [.val (.int .u64 u)] [] (.val (.int .i64 (Lib.nDigits u))) := by
 refine zLy (us := [.int .u64 u]) fun I w hG => ?_
 obtain ⟨hnd, h19⟩ := Lib.numDigits_eq u h1 h2
 have hL : Lib.bitLen u ≤ 64 := Lib.bitLen_le u 64 (Nat.le_refl _) h2
 have hcell : w.cell? ⟨1, Lib.l10 (Lib.bitLen u), none⟩ = some (.int .u64 ((10 ^ Lib.l10 (Lib.bitLen u) : Nat) : Int)) := by
  refine (hG (1, Lib.pow10Tab.map fun z => Value.int .u64 z) (by simp [globT]) (Lib.l10 (Lib.bitLen u)) _ ?_).2
  rw [List.getElem?_map, ← Lib.pow10Tab_at _ (by omega)]
  rw [List.getD_eq_getElem?_getD, List.getElem?_eq_getElem (by rw [Lib.pow10Tab_length]; omega)]
  rfl
 have hto : ((u : Int)).toNat = u := by omega
 generalize hq : Lib.l10 (Lib.bitLen u) = q at hnd h19 hcell
 generalize hT : 10 ^ q = T at hnd hcell
 have h20 : q < 20 := by omega
 have Hnd := Lib.hid hnd
 clear hnd
 clear hG
 go_enter Tryz.func158, Tryz.ntmps158
 go_wp2_with fail
 refine (Tryz.bits_Len64 (u : Int) w (by omega) (by omega)).mono ?_
 rintro e w' ⟨rfl, rfl⟩
 rw [hto]
 go_wp2_with fail
 refine (Tryz.internal_strconv_log10Pow2 _ hL _).mono ?_
 rintro e w' ⟨rfl, rfl⟩
 rw [hq]
 go_wp2_with fail
 all_goals (
  refine (Tryz.internal_strconv_bool2_int _ _).mono ?_
  rintro e w' ⟨rfl, rfl⟩)
 all_goals go_wp2_with fail
 all_goals go_ret
 all_goals (
  refine ⟨?_, rfl⟩
  have hnd := Hnd.out
  congr 2
  split at hnd <;> simp_all <;> omega)
open Go.Sort in
theorem zNp {st : List Bk} {k u n : Nat} {e : Bk} {wh : Bool} (hn : n = Lib.nDigits u) (he : st[k]? = some e) (hkd : e.kd.isMap = false) (hf : e.fz = false) (hc : e.cells.take n = List.replicate n (.val (.int .u8 0))) (hl : n ≤ e.cells.length) (hu : u < 18446744073709551616) :
  Acts Tryz.prog 159 [.osl k 0 n n wh, .val (.int .u64 u)] st [] (.val (.tuple #[])) (st.set k { e with cells := (Lib.byteCells (Lib.decDigits u)).map .val ++ e.cells.drop n }) := by
 have hpos : 0 < n := by rw [hn]; unfold Lib.nDigits; split <;> omega
 have hdl : (Lib.decDigits u).length = n := by rw [Lib.decDigits_length, hn]
 refine zTx (us := List.replicate n (.int .u8 0)) (more := [.int .u64 u]) (fun I w β vs h => ?_) he hkd hf (by rw [hc, List.map_replicate]) hl (by simp) (by rw [Lib.byteCells_length, hdl]) (fun v hv => ?_) hpos (fun b c w h1 h2 h3 => ?_)
 ·exact zGw [.int .u64 u] vs h
 ·obtain ⟨x, _, rfl⟩ := List.mem_map.1 hv; rfl
 ·have hH : Holds (fun (b : UInt8) => Value.int .u8 (b.toNat : Int)) w b 0 (Array.replicate n (0 : UInt8)) := fun j hj => by
   have hj' : j < n := by simpa using hj
   refine ⟨?_, h2 j hj'⟩
   rw [h1 j hj', List.getD_eq_getElem?_getD, List.getElem?_replicate, if_pos hj', getElem!_pos _ j hj]
   simp
  have main := Tryz.internal_strconv_formatBase10 b 0 c u (Array.replicate n (0 : UInt8)) w hH (by
   rw [Array.size_replicate, hn]
   exact Lib.lt_pow_nDigits u) hu (by
   rw [Array.size_replicate, hn]
   have := Lib.nDigits_le20 u hu; omega)
  rw [Array.size_replicate] at main
  refine main.mono ?_
  rintro x w' ⟨rfl, q, v', dk, rfl, hfm⟩
  refine ⟨rfl, q, ?_⟩
  have hsz := hfm.size
  have hdk : dk.toList = Lib.decDigits u := by
   apply List.ext_getElem
   ·rw [Array.length_toList, hsz, hdl]
   ·intro j a b'
    subst hn
    rw [Lib.row_is_numeral hfm j b', Array.getElem_toList, getElem!_pos dk j (by simpa using a)]
  have := Lib.putRow_eq_setCells (fun (b : UInt8) => Value.int .u8 (b.toNat : Int)) w b 0 (Array.replicate n (0 : UInt8)) dk.toList q hH (by simp [hsz])
  rw [hdk] at this
  rw [show (Lib.decDigits u).toArray = dk by rw [← hdk]] at this
  exact this
end
section
open Go.RowKit
def bs (l : List UInt8) : ByteArray := ⟨l.toArray⟩
theorem zTh (l : List UInt8) : (bs l).toList = l := by rw [ByteArray.toList_eq]; rfl
structure Va where
 kind : Int
 int : Int
 str : List UInt8
 deriving DecidableEq, Inhabited
abbrev strD (l : List UInt8) : D := .val (.string (bs l))
abbrev vaC (v : Va) : List D := [.val (.int .i64 v.kind), .val (.int .i64 v.int), strD v.str]
abbrev vaD (v : Va) : D := .agg (vaC v)
def zM (r : List Va) : List D := r.flatMap vaC
theorem zGf (r : List Va) : (zM r).length = r.length * 3 := by
 induction r with
 | nil => rfl
 | cons v r ih => simp only [zM, List.flatMap_cons, List.length_append] at ih ⊢; rw [ih]; simp; omega
theorem zNz (r : List Va) (i : Nat) : (zM r).drop (i * 3) = zM (r.drop i) := by
 induction r generalizing i with
 | nil => simp [zM]
 | cons v r ih =>
  cases i with
  | zero => simp
  | succ i =>
   have : zM (v :: r) = vaC v ++ zM r := rfl
   rw [this, show (i + 1) * 3 = 3 + i * 3 by omega, ← List.drop_drop]
   have h2 : (vaC v ++ zM r).drop 3 = zM r := rfl
   rw [h2, ih]; rfl
theorem zTc (r : List Va) (i : Nat) (h : i < r.length) : (zM r).drop (i * 3) = vaC (r.getD i default) ++ zM (r.drop (i + 1)) := by
 rw [zNz, List.drop_eq_getElem_cons h, List.getD_eq_getElem?_getD, List.getElem?_eq_getElem h]; rfl
theorem zKm (r : List Va) (i : Nat) (h : i < r.length) : ((zM r).drop (i * 3)).take 3 = vaC (r.getD i default) := by rw [zTc r i h]; rfl
theorem zT7 (r : List Va) (h : 0 < r.length) : zM r ≠ [] := fun e => by
 have := zGf r
 rw [e] at this; simp at this; omega
def vcmp (a b : Va) : Int := if a.kind ≠ b.kind then cmpD a.kind b.kind else if a.int ≠ b.int then cmpD a.int b.int else Lib.compareBytes a.str b.str
def rcmp : List Va → List Va → Int
 | [], [] => 0
 | [], _ :: _ => -1
 | _ :: _, [] => 1
 | a :: r, b :: s => if vcmp a b = 0 then rcmp r s else vcmp a b
theorem zDp (a b : Int) : (cmpD a b = -1 ∧ a < b) ∨ (cmpD a b = 0 ∧ a = b) ∨ (cmpD a b = 1 ∧ b < a) := by
 unfold cmpD
 split
 ·exact .inl ⟨rfl, by assumption⟩
 ·split
  ·exact .inr (.inr ⟨rfl, by assumption⟩)
  ·exact .inr (.inl ⟨rfl, by omega⟩)
theorem zTd : ∀ (a b : List UInt8), (Lib.compareBytes a b = -1 ∨ Lib.compareBytes a b = 0 ∨ Lib.compareBytes a b = 1) ∧ (Lib.compareBytes a b = 0 ↔ a = b) ∧ Lib.compareBytes b a = - Lib.compareBytes a b
 | [], [] => by simp [Lib.compareBytes]
 | [], _ :: _ => by simp [Lib.compareBytes]
 | _ :: _, [] => by simp [Lib.compareBytes]
 | a :: ar0, b :: bs => by
  obtain ⟨h1, h2, h3⟩ := zTd ar0 bs
  simp only [Lib.compareBytes]
  by_cases k1 : a < b
  ·have k2 : ¬ b < a := by intro h; exact absurd (UInt8.lt_trans k1 h) (UInt8.lt_irrefl a)
   have k3 : a ≠ b := fun e => by rw [e] at k1; exact UInt8.lt_irrefl b k1
   simp [k1, k2, k3]
  ·by_cases k2 : b < a
   ·have k3 : a ≠ b := fun e => by rw [e] at k2; exact UInt8.lt_irrefl b k2
    simp [k1, k2, k3]
   ·have k3 : a = b := UInt8.le_antisymm (UInt8.not_lt.1 k2) (UInt8.not_lt.1 k1)
    subst k3
    simp only [k1, if_false]
    exact ⟨h1, by rw [h2]; simp, h3⟩
theorem zFl (a b : Va) : (vcmp a b = -1 ∨ vcmp a b = 0 ∨ vcmp a b = 1) ∧ (vcmp a b = 0 ↔ a = b) ∧ vcmp b a = - vcmp a b := by
 obtain ⟨ak, ai, ar0⟩ := a
 obtain ⟨bk, bi, bs⟩ := b
 obtain ⟨c1, c2, c3⟩ := zTd ar0 bs
 simp only [vcmp]
 by_cases h1 : ak = bk
 ·subst h1
  by_cases h2 : ai = bi
  ·subst h2
   simp only [ne_eq, not_true_eq_false, if_false]
   exact ⟨c1, by rw [c2]; simp, c3⟩
  ·rcases zDp ai bi with ⟨k, l⟩ | ⟨k, l⟩ | ⟨k, l⟩
   ·have : cmpD bi ai = 1 := by rcases zDp bi ai with ⟨m, n⟩ | ⟨m, n⟩ | ⟨m, n⟩ <;> omega
    simp [h2, k, this, Ne.symm h2]
   ·exact absurd l h2
   ·have : cmpD bi ai = -1 := by rcases zDp bi ai with ⟨m, n⟩ | ⟨m, n⟩ | ⟨m, n⟩ <;> omega
    simp [h2, k, this, Ne.symm h2]
 ·rcases zDp ak bk with ⟨k, l⟩ | ⟨k, l⟩ | ⟨k, l⟩
  ·have : cmpD bk ak = 1 := by rcases zDp bk ak with ⟨m, n⟩ | ⟨m, n⟩ | ⟨m, n⟩ <;> omega
   simp [h1, k, this, Ne.symm h1]
  ·exact absurd l h1
  ·have : cmpD bk ak = -1 := by rcases zDp bk ak with ⟨m, n⟩ | ⟨m, n⟩ | ⟨m, n⟩ <;> omega
   simp [h1, k, this, Ne.symm h1]
theorem zHj : ∀ (a b : List Va), (rcmp a b = -1 ∨ rcmp a b = 0 ∨ rcmp a b = 1) ∧ (rcmp a b = 0 ↔ a = b) ∧ rcmp b a = - rcmp a b
 | [], [] => by simp [rcmp]
 | [], _ :: _ => by simp [rcmp]
 | _ :: _, [] => by simp [rcmp]
 | a :: r, b :: s => by
  obtain ⟨h1, h2, h3⟩ := zHj r s
  obtain ⟨k1, k2, k3⟩ := zFl a b
  simp only [rcmp, k3]
  by_cases hv : vcmp a b = 0
  ·have := k2.1 hv
   subst this
   simp only [hv, Int.neg_zero, if_true]
   exact ⟨h1, by rw [h2]; simp, h3⟩
  ·have hne : a ≠ b := fun e => hv (k2.2 e)
   have : ¬ (- vcmp a b = 0) := by omega
   rw [if_neg hv, if_neg this]
   exact ⟨k1, ⟨fun h => absurd h hv, fun h => by cases h; exact absurd rfl hne⟩, rfl⟩
theorem zLn (i : Nat) (a b : List Va) (ha : i < a.length) (hb : i < b.length) (h : a.take i = b.take i) (hv : vcmp (a.getD i default) (b.getD i default) = 0) : a.take (i + 1) = b.take (i + 1) := by
 have := (zFl _ _).2.1.1 hv
 rw [List.take_succ_eq_append_getElem ha, List.take_succ_eq_append_getElem hb, h]
 simp only [List.getD_eq_getElem?_getD, List.getElem?_eq_getElem ha, List.getElem?_eq_getElem hb, Option.getD_some] at this
 rw [this]
def vok (v : Va) : Bool := if v.kind = 1 then v.str.isEmpty else if v.kind = 2 then v.int = 0 && v.str.length ≤ 24 else false
end
section
open Go.RowKit
def only (β : Be) (k : Nat) : Be := fun j => if j = 0 then β k else none
def Bk.free (e : Bk) : Prop := e.nob = true ∨ ∀ j, zDd j e.cells = false
theorem Bk.free.own {e : Bk} (h : e.free) {I : Im} {w : World} {β β' : Be} {b c : Nat} (ho : OwnRel I w β b c e) : OwnRel I w β' b c e :=
 ho.congr fun hn k x hr _ => by
  rcases h with h | h
  ·rw [h] at hn; cases hn
  ·rw [h k] at hr; cases hr
theorem Acts.atG {P : Program} {f : FuncId} {args1 args : List D} {e e' : Bk} {x : D} {st : List Bk} (k : Nat) (h : Acts P f args1 [e] [] x [e']) (he : st[k]? = some e) (ha : e.free) (ha' : e'.free)
  (hargs : ∀ I w β vs, RelT I w β args vs → RelT I w (only β k) args1 vs) : Acts P f args st [] (zBa k x) (st.set k e') := by
 intro β I w vs hr hsr hinj hfz hdom hi hg
 have o0 : ∀ {j : Nat} {y : Nat × Nat}, only β k j = some y → j = 0 ∧ β k = some y := fun {j y} hj => by
  simp only [only] at hj
  split at hj
  ·rename_i h0; exact ⟨h0, hj⟩
  ·cases hj
 have hk : k < st.length := (List.getElem?_eq_some_iff.1 he).1
 have hsr1 : SR (only β k) I w [e] := fun j b c hj => by
  obtain ⟨rfl, hb⟩ := o0 hj
  obtain ⟨e0, h1, h2⟩ := hsr k b c hb
  rw [he] at h1; cases h1
  exact ⟨e, rfl, ha.own h2⟩
 have hinj1 : Inj (only β k) := fun j j' b c c' h1 h2 => by rw [(o0 h1).1, (o0 h2).1]
 have hfz1 : FZ (only β k) I [e] := fun j b c i e0 h1 h2 h3 => by
  obtain ⟨rfl, hb⟩ := o0 h1
  simp only [List.getElem?_cons_zero, Option.some.injEq] at h2
  subst h2
  exact hfz k b c i e hb he h3
 refine (h (only β k) I w vs (hargs I w β vs hr) hsr1 hinj1 hfz1 (fun j y hj => by rw [(o0 hj).1]; simp) hi hg).mono ?_
 rintro en w' ⟨v, β1, I', rfl, p1, p2, p3, p4, p5, p6, p7, p8⟩
 have d0 : ∀ {j : Nat} {y : Nat × Nat}, β1 j = some y → j = 0 := fun {j y} hj => by have := p7 j y hj; simpa using this
 have old : ∀ {b c : Nat}, β1 0 = some (b, c) → (∃ c', β k = some (b, c')) ∨ w.heap.size ≤ b := fun {b c} hb => by
  rcases p2.be 0 b c hb with ⟨k', c', hk'⟩ | hh
  ·exact .inl ⟨c', (o0 hk').2⟩
  ·exact .inr hh
 have hlt : ∀ {j b c : Nat}, β j = some (b, c) → b < w.heap.size := fun {j b c} hj => by
  obtain ⟨e0, _, h1⟩ := hsr j b c hj
  exact h1.lt
 have keepk : ∀ y, β k = some y → β1 0 = some y := fun y hy => p3 0 y (by simp) (by simp only [only, if_true]; exact hy)
 have hle : BeLe β (fun j => if j = k then β1 0 else β j) := fun j y hj => by
  simp only
  split
  ·rename_i e0; subst e0; exact keepk y hj
  ·exact hj
 have heap : ∀ {j b c : Nat}, j ≠ k → β j = some (b, c) → w'.heap[b]? = w.heap[b]? := fun {j b c} hne hj => p2.out b (hlt hj) fun j' c' hj' => by
  have := (o0 hj').2
  exact hne (hinj j k b c c' hj this)
 refine ⟨v, fun j => if j = k then β1 0 else β j, I', rfl, p1, ⟨p2.fix, p2.size, fun b hb hn => p2.out b hb fun j c hj => hn k c (o0 hj).2, p2.os, p2.tape, p2.output, fun j b c hj => ?_, fun b o hb => ?_⟩, fun j y _ hj => hle j y hj, fun j b c hj => ?_, fun j j' b c c' hj hj' => ?_, fun j b c i e0 hj h2 h3 => ?_, fun j y hj => ?_, ?_⟩
 ·try simp only at hj
  split at hj
  ·rcases old hj with ⟨c', h1⟩ | h1
   ·exact .inl ⟨k, c', h1⟩
   ·exact .inr h1
  ·exact .inl ⟨j, c, hj⟩
 ·rcases p2.im b o hb with h1 | h1 | ⟨j, c, h1⟩
  ·exact .inl h1
  ·exact .inr (.inl h1)
  ·exact .inr (.inr ⟨k, c, (o0 h1).2⟩)
 ·try simp only at hj
  split at hj
  ·rename_i ej
   subst ej
   obtain ⟨e0, h1, h2⟩ := p4 0 b c hj
   simp only [List.getElem?_cons_zero, Option.some.injEq] at h1
   subst h1
   exact ⟨e', List.getElem?_set_self hk, ha'.own h2⟩
  ·rename_i ej
   obtain ⟨e0, h1, h2⟩ := hsr j b c hj
   exact ⟨e0, by rw [List.getElem?_set_ne (fun h => ej h.symm)]; exact h1, h2.mono (heap ej hj) p2.fix hle⟩
 ·try simp only at hj hj'
  split at hj <;> split at hj'
  ·rename_i a b; rw [a, b]
  ·rename_i a a'
   exfalso
   rcases old hj with ⟨c2, h1⟩ | h1
   ·exact a' (hinj j' k b c' c2 hj' h1)
   ·have := hlt hj'; omega
  ·rename_i a a'
   exfalso
   rcases old hj' with ⟨c2, h1⟩ | h1
   ·exact a (hinj j k b c c2 hj h1)
   ·have := hlt hj; omega
  ·exact hinj j j' b c c' hj hj'
 ·try simp only at hj
  split at hj
  ·rename_i ej
   subst ej
   rw [List.getElem?_set_self hk] at h2
   cases h2
   exact p6 0 b c i e' hj rfl h3
  ·rename_i ej
   rw [List.getElem?_set_ne (fun h => ej h.symm)] at h2
   rcases p2.im b i h3 with h4 | h4 | ⟨j', c', h4⟩
   ·exact hfz j b c i e0 hj h2 h4
   ·have := hlt hj; omega
   ·exact absurd (hinj j k b c c' hj (o0 h4).2) ej
 ·try simp only at hj
  rw [List.length_set]
  split at hj
  ·rename_i ej; omega
  ·exact hdom j y hj
 ·refine zDj (fun j y hj => ?_) x v p8
  obtain rfl := d0 hj
  simp only [Nat.add_zero, if_true]
  exact hj
theorem Acts.atC {P : Program} {f : FuncId} {args1 args : List D} {e e' : Bk} {x : D} {st : List Bk} (k : Nat) (h : Acts P f args1 [e] [0] x [e']) (he : st[k]? = some e) (ha : e.free) (ha' : e'.free)
  (hargs : ∀ I w β vs, RelT I w β args vs → RelT I w (only β k) args1 vs) (hno : ∀ j e0, j ≠ k → st[j]? = some e0 → e0.nob = true ∨ zDd k e0.cells = false) : Acts P f args st [k] (zBa k x) (st.set k e') := by
 intro β I w vs hr hsr hinj hfz hdom hi hg
 have o0 : ∀ {j : Nat} {y : Nat × Nat}, only β k j = some y → j = 0 ∧ β k = some y := fun {j y} hj => by
  simp only [only] at hj
  split at hj
  ·rename_i h0; exact ⟨h0, hj⟩
  ·cases hj
 have hk : k < st.length := (List.getElem?_eq_some_iff.1 he).1
 have hsr1 : SR (only β k) I w [e] := fun j b c hj => by
  obtain ⟨rfl, hb⟩ := o0 hj
  obtain ⟨e0, h1, h2⟩ := hsr k b c hb
  rw [he] at h1; cases h1
  exact ⟨e, rfl, ha.own h2⟩
 have hinj1 : Inj (only β k) := fun j j' b c c' h1 h2 => by rw [(o0 h1).1, (o0 h2).1]
 have hfz1 : FZ (only β k) I [e] := fun j b c i e0 h1 h2 h3 => by
  obtain ⟨rfl, hb⟩ := o0 h1
  simp only [List.getElem?_cons_zero, Option.some.injEq] at h2
  subst h2
  exact hfz k b c i e hb he h3
 refine (h (only β k) I w vs (hargs I w β vs hr) hsr1 hinj1 hfz1 (fun j y hj => by rw [(o0 hj).1]; simp) hi hg).mono ?_
 rintro en w' ⟨v, β1, I', rfl, p1, p2, p3, p4, p5, p6, p7, p8⟩
 have d0 : ∀ {j : Nat} {y : Nat × Nat}, β1 j = some y → j = 0 := fun {j y} hj => by have := p7 j y hj; simpa using this
 have old : ∀ {b c : Nat}, β1 0 = some (b, c) → (∃ c', β k = some (b, c')) ∨ w.heap.size ≤ b := fun {b c} hb => by
  rcases p2.be 0 b c hb with ⟨k', c', hk'⟩ | hh
  ·exact .inl ⟨c', (o0 hk').2⟩
  ·exact .inr hh
 have hlt : ∀ {j b c : Nat}, β j = some (b, c) → b < w.heap.size := fun {j b c} hj => by
  obtain ⟨e0, _, h1⟩ := hsr j b c hj
  exact h1.lt
 have hne : ∀ j y, j ≠ k → β j = some y → (fun j => if j = k then β1 0 else β j) j = some y := fun j y h0 hj => by
  simp only
  rw [if_neg h0]; exact hj
 have heap : ∀ {j b c : Nat}, j ≠ k → β j = some (b, c) → w'.heap[b]? = w.heap[b]? := fun {j b c} hne hj => p2.out b (hlt hj) fun j' c' hj' => by
  have := (o0 hj').2
  exact hne (hinj j k b c c' hj this)
 refine ⟨v, fun j => if j = k then β1 0 else β j, I', rfl, p1, ⟨p2.fix, p2.size, fun b hb hn => p2.out b hb fun j c hj => hn k c (o0 hj).2, p2.os, p2.tape, p2.output, fun j b c hj => ?_, fun b o hb => ?_⟩, fun j y h0 hj => hne j y (by simpa using h0) hj, fun j b c hj => ?_, fun j j' b c c' hj hj' => ?_, fun j b c i e0 hj h2 h3 => ?_, fun j y hj => ?_, ?_⟩
 ·try simp only at hj
  split at hj
  ·rcases old hj with ⟨c', h1⟩ | h1
   ·exact .inl ⟨k, c', h1⟩
   ·exact .inr h1
  ·exact .inl ⟨j, c, hj⟩
 ·rcases p2.im b o hb with h1 | h1 | ⟨j, c, h1⟩
  ·exact .inl h1
  ·exact .inr (.inl h1)
  ·exact .inr (.inr ⟨k, c, (o0 h1).2⟩)
 ·try simp only at hj
  split at hj
  ·rename_i ej
   subst ej
   obtain ⟨e0, h1, h2⟩ := p4 0 b c hj
   simp only [List.getElem?_cons_zero, Option.some.injEq] at h1
   subst h1
   exact ⟨e', List.getElem?_set_self hk, ha'.own h2⟩
  ·rename_i ej
   obtain ⟨e0, h1, h2⟩ := hsr j b c hj
   exact ⟨e0, by rw [List.getElem?_set_ne (fun h => ej h.symm)]; exact h1, (h2.congr (β' := fun j => if j = k then β1 0 else β j) fun hn i y hr hi => by
    refine hne i y (fun e1 => ?_) hi
    subst e1
    rcases hno j e0 ej h1 with h3 | h3
    ·rw [h3] at hn; cases hn
    ·rw [h3] at hr; cases hr).mono (heap ej hj) p2.fix (BeLe.refl _)⟩
 ·try simp only at hj hj'
  split at hj <;> split at hj'
  ·rename_i a b; rw [a, b]
  ·rename_i a a'
   exfalso
   rcases old hj with ⟨c2, h1⟩ | h1
   ·exact a' (hinj j' k b c' c2 hj' h1)
   ·have := hlt hj'; omega
  ·rename_i a a'
   exfalso
   rcases old hj' with ⟨c2, h1⟩ | h1
   ·exact a (hinj j k b c c2 hj h1)
   ·have := hlt hj; omega
  ·exact hinj j j' b c c' hj hj'
 ·try simp only at hj
  split at hj
  ·rename_i ej
   subst ej
   rw [List.getElem?_set_self hk] at h2
   cases h2
   exact p6 0 b c i e' hj rfl h3
  ·rename_i ej
   rw [List.getElem?_set_ne (fun h => ej h.symm)] at h2
   rcases p2.im b i h3 with h4 | h4 | ⟨j', c', h4⟩
   ·exact hfz j b c i e0 hj h2 h4
   ·have := hlt hj; omega
   ·exact absurd (hinj j k b c c' hj (o0 h4).2) ej
 ·try simp only at hj
  rw [List.length_set]
  split at hj
  ·rename_i ej; omega
  ·exact hdom j y hj
 ·refine zDj (fun j y hj => ?_) x v p8
  obtain rfl := d0 hj
  simp only [Nat.add_zero, if_true]
  exact hj
theorem zLz {I : Im} {w : World} {β β' : Be} : ∀ {us vs : List Value}, RelT I w β (us.map .val) vs → RelT I w β' (us.map .val) vs
 | [], vs, h => by simpa only [List.map_nil, RelT] using h
 | u :: us, vs, h => by
  simp only [List.map_cons, RelT, Rel] at h ⊢
  obtain ⟨v, vs', h1, h2, h3⟩ := h
  exact ⟨v, vs', h1, h2, zLz h3⟩
theorem zPj {k off n m : Nat} {wh : Bool} (us : List Value) (I : Im) (w : World) (β : Be) (vs : List Value) (h : RelT I w β (.osl k off n m wh :: us.map .val) vs) : RelT I w (only β k) (.osl 0 off n m wh :: us.map .val) vs := by
 simp only [RelT] at h ⊢
 obtain ⟨v, vs', rfl, h1, h2⟩ := h
 refine ⟨v, vs', rfl, ?_, zLz h2⟩
 simp only [Rel] at h1 ⊢
 simpa [only] using h1
end
section
open Go.RowKit
attribute [local irreducible] seqW awp zA3 zCo zBd Weak updS zB0 retL Pure Acts
set_option maxRecDepth 4096
abbrev byB (l : List UInt8) : Bk := ⟨zAe l, 5, 1, true, false, .plain⟩
def Ta : Par := ⟨fun f => f == 102 || f == 126 || f == 140 || f == 159, fun _ _ => none, fun k => k == 1, fun _ => false, fun _ => false⟩
theorem zT0 : zBi Tryz.prog Ta := by intro t n f h; cases h
theorem zCa (a b : List UInt8) : zAe a ++ zAe b = zAe (a ++ b) := by simp [zAe]
theorem zAy (a : List UInt8) : (zAe a).length = a.length := by simp [zAe]
theorem zFd (l : List UInt8) : (Lib.byteCells l).map D.val = zAe l := by simp [Lib.byteCells, zAe]
theorem zJa (l : List UInt8) : (zAe l).map zF0 = zAe l := by simp [zAe, zF0]
theorem zP4 (l : List UInt8) (r : List D) (n : Nat) (h : l.length = n) : (zAe l ++ r).take n = zAe l := by
 rw [List.take_append_of_le_length (by rw [zAy]; omega), List.take_of_length_le (by rw [zAy]; omega)]
theorem bs_dl (l : List UInt8) : (bs l).data.toList = l := rfl
theorem dd_len (u : Nat) (h : u < 18446744073709551616) : (Lib.decDigits u).length ≤ 20 := by
 rw [Lib.decDigits_length]; exact Lib.nDigits_le20 u h
abbrev q0_ := D.val (Value.int IntKind.u8 0)
set_option maxHeartbeats 2000000 in
theorem zMt (l : List UInt8) (u : Nat) (n : Nat) (hn : l.length = n) (hl : n ≤ 1000000000) (hu : u < 18446744073709551616) : Acts Tryz.prog 140 [.osl 0 0 n n true, .val (.int .u64 u), .val (.int .i64 10)] [byB l] [0] (.osl 0 0 (n + (Lib.decDigits u).length) (n + (Lib.decDigits u).length) true) [byB (l ++ Lib.decDigits u)] := by
 subst hn
 have hd := dd_len u hu
 by_cases h1 : u < 100
 ·refine zA5 zT0 mixed Tryz.func140 rfl (by intro k hk; match k, hk with | 0, _ => exact .inr (by simp) | 1, _ => exact .inl rfl) ?_
  focus
   refine zB (zA rfl ?_)
   refine zG [] [(6, nl)] ?_
   refine zB (zB (zA rfl ?_))
   refine zG [9] [(10, bD true)] ?_
   refine zAa ?_
   refine zB (zB (zA rfl ?_))
   refine zG [10, 11] [(12, bD (decide ((↑u : Int) < (100 : Int))))] ?_
   refine zCk (t := decide ((↑u : Int) < (100 : Int))) (by kernel_rfl) (by exact decide_eq_true (by omega)) ?_
   refine zB (zA rfl ?_)
   refine zF 3 [] [] (-9223372036854775808 ≤ (↑u : Int) ∧ (↑u : Int) ≤ 9223372036854775807) [(13, D.osl 0 0 (List.length l) (List.length l) true), (14, D.val (Value.int IntKind.u64 (↑u : Int))), (15, iD ↑u)] (by kernel_rfl) (by omega) ?_
   refine zX [iD ↑u] (by exact small_c u h1) ?_
   refine zAg 1 [] [] (Bk.arr (byB l) = true ∧ List.length (Bk.cells (byB l)) = List.length l * 1 ∧ List.length l = List.length l * 1 ∧ Bk.ty (byB l) = 5 ∧ Bk.sz (byB l) = 1 ∧ List.length (zAe (Array.toList (ByteArray.data (ByteArray.mk (List.toArray (Lib.decDigits u)))))) = List.length (Array.toList (ByteArray.data (ByteArray.mk (List.toArray (Lib.decDigits u))))) * 1 ∧ 0 < 1 ∧ 0 < 1 ∧ 5 = 5 ∧ (List.length l + List.length (Array.toList (ByteArray.data (ByteArray.mk (List.toArray (Lib.decDigits u)))))) * 1 ≤ 140737488355328 ∧ 1 = 1 ∧ Kd.isMap (Bk.kd (byB l)) = false ∧ (false = false ∨ Kd.isSh (Bk.kd (byB l)) = true)) [(0, U), (13, U), (17, D.osl 0 0 (List.length l + List.length (Array.toList (ByteArray.data (ByteArray.mk (List.toArray (Lib.decDigits u)))))) ((List.length l + List.length (Array.toList (ByteArray.data (ByteArray.mk (List.toArray (Lib.decDigits u)))))) * 1) true)] [(0, Bk.mk (Bk.cells (byB l) ++ zAe (Array.toList (ByteArray.data (ByteArray.mk (List.toArray (Lib.decDigits u)))))) (Bk.ty (byB l)) (Bk.sz (byB l)) (Bk.arr (byB l)) (Bk.fz (byB l)) (Bk.kd (byB l)))] [] (by kernel_rfl) ⟨(by kernel_rfl), ⟨(by simp [zAy]), ⟨(by omega), ⟨(by kernel_rfl), ⟨(by kernel_rfl), ⟨(by simp [zAy]), ⟨(by omega), ⟨(by omega), ⟨(by kernel_rfl), ⟨(by (simp; omega)), ⟨(by kernel_rfl), ⟨(by kernel_rfl), (by simp)⟩⟩⟩⟩⟩⟩⟩⟩⟩⟩⟩⟩ ?_
   refine zBn 0 (Bk.mk (Bk.cells (byB l) ++ zAe (Array.toList (ByteArray.data (ByteArray.mk (List.toArray (Lib.decDigits u)))))) (Bk.ty (byB l)) (Bk.sz (byB l)) (Bk.arr (byB l)) (Bk.fz (byB l)) (Bk.kd (byB l))) (Bk.mk (zAe (l ++ Lib.decDigits u)) (5 : TypeId) 1 true false Kd.plain) (by kernel_rfl) (by simp (disch := omega) only [zCa]) ?_
   refine zAi 1 [(6, D.osl 0 0 (List.length l + List.length (Array.toList (ByteArray.data (ByteArray.mk (List.toArray (Lib.decDigits u)))))) ((List.length l + List.length (Array.toList (ByteArray.data (ByteArray.mk (List.toArray (Lib.decDigits u)))))) * 1) true)] ?_
   refine zY 6 (D.osl 0 0 (List.length l + List.length (Array.toList (ByteArray.data (ByteArray.mk (List.toArray (Lib.decDigits u)))))) ((List.length l + List.length (Array.toList (ByteArray.data (ByteArray.mk (List.toArray (Lib.decDigits u)))))) * 1) true) (D.osl 0 0 (List.length l + List.length (Lib.decDigits u)) (List.length l + List.length (Lib.decDigits u)) true) (by kernel_rfl) (by simp (disch := omega) only [Nat.mul_one]) (by kernel_rfl) ?_
   refine zG [12, 14, 15, 16, 17] [] ?_
   refine zW (zR (zR ?_))
   refine zA7 (True) [D.osl 0 0 (List.length l + List.length (Lib.decDigits u)) (List.length l + List.length (Lib.decDigits u)) true] (.inr rfl) (by kernel_rfl) trivial ?_
   rotate_left
  exact ⟨rfl, rfl⟩
 ·have h2 : Lib.nDigits u ≤ 20 := Lib.nDigits_le20 u hu
  have hz : ∀ n, n ≤ 20 → (List.replicate 24 (D.val (.int .u8 0))).take n = List.replicate n (.val (.int .u8 0)) := fun n h => by rw [List.take_replicate, Nat.min_eq_left (by omega)]
  have hx := Lib.decDigits_length u
  have hk : ∀ r, (zAe (Lib.decDigits u) ++ r).take (Lib.nDigits u) = zAe (Lib.decDigits u) := fun r => zP4 _ r _ hx
  have main : Acts Tryz.prog 140 [.osl 0 0 l.length l.length true, .val (.int .u64 u), .val (.int .i64 10)] [byB l] [0] (.osl 0 0 (l.length + (Lib.decDigits u).length) (l.length + (Lib.decDigits u).length) true) [byB (l ++ Lib.decDigits u), ⟨List.map (zBz 0) (zAe (Lib.decDigits u) ++ List.drop (Lib.nDigits u) (List.replicate 24 (.val (.int .u8 0)))), 237, 0, false, false, .plain⟩] := by
   refine zA5 zT0 mixed Tryz.func140 rfl (by intro k hk; match k, hk with | 0, _ => exact .inr (by simp) | 1, _ => exact .inl rfl) ?_
   focus
    refine zB (zA rfl ?_)
    refine zG [] [(6, nl)] ?_
    refine zB (zB (zA rfl ?_))
    refine zG [9] [(10, bD true)] ?_
    refine zAa ?_
    refine zB (zB (zA rfl ?_))
    refine zG [10, 11] [(12, bD (decide ((↑u : Int) < (100 : Int))))] ?_
    refine zBc (t := decide ((↑u : Int) < (100 : Int))) (by kernel_rfl) (by exact decide_eq_false (by omega)) ?_
    refine zJ (zC (zD (zB (zA rfl ?_))))
    refine zN [] [] [12] (True) [(7, D.own 1 0)] [] [Bk.mk [q0_, q0_, q0_, q0_, q0_, q0_, q0_, q0_, q0_, q0_, q0_, q0_, q0_, q0_, q0_, q0_, q0_, q0_, q0_, q0_, q0_, q0_, q0_, q0_] 237 0 false false Kd.plain] (by kernel_rfl) trivial ?_
    refine zB (zA rfl ?_)
    refine zAi 1 [(18, D.val (Value.int IntKind.u64 (↑u : Int)))] ?_
    refine zX [D.val (Value.int IntKind.u64 (↑u : Int))] (by exact zNc u (by omega) hu) ?_
    refine zG [18, 19] [(8, iD (↑(Lib.nDigits u) : Int))] ?_
    refine zB (zA rfl ?_)
    refine zF 2 [] [] (True ∧ (0 : Int) ≤ (↑(Lib.nDigits u) : Int) ∧ 0 < 1 ∧ Int.toNat (↑(Lib.nDigits u) : Int) ≤ 24 ∧ 24 ≤ maxLen) [(20, iD (↑(Lib.nDigits u) : Int)), (21, D.osl 1 0 (Int.toNat (↑(Lib.nDigits u) : Int)) (Int.toNat (↑(Lib.nDigits u) : Int) * 1) false)] (by kernel_rfl) ⟨trivial, ⟨(by omega), ⟨(by omega), ⟨(by omega), (lb (by kernel_rfl))⟩⟩⟩⟩ ?_
    refine zY 21 (D.osl 1 0 (Int.toNat (↑(Lib.nDigits u) : Int)) (Int.toNat (↑(Lib.nDigits u) : Int) * 1) false) (D.osl 1 0 (Lib.nDigits u) (Lib.nDigits u) false) (by kernel_rfl) (by simp (disch := omega) only [Int.toNat_natCast, Nat.mul_one]) (by kernel_rfl) ?_
    refine zAi 1 [(22, D.val (Value.int IntKind.u64 (↑u : Int)))] ?_
    refine zLq [] [] [D.osl 1 0 (Lib.nDigits u) (Lib.nDigits u) false, D.val (Value.int IntKind.u64 (↑u : Int))] [D.osl 1 0 (Lib.nDigits u) (Lib.nDigits u) false, D.val (Value.int IntKind.u64 (↑u : Int))] (by kernel_rfl) trivial (LeL.refl _) (by exact zNp (k := 1) rfl rfl rfl rfl (hz _ h2) (by simp; omega) hu) ?_
    refine zG [20, 21, 22, 23] [] ?_
    refine zB (zA rfl ?_)
    refine zF 3 [] [] (True ∧ (0 : Int) ≤ (↑(Lib.nDigits u) : Int) ∧ 0 < 1 ∧ Int.toNat (↑(Lib.nDigits u) : Int) ≤ 24 ∧ 24 ≤ maxLen) [(24, D.osl 0 0 (List.length l) (List.length l) true), (25, iD (↑(Lib.nDigits u) : Int)), (26, D.osl 1 0 (Int.toNat (↑(Lib.nDigits u) : Int)) (Int.toNat (↑(Lib.nDigits u) : Int) * 1) false)] (by kernel_rfl) ⟨trivial, ⟨(by omega), ⟨(by omega), ⟨(by omega), (lb (by kernel_rfl))⟩⟩⟩⟩ ?_
    refine zY 26 (D.osl 1 0 (Int.toNat (↑(Lib.nDigits u) : Int)) (Int.toNat (↑(Lib.nDigits u) : Int) * 1) false) (D.osl 1 0 (Lib.nDigits u) (Lib.nDigits u) false) (by kernel_rfl) (by simp (disch := omega) only [Int.toNat_natCast, Nat.mul_one]) (by kernel_rfl) ?_
    refine zAg 1 [] [] (Bk.arr (Bk.mk (zAe l) 5 1 true false Kd.plain) = true ∧ List.length (zAe l) = List.length l * 1 ∧ List.length l = List.length l * 1 ∧ Bk.ty (Bk.mk (zAe l) 5 1 true false Kd.plain) = 5 ∧ Bk.sz (Bk.mk (zAe l) 5 1 true false Kd.plain) = 1 ∧ List.length (List.map zF0 (List.take (Lib.nDigits u) (List.drop 0 (List.map D.val (Lib.byteCells (Lib.decDigits u)) ++ List.drop (Lib.nDigits u) [D.val (Value.int IntKind.u8 0), D.val (Value.int IntKind.u8 0), D.val (Value.int IntKind.u8 0), D.val (Value.int IntKind.u8 0), D.val (Value.int IntKind.u8 0), D.val (Value.int IntKind.u8 0), D.val (Value.int IntKind.u8 0), D.val (Value.int IntKind.u8 0), D.val (Value.int IntKind.u8 0), D.val (Value.int IntKind.u8 0), D.val (Value.int IntKind.u8 0), D.val (Value.int IntKind.u8 0), D.val (Value.int IntKind.u8 0), D.val (Value.int IntKind.u8 0), D.val (Value.int IntKind.u8 0), D.val (Value.int IntKind.u8 0), D.val (Value.int IntKind.u8 0), D.val (Value.int IntKind.u8 0), D.val (Value.int IntKind.u8 0), D.val (Value.int IntKind.u8 0), D.val (Value.int IntKind.u8 0), D.val (Value.int IntKind.u8 0), D.val (Value.int IntKind.u8 0), D.val (Value.int IntKind.u8 0)])))) = Lib.nDigits u * 1 ∧ 0 < 1 ∧ 0 < 1 ∧ 5 = 5 ∧ (List.length l + Lib.nDigits u) * 1 ≤ 140737488355328 ∧ 1 = 1 ∧ Kd.isMap (Bk.kd (Bk.mk (zAe l) 5 1 true false Kd.plain)) = false ∧ (false = false ∨ Kd.isSh (Bk.kd (Bk.mk (zAe l) 5 1 true false Kd.plain)) = true)) [(0, U), (24, U), (27, D.osl 0 0 (List.length l + Lib.nDigits u) ((List.length l + Lib.nDigits u) * 1) true)] [(0, Bk.mk (zAe l ++ List.map zF0 (List.take (Lib.nDigits u) (List.drop 0 (List.map D.val (Lib.byteCells (Lib.decDigits u)) ++ List.drop (Lib.nDigits u) [D.val (Value.int IntKind.u8 0), D.val (Value.int IntKind.u8 0), D.val (Value.int IntKind.u8 0), D.val (Value.int IntKind.u8 0), D.val (Value.int IntKind.u8 0), D.val (Value.int IntKind.u8 0), D.val (Value.int IntKind.u8 0), D.val (Value.int IntKind.u8 0), D.val (Value.int IntKind.u8 0), D.val (Value.int IntKind.u8 0), D.val (Value.int IntKind.u8 0), D.val (Value.int IntKind.u8 0), D.val (Value.int IntKind.u8 0), D.val (Value.int IntKind.u8 0), D.val (Value.int IntKind.u8 0), D.val (Value.int IntKind.u8 0), D.val (Value.int IntKind.u8 0), D.val (Value.int IntKind.u8 0), D.val (Value.int IntKind.u8 0), D.val (Value.int IntKind.u8 0), D.val (Value.int IntKind.u8 0), D.val (Value.int IntKind.u8 0), D.val (Value.int IntKind.u8 0), D.val (Value.int IntKind.u8 0)])))) (Bk.ty (Bk.mk (zAe l) 5 1 true false Kd.plain)) (Bk.sz (Bk.mk (zAe l) 5 1 true false Kd.plain)) (Bk.arr (Bk.mk (zAe l) 5 1 true false Kd.plain)) (Bk.fz (Bk.mk (zAe l) 5 1 true false Kd.plain)) (Bk.kd (Bk.mk (zAe l) 5 1 true false Kd.plain))), (1, Bk.mk (List.map (zBz 0) (List.map D.val (Lib.byteCells (Lib.decDigits u)) ++ List.drop (Lib.nDigits u) [D.val (Value.int IntKind.u8 0), D.val (Value.int IntKind.u8 0), D.val (Value.int IntKind.u8 0), D.val (Value.int IntKind.u8 0), D.val (Value.int IntKind.u8 0), D.val (Value.int IntKind.u8 0), D.val (Value.int IntKind.u8 0), D.val (Value.int IntKind.u8 0), D.val (Value.int IntKind.u8 0), D.val (Value.int IntKind.u8 0), D.val (Value.int IntKind.u8 0), D.val (Value.int IntKind.u8 0), D.val (Value.int IntKind.u8 0), D.val (Value.int IntKind.u8 0), D.val (Value.int IntKind.u8 0), D.val (Value.int IntKind.u8 0), D.val (Value.int IntKind.u8 0), D.val (Value.int IntKind.u8 0), D.val (Value.int IntKind.u8 0), D.val (Value.int IntKind.u8 0), D.val (Value.int IntKind.u8 0), D.val (Value.int IntKind.u8 0), D.val (Value.int IntKind.u8 0), D.val (Value.int IntKind.u8 0)])) 237 0 false false (Bk.kd (Bk.mk [D.val (Value.int IntKind.u8 0), D.val (Value.int IntKind.u8 0), D.val (Value.int IntKind.u8 0), D.val (Value.int IntKind.u8 0), D.val (Value.int IntKind.u8 0), D.val (Value.int IntKind.u8 0), D.val (Value.int IntKind.u8 0), D.val (Value.int IntKind.u8 0), D.val (Value.int IntKind.u8 0), D.val (Value.int IntKind.u8 0), D.val (Value.int IntKind.u8 0), D.val (Value.int IntKind.u8 0), D.val (Value.int IntKind.u8 0), D.val (Value.int IntKind.u8 0), D.val (Value.int IntKind.u8 0), D.val (Value.int IntKind.u8 0), D.val (Value.int IntKind.u8 0), D.val (Value.int IntKind.u8 0), D.val (Value.int IntKind.u8 0), D.val (Value.int IntKind.u8 0), D.val (Value.int IntKind.u8 0), D.val (Value.int IntKind.u8 0), D.val (Value.int IntKind.u8 0), D.val (Value.int IntKind.u8 0)] 237 0 false false Kd.plain)))] [] (by kernel_rfl) ⟨(by kernel_rfl), ⟨(by simp [zAy]), ⟨(by omega), ⟨(by kernel_rfl), ⟨(by kernel_rfl), ⟨(by simp [zAy, hk, zJa, zFd, hx]), ⟨(by omega), ⟨(by omega), ⟨(by kernel_rfl), ⟨(by omega), ⟨(by kernel_rfl), ⟨(by kernel_rfl), (by simp)⟩⟩⟩⟩⟩⟩⟩⟩⟩⟩⟩⟩ ?_
    refine zBn 0 (Bk.mk (zAe l ++ List.map zF0 (List.take (Lib.nDigits u) (List.drop 0 (List.map D.val (Lib.byteCells (Lib.decDigits u)) ++ List.drop (Lib.nDigits u) [D.val (Value.int IntKind.u8 0), D.val (Value.int IntKind.u8 0), D.val (Value.int IntKind.u8 0), D.val (Value.int IntKind.u8 0), D.val (Value.int IntKind.u8 0), D.val (Value.int IntKind.u8 0), D.val (Value.int IntKind.u8 0), D.val (Value.int IntKind.u8 0), D.val (Value.int IntKind.u8 0), D.val (Value.int IntKind.u8 0), D.val (Value.int IntKind.u8 0), D.val (Value.int IntKind.u8 0), D.val (Value.int IntKind.u8 0), D.val (Value.int IntKind.u8 0), D.val (Value.int IntKind.u8 0), D.val (Value.int IntKind.u8 0), D.val (Value.int IntKind.u8 0), D.val (Value.int IntKind.u8 0), D.val (Value.int IntKind.u8 0), D.val (Value.int IntKind.u8 0), D.val (Value.int IntKind.u8 0), D.val (Value.int IntKind.u8 0), D.val (Value.int IntKind.u8 0), D.val (Value.int IntKind.u8 0)])))) (Bk.ty (Bk.mk (zAe l) 5 1 true false Kd.plain)) (Bk.sz (Bk.mk (zAe l) 5 1 true false Kd.plain)) (Bk.arr (Bk.mk (zAe l) 5 1 true false Kd.plain)) (Bk.fz (Bk.mk (zAe l) 5 1 true false Kd.plain)) (Bk.kd (Bk.mk (zAe l) 5 1 true false Kd.plain))) (Bk.mk (zAe (l ++ Lib.decDigits u)) 5 1 true false Kd.plain) (by kernel_rfl) (by simp (disch := omega) only [zFd, List.drop_zero, zJa, zCa, hk]) ?_
    refine zAi 1 [(6, D.osl 0 0 (List.length l + Lib.nDigits u) ((List.length l + Lib.nDigits u) * 1) true)] ?_
    refine zY 6 (D.osl 0 0 (List.length l + Lib.nDigits u) ((List.length l + Lib.nDigits u) * 1) true) (D.osl 0 0 (List.length l + Lib.nDigits u) (List.length l + Lib.nDigits u) true) (by kernel_rfl) (by simp (disch := omega) only [Nat.mul_one]) (by kernel_rfl) ?_
    refine zG [7, 8, 25, 26, 27] [] ?_
    refine zW (zR ?_)
    refine zA7 (True) [D.osl 0 0 (List.length l + Lib.nDigits u) (List.length l + Lib.nDigits u) true] (.inr rfl) (by kernel_rfl) trivial ?_
    rotate_left
   exact ⟨by rw [hx]; rfl, by rw [zFd]; rfl⟩
  exact main.cut 1 (by simp) rfl
set_option maxHeartbeats 2000000 in
theorem zTq (l : List UInt8) (z : Int) (n : Nat) (hn : l.length = n) (hl : n ≤ 900000000) (h0 : -9223372036854775808 ≤ z) (h1 : z ≤ 9223372036854775807) : Acts Tryz.prog 126 [.osl 0 0 n n true, iD z, iD 10] [byB l] [0] (.osl 0 0 (n + (Lib.itoa z).length) (n + (Lib.itoa z).length) true) [byB (l ++ Lib.itoa z)] := by
 subst hn
 by_cases hz : z < 0
 ·have e : Lib.itoa z = 45 :: Lib.decDigits z.natAbs := by unfold Lib.itoa; rw [if_pos hz]
  have e1 : (IntKind.u64.wrap (0 - IntKind.u64.wrap z)) = ((z.natAbs : Nat) : Int) := by
   simp only [IntKind.wrap, IntKind.bits, IntKind.signed, Bool.false_and, Bool.false_eq_true, if_false]; omega
  have j1 := (zMt (l ++ [45]) z.natAbs (l.length + 1) (by simp) (by omega) (by omega)).atC 0 (st := [byB (l ++ [45]), byB [45]]) rfl (.inl rfl) (.inl rfl) (zPj [.int .u64 z.natAbs, .int .i64 10]) (fun j e0 hj he => by match j, hj, he with | 0, hj, _ => exact absurd rfl hj | 1, _, he => cases he; exact .inl rfl)
  have main : Acts Tryz.prog 126 [.osl 0 0 l.length l.length true, iD z, iD 10] [byB l] [0] (.osl 0 0 (l.length + 1 + (Lib.decDigits z.natAbs).length) (l.length + 1 + (Lib.decDigits z.natAbs).length) true) [byB (l ++ [45] ++ Lib.decDigits z.natAbs), byB [45]] := by
   refine zA5 zT0 mixed Tryz.func126 rfl (by intro k hk; match k, hk with | 0, _ => exact .inr (by simp) | 1, _ => exact .inl rfl) ?_
   focus
    refine zB (zA rfl ?_)
    refine zG [] [(6, nl)] ?_
    refine zB (zA rfl ?_)
    refine zQ [9] [] [8, 9] (True) [(7, D.val (Value.int IntKind.u64 (IntKind.wrap IntKind.u64 z)))] (by kernel_rfl) trivial ?_
    refine zB (zB (zA rfl ?_))
    refine zG [1, 10] [(11, bD (decide (z < 0)))] ?_
    refine zCk (t := decide (z < 0)) (by kernel_rfl) (by exact decide_eq_true (by omega)) ?_
    refine zB (zA rfl ?_)
    refine zAg 2 [] [] ((1 = 1 ∧ 1 ≤ 1 ∧ True) ∧ 0 < 1 ∧ 1 = 1 ∧ 1 ≤ 16777216 ∧ 1 ≤ 9223372036854775807) [(12, D.osl 0 0 (List.length l) (List.length l) true), (13, D.osl 1 0 1 1 true)] [] [Bk.mk [D.val (Value.int IntKind.u8 45)] 5 1 true false Kd.plain] (by kernel_rfl) (by decide) ?_
    refine zBn 1 (Bk.mk [D.val (Value.int IntKind.u8 45)] 5 1 true false Kd.plain) (Bk.mk (zAe [(45 : UInt8)]) 5 1 true false Kd.plain) (by kernel_rfl) (by simp (disch := omega) only [show ([D.val (Value.int IntKind.u8 45)] : List D) = zAe [45] from rfl]) ?_
    refine zAg 1 [] [] (Bk.arr (byB l) = true ∧ List.length (Bk.cells (byB l)) = List.length l * 1 ∧ List.length l = List.length l * 1 ∧ Bk.ty (byB l) = 5 ∧ Bk.sz (byB l) = 1 ∧ 1 = 1 ∧ 0 < 1 ∧ 0 < 1 ∧ 5 = 5 ∧ (List.length l + 1) * 1 ≤ 140737488355328 ∧ 1 = 1 ∧ Kd.isMap (Bk.kd (byB l)) = false ∧ (false = false ∨ Kd.isSh (Bk.kd (byB l)) = true)) [(0, U), (12, U), (14, D.osl 0 0 (List.length l + 1) ((List.length l + 1) * 1) true)] [(0, Bk.mk (Bk.cells (byB l) ++ [D.val (Value.int IntKind.u8 45)]) (Bk.ty (byB l)) (Bk.sz (byB l)) (Bk.arr (byB l)) (Bk.fz (byB l)) (Bk.kd (byB l)))] [] (by kernel_rfl) ⟨(by kernel_rfl), ⟨(by simp [zAy]), ⟨(by omega), ⟨(by kernel_rfl), ⟨(by kernel_rfl), ⟨(by kernel_rfl), ⟨(by omega), ⟨(by omega), ⟨(by kernel_rfl), ⟨(by omega), ⟨(by kernel_rfl), ⟨(by kernel_rfl), (by simp)⟩⟩⟩⟩⟩⟩⟩⟩⟩⟩⟩⟩ ?_
    refine zBn 0 (Bk.mk (Bk.cells (byB l) ++ [D.val (Value.int IntKind.u8 45)]) (Bk.ty (byB l)) (Bk.sz (byB l)) (Bk.arr (byB l)) (Bk.fz (byB l)) (Bk.kd (byB l))) (Bk.mk (zAe (l ++ [(45 : UInt8)])) (5 : TypeId) 1 true false Kd.plain) (by kernel_rfl) (by simp (disch := omega) only [zCa, show ([D.val (Value.int IntKind.u8 45)] : List D) = zAe [45] from rfl]) ?_
    refine zAi 1 [(0, D.osl 0 0 (List.length l + 1) ((List.length l + 1) * 1) true)] ?_
    refine zY 0 (D.osl 0 0 (List.length l + 1) ((List.length l + 1) * 1) true) (D.osl 0 0 (List.length l + 1) (List.length l + 1) true) (by kernel_rfl) (by simp (disch := omega) only [Nat.mul_one]) (by kernel_rfl) ?_
    refine zG [11, 13, 14] [] ?_
    refine zA rfl ?_
    refine zF 2 [16] [] (True) [(15, D.val (Value.int IntKind.u64 (IntKind.wrap IntKind.u64 z))), (16, D.val (Value.int IntKind.u64 (IntKind.wrap IntKind.u64 ((0 : Int) - IntKind.wrap IntKind.u64 z))))] (by kernel_rfl) trivial ?_
    refine zY 16 (D.val (Value.int IntKind.u64 (IntKind.wrap IntKind.u64 ((0 : Int) - IntKind.wrap IntKind.u64 z)))) (D.val (Value.int IntKind.u64 (↑(Int.natAbs z) : Int))) (by kernel_rfl) (by simp (disch := omega) only [e1]) (by kernel_rfl) ?_
    refine zG [15, 16] [(7, D.val (Value.int IntKind.u64 (↑(Int.natAbs z) : Int)))] ?_
    refine zB (zA rfl ?_)
    refine zAi 3 [(17, D.osl 0 0 (List.length l + 1) (List.length l + 1) true), (18, D.val (Value.int IntKind.u64 (↑(Int.natAbs z) : Int))), (19, iD 10)] ?_
    refine zF4 [] [] [D.osl 0 0 (List.length l + 1) (List.length l + 1) true, D.val (Value.int IntKind.u64 (↑(Int.natAbs z) : Int)), iD 10] [D.osl 0 0 (List.length l + 1) (List.length l + 1) true, D.val (Value.int IntKind.u64 (↑(Int.natAbs z) : Int)), iD 10] (by kernel_rfl) trivial (LeL.refl _) (by exact j1) (by kernel_rfl) ?_
    refine zG [2, 7, 18, 19, 20] [(6, D.osl 0 0 (List.length l + 1 + List.length (Lib.decDigits (Int.natAbs z))) (List.length l + 1 + List.length (Lib.decDigits (Int.natAbs z))) true)] ?_
    refine zW ?_
    refine zA7 (True) [D.osl 0 0 (List.length l + 1 + List.length (Lib.decDigits (Int.natAbs z))) (List.length l + 1 + List.length (Lib.decDigits (Int.natAbs z))) true] (.inr rfl) (by kernel_rfl) trivial ?_
    rotate_left
   exact ⟨rfl, rfl⟩
  have h2 := main.cut 1 (by simp) rfl
  rw [e, show l ++ 45 :: Lib.decDigits z.natAbs = l ++ [45] ++ Lib.decDigits z.natAbs by simp, show l.length + (45 :: Lib.decDigits z.natAbs).length = l.length + 1 + (Lib.decDigits z.natAbs).length by simp; omega]
  exact h2
 ·obtain ⟨u, rfl⟩ : ∃ u : Nat, z = u := ⟨z.toNat, by omega⟩
  have e : Lib.itoa u = Lib.decDigits u := Lib.itoa_nonneg u
  have j1 := zMt l u l.length rfl (by omega) (by omega)
  rw [e]
  refine zA5 zT0 mixed Tryz.func126 rfl (by intro k hk; match k, hk with | 0, _ => exact .inr (by simp) | 1, _ => exact .inl rfl) ?_
  focus
   refine zB (zA rfl ?_)
   refine zG [] [(6, nl)] ?_
   refine zB (zA rfl ?_)
   refine zQ [] [] [8, 9] ((0 : Int) ≤ (↑u : Int) ∧ (↑u : Int) ≤ (18446744073709551615 : Int)) [(7, D.val (Value.int IntKind.u64 (↑u : Int)))] (by kernel_rfl) (by omega) ?_
   refine zB (zB (zA rfl ?_))
   refine zG [1, 10] [(11, bD (decide ((↑u : Int) < 0)))] ?_
   refine zBc (t := decide ((↑u : Int) < 0)) (by kernel_rfl) (by kernel_rfl) ?_
   refine zJ (zC (zD (zB (zA rfl ?_))))
   refine zAi 3 [(17, D.osl 0 0 (List.length l) (List.length l) true), (18, D.val (Value.int IntKind.u64 (↑u : Int))), (19, iD 10)] ?_
   refine zF4 [] [] [D.osl 0 0 (List.length l) (List.length l) true, D.val (Value.int IntKind.u64 (↑u : Int)), iD 10] [D.osl 0 0 (List.length l) (List.length l) true, D.val (Value.int IntKind.u64 (↑u : Int)), iD 10] (by kernel_rfl) trivial (LeL.refl _) (by exact j1) (by kernel_rfl) ?_
   refine zG [2, 7, 11, 18, 19, 20] [(6, D.osl 0 0 (List.length l + List.length (Lib.decDigits u)) (List.length l + List.length (Lib.decDigits u)) true)] ?_
   refine zW ?_
   refine zA7 (True) [D.osl 0 0 (List.length l + List.length (Lib.decDigits u)) (List.length l + List.length (Lib.decDigits u)) true] (.inr rfl) (by kernel_rfl) trivial ?_
   rotate_left
  exact ⟨rfl, rfl⟩
theorem zV4 (l : List UInt8) (z : Int) (n : Nat) (hn : l.length = n) (hl : n ≤ 900000000) (h0 : -9223372036854775808 ≤ z) (h1 : z ≤ 9223372036854775807) : Acts Tryz.prog 102 [.osl 0 0 n n true, iD z, iD 10] [byB l] [0] (.osl 0 0 (n + (Lib.itoa z).length) (n + (Lib.itoa z).length) true) [byB (l ++ Lib.itoa z)] := by
 refine zA5 zT0 mixed Tryz.func102 rfl (by intro k hk; match k, hk with | 0, _ => exact .inr (by simp) | 1, _ => exact .inl rfl) ?_
 focus
  refine zB (zA rfl ?_)
  refine zG [] [(6, nl)] ?_
  refine zB (zA rfl ?_)
  refine zAi 3 [(7, D.osl 0 0 n n true), (8, iD z), (9, iD 10)] ?_
  refine zF4 [] [] [D.osl 0 0 n n true, iD z, iD 10] [D.osl 0 0 n n true, iD z, iD 10] (by kernel_rfl) trivial (LeL.refl _) (by exact zTq l z n hn hl h0 h1) (by kernel_rfl) ?_
  refine zG [1, 2, 8, 9, 10] [(6, D.osl 0 0 (n + List.length (Lib.itoa z)) (n + List.length (Lib.itoa z)) true)] ?_
  refine zW ?_
  refine zA7 (True) [D.osl 0 0 (n + List.length (Lib.itoa z)) (n + List.length (Lib.itoa z)) true] (.inr rfl) (by kernel_rfl) trivial ?_
  rotate_left
 exact ⟨rfl, rfl⟩
theorem zJh {st : List Bk} (k : Nat) (l : List UInt8) (z : Int) (n : Nat) (hn : l.length = n) (hl : n ≤ 900000000) (h0 : -9223372036854775808 ≤ z) (h1 : z ≤ 9223372036854775807) (he : st[k]? = some (byB l)) (hno : ∀ j e0, j ≠ k → st[j]? = some e0 → e0.nob = true ∨ zDd k e0.cells = false) : Acts Tryz.prog 102 [.osl k 0 n n true, iD z, iD 10] st [k] (.osl k 0 (n + (Lib.itoa z).length) (n + (Lib.itoa z).length) true) (st.set k (byB (l ++ Lib.itoa z))) :=
 (zV4 l z n hn hl h0 h1).atC k he (.inl rfl) (.inl rfl) (zPj [.int .i64 z, .int .i64 10]) hno
end
end Go.Proofs.YtjcofbkhoeockaaGreatDoor

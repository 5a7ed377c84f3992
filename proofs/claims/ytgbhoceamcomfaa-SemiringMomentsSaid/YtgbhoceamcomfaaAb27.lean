/- The walk in batches: many operations at once, reckoned by the kernel; what is to be shown of them as one list of conditions. -/
import Derived.Test.YtgbhoceamcomfaaAb24
namespace Go.Proofs.Ytgbhoceamcomfaa
open Go.RowKit
set_option linter.unusedVariables false
set_option linter.unusedSimpArgs false
abbrev U : D := .unk
abbrev iD (x : Int) : D := .val (.int .i64 x)
abbrev bD (b : Bool) : D := .val (.bool b)
def updS (sl : List D) : List (Nat × D) → List D
  | [] => sl
  | (i, d) :: r => updS (sl.set i d) r
def deadS (sl : List D) : List Nat → List D
  | [] => sl
  | i :: r => deadS (sl.set i .unk) r
def Alls : List Prop → Prop
  | [] => True
  | [p] => p
  | p :: q :: r => p ∧ Alls (q :: r)
theorem Alls.cons {p : Prop} {r : List Prop} (h : Alls (p :: r)) : p ∧ Alls r := by
  cases r with
  | nil => exact ⟨h, trivial⟩
  | cons q r => exact h
theorem Alls.app : ∀ {l r : List Prop}, Alls (l ++ r) → Alls l ∧ Alls r
  | [], r, h => ⟨trivial, h⟩
  | [p], r, h => ⟨h.cons.1, h.cons.2⟩
  | p :: q :: l, r, h => by
    have h1 := Alls.cons (r := q :: l ++ r) h
    have h2 := Alls.app (l := q :: l) h1.2
    exact ⟨⟨h1.1, h2.1⟩, h2.2⟩
/-- a number of its kind -/
def inK : IntKind → Int → Prop
  | .i64, x => -9223372036854775808 ≤ x ∧ x ≤ 9223372036854775807
  | .u64, x => 0 ≤ x ∧ x ≤ 18446744073709551615
  | .i32, x => -2147483648 ≤ x ∧ x ≤ 2147483647
  | .u32, x => 0 ≤ x ∧ x ≤ 4294967295
  | .i16, x => -32768 ≤ x ∧ x ≤ 32767
  | .u16, x => 0 ≤ x ∧ x ≤ 65535
  | .i8, x => -128 ≤ x ∧ x ≤ 127
  | .u8, x => 0 ≤ x ∧ x ≤ 255
theorem inK_wrap {k : IntKind} {x : Int} (h : inK k x) : k.wrap x = x := by
  cases k <;> simp only [inK] at h <;> simp only [IntKind.wrap, IntKind.bits, IntKind.signed, Bool.true_and, Bool.false_and, Bool.false_eq_true, if_false, decide_eq_true_eq, ge_iff_le] <;> (try split) <;> omega
/-- sums, differences, products: without the wrap -/
def exBin : BinOp → Int → Int → Option Int
  | .add, a, b => some (a + b)
  | .sub, a, b => some (a - b)
  | .mul, a, b => some (a * b)
  | .quo, a, b => some (a.tdiv b)
  | _, _, _ => none
section
variable (P : Program) (T : Par)
def isQuo : BinOp → Bool
  | .quo => true
  | _ => false
def aeffX (o : Op) (ty : TypeId) (ρ : Operand → D) (st : List Bk) : Eff := match o with
  | .binOp op t x y u => match ρ x, ρ y with
    | .val (.int k a), .val (.int k' b) => match exBin op a b with
      | some z => if k = k' then .lit (if isQuo op then b ≠ 0 ∧ inK k z else inK k z) (.val (.int k z)) else .bad
      | none => aeff P T (.binOp op t x y u) ty ρ st
    | _, _ => aeff P T (.binOp op t x y u) ty ρ st
  | .unOp .neg t x => match ρ x with
    | .val (.int k a) => .lit (inK k (0 - a)) (.val (.int k (0 - a)))
    | _ => .bad
  | .convert s d x => match P.underlying s, P.underlying d, ρ x with
    | some (.int _), some (.int k), .val (.int _ n) => .lit (inK k n) (.val (.int k n))
    | _, _, _ => aeff P T (.convert s d x) ty ρ st
  | o => aeff P T o ty ρ st
theorem aeffX_lit {o : Op} {ty : TypeId} {ρ : Operand → D} {st : List Bk} {p : Prop} {d : D} (h : aeffX P T o ty ρ st = .lit p d) (hp : p) : ∃ q, aeff P T o ty ρ st = .lit q d ∧ q := by
  unfold aeffX at h
  split at h
  · rename_i op t x y u
    split at h
    · rename_i k a k' b hx hy
      split at h
      · rename_i z hz
        split at h
        · rename_i hk
          subst hk
          simp only [Eff.lit.injEq] at h
          obtain ⟨rfl, rfl⟩ := h
          cases op <;> simp only [exBin, Option.some.injEq, reduceCtorEq] at hz
          all_goals
            subst hz
            simp only [isQuo, if_true, if_false, Bool.false_eq_true] at hp
          · exact ⟨True, by simp [aeff, aBin, hx, hy, aInt, inK_wrap hp], trivial⟩
          · exact ⟨True, by simp [aeff, aBin, hx, hy, aInt, inK_wrap hp], trivial⟩
          · exact ⟨True, by simp [aeff, aBin, hx, hy, aInt, inK_wrap hp], trivial⟩
          · exact ⟨b ≠ 0, by simp [aeff, aBin, hx, hy, aInt, inK_wrap hp.2], hp.1⟩
        · cases h
      · exact ⟨p, h, hp⟩
    · exact ⟨p, h, hp⟩
  · rename_i t x
    split at h
    · rename_i k a hx
      simp only [Eff.lit.injEq] at h
      obtain ⟨rfl, rfl⟩ := h
      exact ⟨True, by simp only [aeff, hx, aUn, inK_wrap hp], trivial⟩
    · cases h
  · rename_i s t x
    split at h
    · rename_i k0 k k1 n hs hd hx
      simp only [Eff.lit.injEq] at h
      obtain ⟨rfl, rfl⟩ := h
      exact ⟨True, by simp only [aeff, aConv, hs, hd, hx, inK_wrap hp], trivial⟩
    · exact ⟨p, h, hp⟩
  · exact ⟨p, h, hp⟩
theorem aeffX_not {o : Op} {ty : TypeId} {ρ : Operand → D} {st : List Bk} {e : Eff} (h : aeffX P T o ty ρ st = e) (hn : ∀ p d, e ≠ .lit p d) (hb : e ≠ .bad) : aeff P T o ty ρ st = e := by
  unfold aeffX at h
  (repeat' split at h) <;> first | exact h | (subst h; exact absurd rfl (hn _ _)) | (subst h; exact absurd rfl hb)
/-- operations whose condition is always met -/
def isTriv : Op → Bool
  | .move _ | .assign _ | .pick .. | .alloc _ | .box .. | .nilCheck _ => true
  | .binOp op .. => match op with
    | .lss | .leq | .gtr | .geq => true
    | _ => false
  | .unOp .not .. => true
  | .makeInterface .. | .makeFunc .. => true
  | .call { callee := .builtin .len, .. } | .call { callee := .builtin .min, .. } | .call { callee := .builtin .max, .. } => true
  | _ => false
def effP : Eff → Prop
  | .lit p _ | .get p _ | .new p _ _ _ | .put p _ _ _ | .app p _ _ _ => p
  | _ => True
theorem triv_ok {o : Op} {ty : TypeId} {ρ : Operand → D} {st : List Bk} (h : isTriv o = true) : effP (aeff P T o ty ρ st) := by
  unfold isTriv at h
  split at h <;> first | cases h | skip
  all_goals simp only [aeff]
  all_goals first
    | trivial
    | ((repeat' split) <;> trivial)
    | skip
  · rename_i op t x y u
    cases op <;> simp only [Bool.false_eq_true] at h <;> simp only [aBin] <;> (repeat' split) <;> first | trivial | (simp only [aInt]; trivial) | (simp only [aStr]; trivial) | (simp only [aNil]; (repeat' split) <;> trivial) | (simp only [aEqS]; (repeat' split) <;> trivial) | skip
  · unfold aUn; (repeat' split) <;> trivial
  · split
    · unfold aLen; (repeat' split) <;> trivial
    · trivial
end
section
variable (P : Program) (T : Par)
inductive Gd where
  | bad
  | skip (cs : List Prop) (gs : List (Nat × Bool)) (sl : List D)
  | go (cs : List Prop) (gs : List (Nat × Bool)) (sl : List D)
def assocB (gs : List (Nat × Bool)) (j : Nat) : Option Bool := match gs with
  | [] => none
  | (i, b) :: r => if i == j then some b else assocB r j
def gdec (ops : Array Oper) (o : Oper) (gs : List (Nat × Bool)) (sl : List D) : Gd := match o.guard with
  | none => .go [] gs sl
  | some (j, want) => match (ops[j]?).bind (·.dst) with
    | none => .bad
    | some t => match sl.getD t .unk with
      | .val (.bool b) => match assocB gs j with
        | some g => if g == want then .go [b = g] (gs.filter fun x => x.1 != j) (sl.set t (.val (.bool g))) else .skip [b = g] (gs.filter fun x => x.1 != j) (sl.set t (.val (.bool g)))
        | none => if b == want then .go [] gs sl else .skip [] gs sl
      | .val (.tuple _) => .skip [] gs sl
      | _ => .bad
def memN (l : List Nat) (n : Nat) : Bool := match l with
  | [] => false
  | i :: r => if i == n then true else memN r n
def rawOf (raws : List Nat) (o : Oper) : Bool := match o.dst with
  | some d => memN raws d
  | none => false
def aeffY (raws : List Nat) (o : Oper) (sl : List D) (st : List Bk) : Eff := if rawOf raws o then aeff P T o.op o.type (evD sl) st else aeffX P T o.op o.type (evD sl) st
def condOf (o : Op) (p : Prop) : List Prop := if isTriv o then [] else [p]
def runL (ops : Array Oper) (raws : List Nat) : List Oper → List (Nat × Bool) → List D → List Bk → Option (List Prop × List D × List Bk)
  | [], _, sl, st => some ([], sl, st)
  | o :: r, gs, sl, st => match gdec ops o gs sl with
    | .bad => none
    | .skip cs gs sl => (runL ops raws r gs (putD sl o.dst (.val undef)) st).map fun x => (cs ++ x.1, x.2)
    | .go cs gs sl => match aeffY P T raws o sl st with
      | .lit p d => if isLight o.op then (runL ops raws r gs (putD sl o.dst d) st).map fun x => (cs ++ condOf o.op p ++ x.1, x.2) else none
      | .get p d => if isLight o.op then none else (runL ops raws r gs (putD sl o.dst d) st).map fun x => (cs ++ condOf o.op p ++ x.1, x.2)
      | .new p b d fz => if isLight o.op then none else (runL ops raws r gs (putD sl o.dst d) (setFz st fz ++ [b])).map fun x => (cs ++ condOf o.op p ++ x.1, x.2)
      | .put p k b fz => if isE T o.op then (runL ops raws r gs (putD sl o.dst .unk) ((setFz st fz).set k b)).map fun x => (cs ++ condOf o.op p ++ x.1, x.2) else none
      | .app p k b d => if isE T o.op && !T.keep k then (runL ops raws r gs (putD (sl.map (killK k)) o.dst d) ((st.map (killBk k)).set k b)).map fun x => (cs ++ condOf o.op p ++ x.1, x.2) else none
      | _ => none
theorem set_same {sl : List D} {t : Nat} {d : D} (h : sl.getD t .unk = d) (hd : d ≠ .unk) : sl.set t d = sl := by
  subst h
  apply List.ext_getElem?
  intro i
  rw [List.getElem?_set]
  split
  · rename_i e
    subst e
    rw [List.getD_eq_getElem?_getD] at hd ⊢
    cases h : sl[t]? with
    | none => rw [h] at hd; exact absurd rfl hd
    | some x => simp; rw [List.getElem?_eq_some_iff] at h; exact h.1
  · rfl
variable {P T}
theorem gdec_go {ops : Array Oper} {o : Oper} {gs gs' : List (Nat × Bool)} {sl sl' : List D} {cs : List Prop} (h : gdec ops o gs sl = .go cs gs' sl') (hc : Alls cs) : sl' = sl ∧ ∀ {dr : Bool} {r : List Oper} {st : List Bk} {K : List D → List Bk → Prop}, goW P T ops dr o r sl st K → seqW P T ops dr (o :: r) sl st K := by
  unfold gdec at h
  split at h
  · rename_i hg
    simp only [Gd.go.injEq] at h
    exact ⟨h.2.2.symm, fun hgo => seq_none hg hgo⟩
  · rename_i j want hg
    split at h
    · cases h
    · rename_i t ht
      split at h
      · rename_i b hb
        have key : b = want → ∀ {dr : Bool} {r : List Oper} {st : List Bk} {K : List D → List Bk → Prop}, goW P T ops dr o r sl st K → seqW P T ops dr (o :: r) sl st K := fun hbw {dr r st K} hgo =>
          seq_guard (t := b) hg (by rw [ht]; simp only [Option.map_some, hb]) rfl (fun _ => hgo) (fun hx => by subst hbw; cases b <;> cases hx)
        split at h
        · rename_i g hgs
          split at h
          · rename_i hw
            simp only [Gd.go.injEq] at h
            obtain ⟨rfl, _, rfl⟩ := h
            have hbg : b = g := hc
            subst hbg
            exact ⟨set_same hb (by simp), key (by simpa using hw)⟩
          · cases h
        · split at h
          · rename_i hw
            simp only [Gd.go.injEq] at h
            exact ⟨h.2.2.symm, key (by simpa using hw)⟩
          · cases h
      · cases h
      · cases h
theorem gdec_skip {ops : Array Oper} {o : Oper} {gs gs' : List (Nat × Bool)} {sl sl' : List D} {cs : List Prop} (h : gdec ops o gs sl = .skip cs gs' sl') (hc : Alls cs) : sl' = sl ∧ ∀ {dr : Bool} {r : List Oper} {st : List Bk} {K : List D → List Bk → Prop}, seqW P T ops dr r (putD sl o.dst (.val undef)) st K → seqW P T ops dr (o :: r) sl st K := by
  unfold gdec at h
  split at h
  · cases h
  · rename_i j want hg
    split at h
    · cases h
    · rename_i t ht
      split at h
      · rename_i b hb
        have key : b = !want → ∀ {dr : Bool} {r : List Oper} {st : List Bk} {K : List D → List Bk → Prop}, seqW P T ops dr r (putD sl o.dst (.val undef)) st K → seqW P T ops dr (o :: r) sl st K := fun hbw {dr r st K} hgo =>
          seq_guard (t := b) hg (by rw [ht]; simp only [Option.map_some, hb]) rfl (fun hx => by subst hx; cases b <;> cases hbw) (fun _ => hgo)
        split at h
        · rename_i g hgs
          split at h
          · cases h
          · rename_i hw
            simp only [Gd.skip.injEq] at h
            obtain ⟨rfl, _, rfl⟩ := h
            have hbg : b = g := hc
            subst hbg
            exact ⟨set_same hb (by simp), key (by cases b <;> cases want <;> simp at hw ⊢)⟩
        · split at h
          · cases h
          · rename_i hw
            simp only [Gd.skip.injEq] at h
            exact ⟨h.2.2.symm, key (by cases b <;> cases want <;> simp at hw ⊢)⟩
      · rename_i x hb
        simp only [Gd.skip.injEq] at h
        exact ⟨h.2.2.symm, fun hgo => seq_skip (x := x) hg (by rw [ht]; simp only [Option.map_some, hb]) rfl hgo⟩
      · cases h
theorem aeffY_lit {raws : List Nat} {o : Oper} {sl : List D} {st : List Bk} {p : Prop} {d : D} (h : aeffY P T raws o sl st = .lit p d) (hp : p) : ∃ q, aeff P T o.op o.type (evD sl) st = .lit q d ∧ q := by
  unfold aeffY at h
  split at h
  · exact ⟨p, h, hp⟩
  · exact aeffX_lit P T h hp
theorem aeffY_not {raws : List Nat} {o : Oper} {sl : List D} {st : List Bk} {e : Eff} (h : aeffY P T raws o sl st = e) (hn : ∀ p d, e ≠ .lit p d) (hb : e ≠ .bad) : aeff P T o.op o.type (evD sl) st = e := by
  unfold aeffY at h
  split at h
  · exact h
  · exact aeffX_not P T h hn hb
theorem aeffX_triv {o : Op} {ty : TypeId} {ρ : Operand → D} {st : List Bk} (h : isTriv o = true) : effP (aeffX P T o ty ρ st) := by
  have h0 := triv_ok P T (o := o) (ty := ty) (ρ := ρ) (st := st) h
  unfold aeffX
  split
  · rename_i op t x y u
    split
    · split
      · rename_i z hz
        cases op <;> simp only [exBin, reduceCtorEq] at hz <;> simp [isTriv] at h
      · exact h0
    · exact h0
  · simp [isTriv] at h
  · simp [isTriv] at h
  · exact h0
theorem cond_ok {raws : List Nat} {o : Oper} {sl : List D} {st : List Bk} {e : Eff} {p : Prop} (h : aeffY P T raws o sl st = e) (he : effP e = p) (hc : Alls (condOf o.op p)) : p := by
  unfold condOf at hc
  split at hc
  · rename_i ht
    rw [← he, ← h]
    unfold aeffY
    split
    · exact triv_ok P T ht
    · exact aeffX_triv ht
  · exact hc
theorem run_sound {ops : Array Oper} {dr : Bool} {raws : List Nat} {K : List D → List Bk → Prop} : ∀ (l l' : List Oper) (gs : List (Nat × Bool)) (sl : List D) (st : List Bk) (cs : List Prop) (sl' : List D) (st' : List Bk), runL P T ops raws l gs sl st = some (cs, sl', st') → Alls cs → seqW P T ops dr l' sl' st' K → seqW P T ops dr (l ++ l') sl st K
  | [], l', gs, sl, st, cs, sl', st', h, hc, k => by
    simp only [runL, Option.some.injEq, Prod.mk.injEq] at h
    obtain ⟨_, rfl, rfl⟩ := h
    exact k
  | o :: r, l', gs, sl, st, cs, sl', st', h, hc, k => by
    simp only [runL] at h
    split at h
    · cases h
    · rename_i c1 gs1 sl1 hg
      simp only [Option.map_eq_some_iff, Prod.exists, Prod.mk.injEq] at h
      obtain ⟨c2, sl2, st2, h1, rfl, rfl, rfl⟩ := h
      obtain ⟨a1, a2⟩ := Alls.app hc
      obtain ⟨rfl, g2⟩ := gdec_skip (P := P) (T := T) hg a1
      exact g2 (run_sound r l' _ _ _ _ _ _ h1 a2 k)
    · rename_i c1 gs1 sl1 hg
      split at h
      · rename_i p d he
        split at h
        · rename_i hl
          simp only [Option.map_eq_some_iff, Prod.exists, Prod.mk.injEq] at h
          obtain ⟨c2, sl2, st2, h1, rfl, rfl, rfl⟩ := h
          obtain ⟨a1, a2⟩ := Alls.app hc
          obtain ⟨a1, a3⟩ := Alls.app a1
          obtain ⟨rfl, g2⟩ := gdec_go (P := P) (T := T) hg a1
          obtain ⟨q, e1, e2⟩ := aeffY_lit he (cond_ok he rfl a3)
          exact g2 (go_lit e1 hl e2 rfl (run_sound r l' _ _ _ _ _ _ h1 a2 k))
        · cases h
      · rename_i p d he
        split at h
        · cases h
        · rename_i hl
          simp only [Option.map_eq_some_iff, Prod.exists, Prod.mk.injEq] at h
          obtain ⟨c2, sl2, st2, h1, rfl, rfl, rfl⟩ := h
          obtain ⟨a1, a2⟩ := Alls.app hc
          obtain ⟨a1, a3⟩ := Alls.app a1
          obtain ⟨rfl, g2⟩ := gdec_go (P := P) (T := T) hg a1
          exact g2 (go_get (aeffY_not he (by simp) (by simp)) (by simpa using hl) (cond_ok he rfl a3) rfl (run_sound r l' _ _ _ _ _ _ h1 a2 k))
      · rename_i p b d fz he
        split at h
        · cases h
        · rename_i hl
          simp only [Option.map_eq_some_iff, Prod.exists, Prod.mk.injEq] at h
          obtain ⟨c2, sl2, st2, h1, rfl, rfl, rfl⟩ := h
          obtain ⟨a1, a2⟩ := Alls.app hc
          obtain ⟨a1, a3⟩ := Alls.app a1
          obtain ⟨rfl, g2⟩ := gdec_go (P := P) (T := T) hg a1
          exact g2 (go_new (aeffY_not he (by simp) (by simp)) (by simpa using hl) (cond_ok he rfl a3) rfl rfl (run_sound r l' _ _ _ _ _ _ h1 a2 k))
      · rename_i p n b fz he
        split at h
        · rename_i hl
          simp only [Option.map_eq_some_iff, Prod.exists, Prod.mk.injEq] at h
          obtain ⟨c2, sl2, st2, h1, rfl, rfl, rfl⟩ := h
          obtain ⟨a1, a2⟩ := Alls.app hc
          obtain ⟨a1, a3⟩ := Alls.app a1
          obtain ⟨rfl, g2⟩ := gdec_go (P := P) (T := T) hg a1
          exact g2 (go_put (aeffY_not he (by simp) (by simp)) hl (cond_ok he rfl a3) rfl rfl (run_sound r l' _ _ _ _ _ _ h1 a2 k))
        · cases h
      · rename_i p n b d he
        split at h
        · rename_i hl
          simp only [Bool.and_eq_true, Bool.not_eq_true'] at hl
          simp only [Option.map_eq_some_iff, Prod.exists, Prod.mk.injEq] at h
          obtain ⟨c2, sl2, st2, h1, rfl, rfl, rfl⟩ := h
          obtain ⟨a1, a2⟩ := Alls.app hc
          obtain ⟨a1, a3⟩ := Alls.app a1
          obtain ⟨rfl, g2⟩ := gdec_go (P := P) (T := T) hg a1
          exact g2 (go_app (aeffY_not he (by simp) (by simp)) hl.1 hl.2 (cond_ok he rfl a3) rfl rfl (run_sound r l' _ _ _ _ _ _ h1 a2 k))
        · cases h
      · cases h
end
end Go.Proofs.Ytgbhoceamcomfaa

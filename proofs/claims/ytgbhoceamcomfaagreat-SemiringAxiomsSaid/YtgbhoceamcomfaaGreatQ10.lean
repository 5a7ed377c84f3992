/- Texts of this claim, joined: Ab30 Ab31 Ac Ds -/
import Derived.Test.YtgbhoceamcomfaaGreatQ09
namespace Go.Proofs.YtgbhoceamcomfaaGreat
open Go.RowKit
set_option linter.unusedVariables false
set_option linter.unusedSimpArgs false
section
variable (P : Program) (T : Par)
def boundB (x : Option D) : Bool := match x with
  | none => true
  | some (.val (.int _ i)) => decide (0 ≤ i)
  | _ => false
theorem boundB_ok {x : Option D} {y n : Nat} {p : Prop} (h : aBound x y = some (p, n)) (hb : boundB x = true) : p := by
  unfold aBound at h
  split at h
  · simp only [Option.some.injEq, Prod.mk.injEq] at h; rw [← h.1]; trivial
  · simp only [Option.some.injEq, Prod.mk.injEq] at h; rw [← h.1]; simpa [boundB] using hb
  · cases h
def bndN (x : Option D) (y : Nat) : Nat := match aBound x y with
  | some (_, n) => n
  | none => 0
def sliceB (t : TypeId) (x : D) (lo hi mx : Option D) : Bool := boundB lo && boundB hi && boundB mx && match P.underlying t, x with
    | some .string, .val (.string s) => decide (bndN lo 0 ≤ bndN hi s.size) && decide (bndN hi s.size ≤ s.size)
    | some (.slice e), .osl k off n m wh => match tySz P e with
      | some sz => decide (0 < sz) && decide (bndN lo 0 ≤ bndN hi n) && decide (bndN hi n ≤ n) && decide (bndN mx (bndN hi n) = bndN hi n)
      | none => false
    | some (.slice e), x => match asRow x, tySz P e with
      | some (cs, n), some sz => decide (0 < sz) && decide (bndN lo 0 ≤ bndN hi n) && decide (bndN hi n ≤ n) && decide (bndN mx (bndN hi n) = bndN hi n)
      | _, _ => false
    | _, _ => false
theorem sliceB_ok {t : TypeId} {x : D} {lo hi mx : Option D} (hb : sliceB P t x lo hi mx = true) : effP (aSlice P t x lo hi mx) := by
  unfold sliceB at hb
  simp only [Bool.and_eq_true] at hb
  obtain ⟨⟨⟨b1, b2⟩, b3⟩, b4⟩ := hb
  unfold aSlice
  split
  · trivial
  · rename_i pl l hl
    have e1 : bndN lo 0 = l := by simp only [bndN, hl]
    have q1 := boundB_ok hl b1
    split
    · split
      · rename_i s hu _ _ ph h hh
        have e2 : bndN hi s.size = h := by simp only [bndN, hh]
        simp only [hu, e1, e2, Bool.and_eq_true, decide_eq_true_eq] at b4
        exact ⟨q1, boundB_ok hh b2, b4.1, b4.2⟩
      · trivial
    · split
      · split
        · rename_i e k off n m wh hu _ _ ph h sz hh hsz _ pm c hm
          have e2 : bndN hi n = h := by simp only [bndN, hh]
          have e3 : bndN mx h = c := by simp only [bndN, hm]
          simp only [hu, e1, e2, e3, hsz, Bool.and_eq_true, decide_eq_true_eq] at b4
          exact ⟨q1, boundB_ok hh b2, boundB_ok hm b3, b4.1.1.1, b4.1.1.2, b4.1.2, b4.2⟩
        · trivial
      · trivial
    · split
      · split
        · split
          · rename_i X _ _ e hu hno _ _ cs n sz hr hsz _ ph h hh _ pm c hm
            have e2 : bndN hi n = h := by simp only [bndN, hh]
            have e3 : bndN mx h = c := by simp only [bndN, hm]
            have b5 : (match asRow X, tySz P e with
              | some (cs, n), some sz => decide (0 < sz) && decide (bndN lo 0 ≤ bndN hi n) && decide (bndN hi n ≤ n) && decide (bndN mx (bndN hi n) = bndN hi n)
              | _, _ => false) = true := by
              rw [hu] at b4
              revert b4
              cases X <;> first | exact id | (exfalso; exact hno _ _ _ _ _ rfl)
            simp only [hr, hsz, e1, e2, e3, Bool.and_eq_true, decide_eq_true_eq] at b5
            exact ⟨q1, boundB_ok hh b2, boundB_ok hm b3, b5.1.1.1, b5.1.1.2, b5.1.2, b5.2⟩
          · trivial
        · trivial
      · trivial
    · trivial
def notEmpty : List D → Bool
  | [] => false
  | _ => true
def indexAddrB (t : TypeId) (x i : D) : Bool := match i with
  | .val (.int _ i) => match P.underlying t with
    | some (.slice e) => match x with
      | .osl k off n m wh => decide (0 ≤ i) && decide (i < n)
      | .row cs n => decide (0 ≤ i) && decide (i < n) && notEmpty cs
      | _ => false
    | some (.array n e) => decide (0 ≤ i) && decide (i < n)
    | _ => false
  | _ => false
theorem indexAddrB_ok {t : TypeId} {x i : D} (hb : indexAddrB P t x i = true) : effP (aIndexAddr P t x i) := by
  unfold aIndexAddr
  split
  · rename_i k i
    split
    · rename_i e hu
      split
      · simp only [indexAddrB, hu, Bool.and_eq_true, decide_eq_true_eq] at hb
        exact hb
      · rename_i cs n sz _ hsz
        simp only [indexAddrB, hu, Bool.and_eq_true, decide_eq_true_eq] at hb
        refine ⟨hb.1.1, hb.1.2, ?_⟩
        intro e; subst e; simp [notEmpty] at hb
      · trivial
    · rename_i n e hu
      simp only [indexAddrB, hu, Bool.and_eq_true, decide_eq_true_eq] at hb
      split
      · exact hb
      · exact hb
      · trivial
    · trivial
  · trivial
def indexB (t : TypeId) (x i : D) : Bool := match i with
  | .val (.int _ i) => match P.underlying t, x with
    | some (.array n e), .agg cs => match tySz P e with
      | some sz => if tyAgg P e then decide (0 ≤ i) && decide (i < n) && decide (i.toNat * sz + sz ≤ cs.length) else decide (0 ≤ i) && decide (i < n) && decide (i.toNat * sz < cs.length)
      | none => false
    | some .string, .val (.string s) => decide (0 ≤ i) && decide (i < s.size)
    | _, _ => false
  | _ => false
theorem indexB_ok {t : TypeId} {x i : D} (hb : indexB P t x i = true) : effP (aIndex P t x i) := by
  unfold indexB at hb
  unfold aIndex
  split
  · split
    · rename_i n e cs hu
      simp only [hu] at hb
      split
      · rename_i sz hsz
        simp only [hsz] at hb
        split
        · rename_i hg
          simp only [hg, if_true, Bool.and_eq_true, decide_eq_true_eq] at hb
          exact ⟨hb.1.1, hb.1.2, hb.2⟩
        · rename_i hg
          simp only [hg, if_false, Bool.and_eq_true, decide_eq_true_eq, Bool.false_eq_true] at hb
          exact ⟨hb.1.1, hb.1.2, hb.2⟩
      · trivial
    · rename_i s hu
      simp only [hu, Bool.and_eq_true, decide_eq_true_eq] at hb
      exact hb
    · trivial
  · trivial
def ldB (t : TypeId) (cs : List D) : Bool := match tySz P t with
  | none => false
  | some s => if tyAgg P t then decide (s ≤ cs.length) else decide (0 < cs.length)
theorem ldB_ok {t : TypeId} {cs : List D} (hb : ldB P t cs = true) : effP (ldP P t cs .get) := by
  unfold ldB at hb
  unfold ldP
  split
  · trivial
  · rename_i s hs
    simp only [hs] at hb
    split
    · rename_i h; simp only [h, if_true, decide_eq_true_eq] at hb; exact hb
    · rename_i h; simp only [h, if_false, decide_eq_true_eq, Bool.false_eq_true] at hb; exact hb
def fieldB (t : TypeId) (x : D) (f : Nat) : Bool := match x, fieldOf P t f with
  | .agg cs, some (o, ft) => match tySz P ft with
    | some sz => if tyAgg P ft then decide (o + sz ≤ cs.length) else decide (o < cs.length)
    | none => false
  | _, _ => false
theorem fieldB_ok {t : TypeId} {x : D} {f : Nat} (hb : fieldB P t x f = true) : effP (aField P t x f) := by
  unfold fieldB at hb
  unfold aField
  split
  · rename_i cs o ft hf
    simp only [hf] at hb
    split
    · rename_i sz hsz
      simp only [hsz] at hb
      split
      · rename_i h; simp only [h, if_true, decide_eq_true_eq] at hb; exact hb
      · rename_i h; simp only [h, if_false, decide_eq_true_eq, Bool.false_eq_true] at hb; exact hb
    · trivial
  · trivial
theorem fieldAddr_ok {t : TypeId} {x : D} {f : Nat} : effP (aFieldAddr P t x f) := by
  unfold aFieldAddr
  (repeat' split) <;> trivial
def fillB (place : Nat → Option (Nat × Nat)) : List (Nat × D) → List D → Bool
  | [], cs => true
  | (i, d) :: r, cs => match place i with
    | none => false
    | some (off, sz) => decide ((cellsOf d).length = sz) && decide (off + sz ≤ cs.length) && fillB place r (setAt cs off (cellsOf d))
theorem fillB_ok {place : Nat → Option (Nat × Nat)} : ∀ {r : List (Nat × D)} {cs x : List D} {p : Prop}, aFill place r cs = some (p, x) → fillB place r cs = true → p
  | [], cs, x, p, h, hb => by
    simp only [aFill, Option.some.injEq, Prod.mk.injEq] at h
    rw [← h.1]; trivial
  | (i, d) :: r, cs, x, p, h, hb => by
    simp only [aFill] at h
    split at h
    · cases h
    · rename_i off sz hpl
      simp only [fillB, hpl, Bool.and_eq_true, decide_eq_true_eq] at hb
      split at h
      · split at h
        · cases h
        · rename_i q y hq
          simp only [Option.some.injEq, Prod.mk.injEq] at h
          rw [← h.1]
          exact ⟨hb.1.1, hb.1.2, fillB_ok hq hb.2⟩
      · cases h
def buildB (t : TypeId) (parts : List (Nat × D)) : Bool := match zeroD P t, P.underlying t with
  | some z, some (.struct fs) => fillB (fun i => (fs[i]?).bind fun f => (tySz P f.type).map fun s => (f.offset, s)) parts z && fs.all (fun f => (tySz P f.type).isSome)
  | some z, some (.array _ e) => match tySz P e with
    | some sz => fillB (fun i => some (i * sz, sz)) parts z
    | none => false
  | _, _ => false
theorem buildB_ok {t : TypeId} {parts : List (Nat × D)} (hb : buildB P t parts = true) : effP (aBuild P t parts) := by
  unfold buildB at hb
  unfold aBuild
  split
  · rename_i z fs hz hu
    simp only [hz, hu, Bool.and_eq_true] at hb
    split
    · rename_i p cs hf
      exact ⟨fillB_ok hf hb.1, hb.2⟩
    · trivial
  · rename_i z n e hz hu
    simp only [hz, hu] at hb
    split
    · rename_i sz hsz
      simp only [hsz] at hb
      split
      · rename_i p cs hf
        exact fillB_ok hf hb
      · trivial
    · trivial
  · trivial
def buildSliceB (t : TypeId) (len : Nat) (parts : List (Nat × D)) (st : List Bk) : Bool := match P.underlying t with
  | some (.slice e) => match tySz P e, zeroD P e, frzParts st parts with
    | some sz, some z, some (ps, ks) => fillB (fun i => some (i * sz, sz)) ps (repL len z) && decide (0 < sz) && decide (z.length = sz) && decide (len * sz ≤ 16777216) && decide (len ≤ 9223372036854775807)
    | _, _, _ => false
  | _ => false
theorem buildSliceB_ok {t : TypeId} {len : Nat} {parts : List (Nat × D)} {st : List Bk} (hb : buildSliceB P t len parts st = true) : effP (aBuildSlice P t len parts st) := by
  unfold buildSliceB at hb
  unfold aBuildSlice
  split
  · rename_i e hu
    simp only [hu] at hb
    split
    · rename_i sz z ps ks h1 h2 h3
      simp only [h1, h2, h3, Bool.and_eq_true, decide_eq_true_eq] at hb
      split
      · rename_i p cs hf
        exact ⟨fillB_ok hf hb.1.1.1.1, hb.1.1.1.2, hb.1.1.2, hb.1.2, hb.2⟩
      · trivial
    · trivial
  · trivial
def makeSliceB (t : TypeId) (l c : D) : Bool := match P.underlying t, l, c with
  | some (.slice e), .val (.int _ L), .val (.int _ C) => match P.info? e, zeroD P e with
    | some i, some z => decide (0 ≤ L) && decide (L ≤ C) && decide ((i.bytes : Int) * C ≤ 281474976710656) && decide (C ≤ 281474976710656) && decide (0 < i.size) && decide (z.length = i.size)
    | _, _ => false
  | _, _, _ => false
theorem makeSliceB_ok {t : TypeId} {l c : D} {st : List Bk} (hb : makeSliceB P t l c = true) : effP (aMakeSlice P t l c st) := by
  unfold makeSliceB at hb
  unfold aMakeSlice
  split
  · rename_i e k L k' C hu
    simp only [hu] at hb
    split
    · rename_i i z h1 h2
      simp only [h1, h2, Bool.and_eq_true, decide_eq_true_eq] at hb
      exact ⟨hb.1.1.1.1.1, hb.1.1.1.1.2, hb.1.1.1.2, hb.1.1.2, hb.1.2, hb.2⟩
    · trivial
  · trivial
def appendB (t u : TypeId) (s x : D) (st : List Bk) : Bool := match P.underlying t, P.underlying u with
  | some (.slice e), some (.slice e') => match P.info? e, zeroD P e, srcCells st x with
    | some i, some z, some (xs, m) => decide (xs.length = m * i.size) && decide (0 < i.size) && decide (0 < i.bytes) && decide (e = e') && decide (z.length = i.size) && (match s with
      | .val (.slice none 0 0) => decide (m * i.bytes ≤ 140737488355328)
      | .osl k 0 n mm true => match st[k]? with
        | some b => b.arr && decide (b.cells.length = n * i.size) && decide (mm = n * i.size) && decide (b.ty = e) && decide (b.sz = i.size) && decide ((n + m) * i.bytes ≤ 140737488355328)
        | none => false
      | _ => false)
    | _, _, _ => false
  | _, _ => false
theorem appendB_ok {t u : TypeId} {s x : D} {st : List Bk} (hb : appendB P t u s x st = true) : effP (aAppend P t u s x st) := by
  unfold appendB at hb
  unfold aAppend
  split
  · rename_i e e' h1 h2
    simp only [h1, h2] at hb
    split
    · rename_i i z xs m h3 h4 h5
      simp only [h3, h4, h5, Bool.and_eq_true, decide_eq_true_eq] at hb
      obtain ⟨⟨⟨⟨⟨c1, c2⟩, c3⟩, c4⟩, c5⟩, hb⟩ := hb
      split
      · simp only [decide_eq_true_eq] at hb
        exact ⟨c1, c2, c3, c4, hb, c5⟩
      · split
        · rename_i b hk
          simp only [hk, Bool.and_eq_true, decide_eq_true_eq] at hb
          exact ⟨hb.1.1.1.1.1, hb.1.1.1.1.2, hb.1.1.1.2, hb.1.1.2, hb.1.2, c1, c2, c3, c4, hb.2, c5⟩
        · trivial
      · trivial
    · trivial
  · trivial
def storeB (t : TypeId) (a x : D) (st : List Bk) : Bool := match a, tySz P t with
    | .own k off, some sz => match st[k]? with
      | none => false
      | some e => if e.arr then match frz false st frzDepth x with
          | some (d, ks) => !e.fz && isVar d && decide ((cellsOf d).length = sz) && decide (off + sz ≤ e.cells.length) && !ks.contains k
          | none => false
        else !e.fz && isVar x && decide ((cellsOf x).length = sz) && decide (off + sz ≤ e.cells.length)
    | _, _ => false
def binB (op : BinOp) (t : TypeId) (x y : D) : Bool := match x, y with
  | .val (.int k a), .val (.int k' b) => match op with
    | .shl | .shr => decide (0 ≤ b)
    | .quo | .rem => decide (b ≠ 0)
    | _ => true
  | .val (.string a), .val (.string b) => match op with
    | .add => decide (((a.size + b.size : Nat) : Int) ≤ 9223372036854775807)
    | _ => true
  | .val (.bool _), .val (.bool _) => true
  | .row _ n, .val (.slice none 0 0) => decide (0 < n)
  | .osl _ _ n _ _, .val (.slice none 0 0) => decide (0 < n)
  | .agg _, .agg _ => true
  | _, _ => false
theorem binB_ok {op : BinOp} {t : TypeId} {x y : D} (hb : binB op t x y = true) : effP (aBin P op t x y) := by
  unfold aBin
  split
  · rename_i k a k' b
    simp only [binB] at hb
    split
    · simpa [effP] using hb
    · simpa [effP] using hb
    · split
      · cases op <;> simp only [aInt, effP] <;> first | trivial | (simpa using hb)
      · trivial
  · simp only [binB] at hb
    cases op <;> simp only [aStr, effP] <;> first | trivial | (simpa using hb)
  · (repeat' split) <;> trivial
  · simp only [binB, decide_eq_true_eq] at hb
    unfold aNil; split <;> first | exact hb | trivial
  · simp only [binB, decide_eq_true_eq] at hb
    unfold aNil; split <;> first | exact hb | trivial
  · unfold aEqS; (repeat' split) <;> trivial
  · trivial
def clearB (t : TypeId) (x : D) (st : List Bk) : Bool := match P.underlying t, x with
  | some (.slice e), .osl k off n m _ => match st[k]?, zeroD P e with
    | some b, some z => !b.fz && decide (0 < z.length) && decide (off + n * z.length ≤ b.cells.length)
    | _, _ => false
  | _, _ => false
def okB (o : Op) (ρ : Operand → D) (st : List Bk) : Bool := isTriv o || match o with
  | .build t parts => buildB P t (parts.toList.map fun p => (p.1, ρ p.2))
  | .buildSlice t len parts => buildSliceB P t len (parts.toList.map fun p => (p.1, ρ p.2)) st
  | .load t a => match ρ a with
    | .ptr cs => ldB P t cs
    | .own k off => match st[k]? with
      | some e => ldB P t (e.cells.drop off)
      | none => false
    | _ => false
  | .store t a x => storeB P t (ρ a) (ρ x) st
  | .binOp op t x y _ => binB op t (ρ x) (ρ y)
  | .unOp .. => true
  | .convert .. => true
  | .makeSlice t l c => makeSliceB P t (ρ l) (ρ c)
  | .slice t x lo hi mx => sliceB P t (ρ x) (lo.map ρ) (hi.map ρ) (mx.map ρ)
  | .fieldAddr .. => true
  | .field t x f => fieldB P t (ρ x) f
  | .indexAddr t x i => indexAddrB P t (ρ x) (ρ i)
  | .index t x i => indexB P t (ρ x) (ρ i)
  | .extract t i => match ρ t with
    | .tup cs => decide (i < cs.length)
    | _ => false
  | .call c => match c.callee with
    | .builtin .append => match c.argTypes.toList, c.args.toList with
      | [t, u], [s, x] => appendB P t u (ρ s) (ρ x) st
      | _, _ => false
    | .builtin .clear => match c.argTypes.toList, c.args.toList with
      | [t], [x] => clearB P t (ρ x) st
      | _, _ => false
    | _ => true
  | _ => false
theorem clearB_ok {t : TypeId} {x : D} {st : List Bk} (h : clearB P t x st = true) : effP (aClear P t x st) := by
  unfold clearB at h
  unfold aClear
  split
  · rename_i e k off n m wh hu
    split
    · rename_i b z hb hz
      simp only [hu, hb, hz, Bool.and_eq_true, decide_eq_true_eq, Bool.not_eq_true'] at h
      exact ⟨h.1.1, h.1.2, h.2⟩
    · trivial
  · trivial
theorem okB_ok {o : Op} {ty : TypeId} {ρ : Operand → D} {st : List Bk} (h : okB P o ρ st = true) : effP (aeff P T o ty ρ st) := by
  unfold okB at h
  rw [Bool.or_eq_true] at h
  rcases h with h | h
  · exact triv_ok P T h
  · split at h
    · simp only [aeff]; exact buildB_ok P h
    · simp only [aeff]; exact buildSliceB_ok P h
    · simp only [aeff]
      split
      · rename_i hx; simp only [hx] at h; exact ldB_ok P h
      · rename_i hx; simp only [hx] at h
        split
        · rename_i he; simp only [he] at h; exact ldB_ok P h
        · trivial
      · trivial
    · rename_i t a x
      simp only [aeff]
      unfold storeB at h
      split
      · rename_i k off sz h1 h2
        simp only [h1, h2] at h
        split
        · trivial
        · rename_i e he
          simp only [he] at h
          split
          · rename_i ha
            simp only [ha, if_true] at h
            split
            · rename_i d ks hd
              simp only [hd, Bool.and_eq_true, decide_eq_true_eq, Bool.not_eq_true'] at h
              refine ⟨h.1.1.1.1, h.1.1.1.2, h.1.1.2, h.1.2, ?_⟩
              intro hm
              rw [List.contains_iff_mem.2 hm] at h
              cases h.2
            · trivial
          · rename_i ha
            simp only [ha, if_false, Bool.and_eq_true, decide_eq_true_eq, Bool.not_eq_true', Bool.false_eq_true] at h
            exact ⟨h.1.1.1, h.1.1.2, h.1.2, h.2⟩
      · trivial
    · simp only [aeff]; exact binB_ok P h
    · simp only [aeff]; unfold aUn; split <;> trivial
    · simp only [aeff]; unfold aConv; split <;> trivial
    · simp only [aeff]; exact makeSliceB_ok P h
    · simp only [aeff]
      split
      · trivial
      · exact sliceB_ok P h
    · simp only [aeff]; exact fieldAddr_ok P
    · simp only [aeff]; exact fieldB_ok P h
    · simp only [aeff]; exact indexAddrB_ok P h
    · simp only [aeff]; exact indexB_ok P h
    · simp only [aeff]
      split
      · rename_i hx; simp only [hx, decide_eq_true_eq] at h; exact h
      · trivial
    · rename_i c
      simp only [aeff]
      split at h
      · rename_i hc
        simp only [hc]
        split
        · rename_i h1 h2; simp only [h1, h2] at h; exact appendB_ok P h
        · trivial
      · rename_i hc
        simp only [hc]
        split
        · rename_i h1 h2; simp only [h1, h2] at h; exact clearB_ok P h
        · trivial
      · rename_i hc hc'
        unfold aCallFn
        (repeat' split) <;> first | trivial | (exfalso; apply hc; assumption) | skip
        unfold aLen; (repeat' split) <;> trivial
    · cases h
end
end Go.Proofs.YtgbhoceamcomfaaGreat
namespace Go.Proofs.YtgbhoceamcomfaaGreat
open Go.RowKit
set_option linter.unusedVariables false
set_option linter.unusedSimpArgs false
abbrev CallX := FuncId → List D → Option (List Bk × D)
abbrev ActX := FuncId → List D → List Bk → Option (D × List Bk)
section
variable (P : Program) (T : Par) (call : CallX) (act : ActX)
def xgo (ops : Array Oper) (dr : Bool) (rec : List D → List Bk → Option (List D × List Bk)) (o : Oper) (sl : List D) (st : List Bk) : Option (List D × List Bk) :=
  if okB P o.op (evD sl) st then match aeff P T o.op o.type (evD sl) st with
    | .lit _ d => if isLight o.op then rec (putD sl o.dst d) st else none
    | .get _ d => if isLight o.op then none else rec (putD sl o.dst d) st
    | .new _ b d fz => if isLight o.op then none else rec (putD sl o.dst d) (setFz st fz ++ [b])
    | .call f args fz => if isLight o.op then none else match call f args with
      | some ([], x) => rec (putD sl o.dst x) (setFz st fz)
      | some (b :: bs, x) => rec (putD sl o.dst (shiftD st.length x)) (setFz st fz ++ b :: bs)
      | none => none
    | .put _ k b fz => if isE T o.op then rec (putD sl o.dst .unk) ((setFz st fz).set k b) else none
    | .app _ k b d => if isE T o.op && !T.keep k then rec (putD (sl.map (killK k)) o.dst d) ((st.map (killBk k)).set k b) else none
    | .act f args => if !isLight o.op && (!dr || isE T o.op) then match act f args st with
        | some (x, st') => rec (putD sl o.dst x) st'
        | none => none
      else none
    | .bad => none
  else none
def xseq (ops : Array Oper) (dr : Bool) : List Oper → List D → List Bk → Option (List D × List Bk)
  | [], sl, st => some (sl, st)
  | o :: r, sl, st => match o.guard with
    | none => xgo P T call act ops dr (xseq ops dr r) o sl st
    | some (j, want) => match ((ops[j]?).bind (·.dst)).map (fun t => sl.getD t .unk) with
      | some (.val (.bool b)) => if b == want then xgo P T call act ops dr (xseq ops dr r) o sl st else xseq ops dr r (putD sl o.dst (.val undef)) st
      | some (.val (.tuple _)) => xseq ops dr r (putD sl o.dst (.val undef)) st
      | _ => none
def xloop (f : List D → List Bk → Option (Exit × List D × List Bk)) : Nat → List D → List Bk → Option (Exit × List D × List Bk)
  | 0, _, _ => none
  | n + 1, sl, st => match f sl st with
    | some (.normal, sl, st) => xloop f n sl st
    | r => r
def xcode (n : Nat) : Code → List D → List Bk → Option (Exit × List D × List Bk)
  | .skip, sl, st => some (.normal, sl, st)
  | .region _ ops dr, sl, st => if dr then (if regOk T ops (greedyOrd ops ops.size []) then (xseq P T call act ops true ((greedyOrd ops ops.size []).map fun i => ops.getD i default) sl st).map fun x => (.normal, x.1, x.2) else none)
      else (xseq P T call act ops false ops.toList sl st).map fun x => (.normal, x.1, x.2)
  | .seq a b, sl, st => match xcode n a sl st with
    | some (.normal, sl, st) => xcode n b sl st
    | r => r
  | .cond c x y, sl, st => match evD sl c with
    | .val (.bool true) => xcode n x sl st
    | .val (.bool false) => xcode n y sl st
    | _ => none
  | .block id b, sl, st => match xcode n b sl st with
    | some (.exit j, sl, st) => if j = id then some (.normal, sl, st) else some (.exit j, sl, st)
    | r => r
  | .loop b, sl, st => xloop (xcode n b) n sl st
  | .exit id, sl, st => some (.exit id, sl, st)
  | .label _, sl, st => some (.normal, sl, st)
  | .ret, sl, st => some (.ret, sl, st)
  | _, _, _ => none
end
section
variable {P : Program} {T : Par} {call : CallX} {act : ActX} (hc : ∀ f args bs x, call f args = some (bs, x) → Pure P f args bs x) (ha : ∀ f args st x st', act f args st = some (x, st') → Acts P f args st [] x st')
include hc ha
theorem xgo_sound {ops : Array Oper} {dr : Bool} {o : Oper} {r : List Oper} {sl : List D} {st : List Bk} {K : List D → List Bk → Prop} {rec : List D → List Bk → Option (List D × List Bk)} {y : List D × List Bk}
    (hr : ∀ sl st, rec sl st = some y → seqW P T ops dr r sl st K) (h : xgo P T call act ops dr rec o sl st = some y) : goW P T ops dr o r sl st K := by
  unfold xgo at h
  split at h
  · rename_i hok
    have hp := okB_ok P T (ty := o.type) hok
    split at h
    · rename_i p d he
      rw [he] at hp
      split at h
      · rename_i hl; exact go_lit he hl hp rfl (hr _ _ h)
      · cases h
    · rename_i p d he
      rw [he] at hp
      split at h
      · cases h
      · rename_i hl; exact go_get he (by simpa using hl) hp rfl (hr _ _ h)
    · rename_i p b d fz he
      rw [he] at hp
      split at h
      · cases h
      · rename_i hl; exact go_new he (by simpa using hl) hp rfl rfl (hr _ _ h)
    · rename_i f args fz he
      split at h
      · cases h
      · rename_i hl
        split at h
        · rename_i x hx; exact go_call he (by simpa using hl) (hc _ _ _ _ hx) rfl rfl (hr _ _ h)
        · rename_i b bs x hx; exact go_callN he (by simpa using hl) (hc _ _ _ _ hx) rfl rfl (hr _ _ h)
        · cases h
    · rename_i p k b fz he
      rw [he] at hp
      split at h
      · rename_i hl; exact go_put he hl hp rfl rfl (hr _ _ h)
      · cases h
    · rename_i p k b d he
      rw [he] at hp
      split at h
      · rename_i hl
        simp only [Bool.and_eq_true, Bool.not_eq_true'] at hl
        exact go_app he hl.1 hl.2 hp rfl rfl (hr _ _ h)
      · cases h
    · rename_i f args he
      split at h
      · rename_i hl
        simp only [Bool.and_eq_true, Bool.not_eq_true', Bool.or_eq_true] at hl
        split at h
        · rename_i x st' hx; exact go_act he hl.1 hl.2 (ha _ _ _ _ _ hx) rfl (hr _ _ h)
        · cases h
      · cases h
    · cases h
  · cases h
theorem xseq_sound {ops : Array Oper} {dr : Bool} {K : List D → List Bk → Prop} {y : List D × List Bk} (hk : K y.1 y.2) : ∀ (l : List Oper) (sl : List D) (st : List Bk), xseq P T call act ops dr l sl st = some y → seqW P T ops dr l sl st K
  | [], sl, st, h => by
    simp only [xseq, Option.some.injEq] at h
    subst h; exact hk
  | o :: r, sl, st, h => by
    have ih := xseq_sound (ops := ops) (dr := dr) hk r
    simp only [xseq] at h
    split at h
    · rename_i hg
      exact seq_none hg (xgo_sound hc ha ih h)
    · rename_i j want hg
      split at h
      · rename_i b hb
        split at h
        · rename_i hw
          refine seq_guard hg hb rfl (fun _ => xgo_sound hc ha ih h) (fun e => ?_)
          rw [beq_iff_eq] at hw
          rw [hw] at e; cases want <;> cases e
        · rename_i hw
          refine seq_guard hg hb rfl (fun e => ?_) (fun _ => ih _ _ h)
          rw [e] at hw; simp at hw
      · rename_i x hb
        exact seq_skip (x := x) hg hb rfl (ih _ _ h)
      · cases h
theorem xcode_sound (n : Nat) : ∀ (c : Code) (Q : Exit → List D → List Bk → Prop) (sl : List D) (st : List Bk) (e : Exit) (sl' : List D) (st' : List Bk), xcode P T call act n c sl st = some (e, sl', st') → Q e sl' st' → awp P T c Q sl st := by
  intro c
  induction c with
  | skip =>
    intro Q sl st e sl' st' h q
    simp only [xcode, Option.some.injEq, Prod.mk.injEq] at h
    obtain ⟨rfl, rfl, rfl⟩ := h; exact q
  | region id ops dr =>
    intro Q sl st e sl' st' h q
    simp only [xcode] at h
    split at h
    · rename_i hd
      subst hd
      split at h
      · rename_i hok
        rw [Option.map_eq_some_iff] at h
        obtain ⟨y, h1, h2⟩ := h
        simp only [Prod.mk.injEq] at h2
        obtain ⟨rfl, rfl, rfl⟩ := h2
        exact awp_drawn _ hok rfl (xseq_sound hc ha (K := Q .normal) q _ _ _ h1)
      · cases h
    · rename_i hd
      simp only [Bool.not_eq_true] at hd
      subst hd
      rw [Option.map_eq_some_iff] at h
      obtain ⟨y, h1, h2⟩ := h
      simp only [Prod.mk.injEq] at h2
      obtain ⟨rfl, rfl, rfl⟩ := h2
      exact awp_region rfl (xseq_sound hc ha (K := Q .normal) q _ _ _ h1)
  | seq x y ihx ihy =>
    intro Q sl st e sl' st' h q
    simp only [xcode] at h
    split at h
    · rename_i sl1 st1 h1
      exact awp_seq (ihx _ _ _ _ _ _ h1 (then_normal (next_same (ihy _ _ _ _ _ _ h q))))
    · rename_i hno
      refine awp_seq (ihx _ _ _ _ _ _ h ?_)
      cases e with
      | normal => exact absurd h (hno _ _)
      | exit i => exact q
      | ret => exact q
      | _ => exact q
  | cond c x y ihx ihy =>
    intro Q sl st e sl' st' h q
    simp only [xcode] at h
    split at h
    · rename_i hb; exact cond_t hb rfl (ihx _ _ _ _ _ _ h q)
    · rename_i hb; exact cond_f hb rfl (ihy _ _ _ _ _ _ h q)
    · cases h
  | block id b ih =>
    intro Q sl st e sl' st' h q
    simp only [xcode] at h
    split at h
    · rename_i j sl1 st1 h1
      split at h
      · rename_i hj
        simp only [Option.some.injEq, Prod.mk.injEq] at h
        obtain ⟨rfl, rfl, rfl⟩ := h
        exact awp_block (ih _ _ _ _ _ _ h1 (block_hit hj q))
      · rename_i hj
        simp only [Option.some.injEq, Prod.mk.injEq] at h
        obtain ⟨rfl, rfl, rfl⟩ := h
        exact awp_block (ih _ _ _ _ _ _ h1 (block_miss hj q))
    · rename_i hno
      refine awp_block (ih _ _ _ _ _ _ h ?_)
      cases e with
      | exit i => exact absurd h (hno _ _ _)
      | _ => exact q
  | loop b ih =>
    intro Q sl st e sl' st' h q
    simp only [xcode] at h
    simp only [awp]
    refine ⟨fun m sl st => ∃ r, xloop (xcode P T call act n b) m sl st = some r ∧ Q r.1 r.2.1 r.2.2, ⟨n, sl, st, Weak.refl _ _, (e, sl', st'), h, q⟩, ?_⟩
    rintro m sl st ⟨⟨e1, s1, t1⟩, h1, h2⟩
    cases m with
    | zero => cases h1
    | succ m =>
      simp only [xloop] at h1
      split at h1
      · rename_i sl2 st2 h3
        exact ih _ _ _ _ _ _ h3 (then_normal ⟨m, sl2, st2, by omega, Weak.refl _ _, _, h1, h2⟩)
      · rename_i hno
        refine ih _ _ _ _ _ _ h1 ?_
        cases e1 with
        | normal => exact absurd h1 (hno _ _)
        | _ => exact h2
  | exit id =>
    intro Q sl st e sl' st' h q
    simp only [xcode, Option.some.injEq, Prod.mk.injEq] at h
    obtain ⟨rfl, rfl, rfl⟩ := h; exact q
  | label l =>
    intro Q sl st e sl' st' h q
    simp only [xcode, Option.some.injEq, Prod.mk.injEq] at h
    obtain ⟨rfl, rfl, rfl⟩ := h; exact q
  | ret =>
    intro Q sl st e sl' st' h q
    simp only [xcode, Option.some.injEq, Prod.mk.injEq] at h
    obtain ⟨rfl, rfl, rfl⟩ := h; exact q
  | _ => intro Q sl st e sl' st' h q; simp only [xcode, reduceCtorEq] at h
end
section
variable (P : Program)
def resB (sl : List D) (st : List Bk) : List ResultVar → Bool
  | [] => true
  | .tmp _ :: rs => resB sl st rs
  | .cell a t :: rs => (match sl.getD a .unk with
    | .ptr cs => ldB P t cs
    | .own k off => match st[k]? with
      | some e => ldB P t (e.cells.drop off)
      | none => false
    | _ => false) && resB sl st rs
theorem resB_ok {sl : List D} {st : List Bk} : ∀ {rs : List ResultVar} {cs : List Prop} {ds : List D}, resL P sl st rs = some (cs, ds) → resB P sl st rs = true → Alls cs
  | [], cs, ds, h, hb => by
    simp only [resL, Option.some.injEq, Prod.mk.injEq] at h
    rw [← h.1]; trivial
  | .tmp t :: rs, cs, ds, h, hb => by
    simp only [resL, Option.map_eq_some_iff, Prod.exists, Prod.mk.injEq] at h
    obtain ⟨c1, d1, h1, rfl, rfl⟩ := h
    exact resB_ok h1 (by simpa [resB] using hb)
  | .cell a t :: rs, cs, ds, h, hb => by
    simp only [resL] at h
    simp only [resB, Bool.and_eq_true] at hb
    split at h
    · rename_i p d he
      simp only [Option.map_eq_some_iff, Prod.exists, Prod.mk.injEq] at h
      obtain ⟨c1, d1, h1, rfl, rfl⟩ := h
      have h2 := resB_ok h1 hb.2
      have hp : p := by
        have h3 := hb.1
        simp only [resOne] at he
        split at h3
        · rename_i hx; simp only [hx] at he; have := ldB_ok P h3; rw [he] at this; exact this
        · rename_i hx
          simp only [hx] at he
          split at h3
          · rename_i hk; simp only [hk] at he; have := ldB_ok P h3; rw [he] at this; exact this
          · cases h3
        · cases h3
      cases c1 with
      | nil => exact hp
      | cons q c1 => exact ⟨hp, h2⟩
    · cases h
def retO (sl : List D) (st : List Bk) (rs : List ResultVar) : Option (Bk × Nat × Nat) := match resL P sl st rs with
  | some (_, [.osl k 0 n m true]) => match st[k]? with
    | some b => if b.arr then some (b, n, m) else none
    | none => none
  | _ => none
def retX (sl : List D) (st : List Bk) (rs : List ResultVar) : Option (List Bk × D) := if resB P sl st rs then match retO P sl st rs with
    | some (b, n, m) => some ([b], .osl 0 0 n m true)
    | none => (retC P rs sl st).map fun x => ([], x.2)
  else none
def xrun (T : Par) (spec : CallX) (specA : ActX) : Nat → CallX × ActX
  | 0 => (fun _ _ => none, fun _ _ _ => none)
  | n + 1 => (fun f args => match spec f args with
      | some x => some x
      | none => match P.funcs[f]? with
      | none => none
      | some fn => match fn.body with
        | none => none
        | some c => match xcode P { T with keep := fun _ => false } (xrun T spec specA n).1 (xrun T spec specA n).2 n c (args ++ List.replicate (fn.ntmps - args.length) .unk) [] with
          | some (.normal, sl, st) => retX P sl st fn.results.toList
          | some (.ret, sl, st) => retX P sl st fn.results.toList
          | _ => none,
    fun f args st => match specA f args st with
      | some x => some x
      | none => match P.funcs[f]? with
      | none => none
      | some fn => match fn.body with
        | none => none
        | some c => match xcode P { T with keep := fun k => k < st.length } (xrun T spec specA n).1 (xrun T spec specA n).2 n c (args ++ List.replicate (fn.ntmps - args.length) .unk) st with
          | some (.normal, sl, st) => if resB P sl st fn.results.toList then (resL P sl st fn.results.toList).map (fun x => (oneD x.2, st)) else none
          | some (.ret, sl, st) => if resB P sl st fn.results.toList then (resL P sl st fn.results.toList).map (fun x => (oneD x.2, st)) else none
          | _ => none)
variable {P}
theorem xrun_sound {T : Par} {spec : CallX} {specA : ActX} (hM : MethOk P T) (hm : P.follows .mixedOrders = true) (hs : ∀ f args bs x, spec f args = some (bs, x) → Pure P f args bs x) (hA : ∀ f args st x st', specA f args st = some (x, st') → Acts P f args st [] x st') : ∀ n, (∀ f args bs x, (xrun P T spec specA n).1 f args = some (bs, x) → Pure P f args bs x) ∧ (∀ f args st x st', (xrun P T spec specA n).2 f args st = some (x, st') → Acts P f args st [] x st')
  | 0 => ⟨fun f args bs x h => (by cases h), fun f args st x st' h => (by cases h)⟩
  | n + 1 => by
    obtain ⟨ih1, ih2⟩ := xrun_sound hM hm hs hA n
    constructor
    · intro f args bs x h
      simp only [xrun] at h
      split at h
      · rename_i y hy
        cases h
        exact hs _ _ _ _ hy
      split at h
      · cases h
      · rename_i fn hf
        split at h
        · cases h
        · rename_i c hb
          have key : ∀ e sl st, (e = .normal ∨ e = .ret) → xcode P { T with keep := fun _ => false } (xrun P T spec specA n).1 (xrun P T spec specA n).2 n c (args ++ List.replicate (fn.ntmps - args.length) .unk) [] = some (e, sl, st) → retX P sl st fn.results.toList = some (bs, x) → Pure P f args bs x := by
            intro e sl st he hx h
            unfold retX at h
            split at h
            · rename_i hres
              split at h
              · rename_i b n' m hO
                cases h
                unfold retO at hO
                split at hO
                · rename_i cs k n1 m1 h1
                  split at hO
                  · rename_i b1 hk
                    split at hO
                    · rename_i harr
                      cases hO
                      refine pure_of_awp_own (T := { T with keep := fun _ => false }) hM hm hf hb harr (xcode_sound ih1 ih2 n c _ _ _ e sl st hx ?_)
                      exact ret_list (Alls cs) _ he (by rw [h1]; rfl) (resB_ok P h1 hres) ⟨k, rfl, hk⟩
                    · cases hO
                  · cases hO
                · cases hO
              · rw [Option.map_eq_some_iff] at h
                obtain ⟨⟨cs, y⟩, h1, h2⟩ := h
                cases h2
                refine pure_of_awp (T := { T with keep := fun _ => false }) hM hm hf hb (xcode_sound ih1 ih2 n c _ _ _ e sl st hx ?_)
                have hcs : Alls cs := by
                  unfold retC at h1
                  split at h1
                  · cases h1
                  · rename_i c1 ds h2
                    rw [Option.map_eq_some_iff] at h1
                    obtain ⟨z, _, h3⟩ := h1
                    simp only [Prod.mk.injEq] at h3
                    rw [← h3.1]
                    exact resB_ok P h2 hres
                exact ret_exact (Alls cs) y he (by rw [h1]; rfl) hcs
            · cases h
          split at h
          · rename_i sl st hx; exact key _ _ _ (.inl rfl) hx h
          · rename_i sl st hx; exact key _ _ _ (.inr rfl) hx h
          · cases h
    · intro f args st x st' h
      simp only [xrun] at h
      split at h
      · rename_i y hy
        cases h
        exact hA _ _ _ _ _ hy
      split at h
      · cases h
      · rename_i fn hf
        split at h
        · cases h
        · rename_i c hb
          have key : ∀ e sl s, (e = .normal ∨ e = .ret) → xcode P { T with keep := fun k => k < st.length } (xrun P T spec specA n).1 (xrun P T spec specA n).2 n c (args ++ List.replicate (fn.ntmps - args.length) .unk) st = some (e, sl, s) → (if resB P sl s fn.results.toList then (resL P sl s fn.results.toList).map (fun x => (oneD x.2, s)) else none) = some (x, st') → Acts P f args st [] x st' := by
            intro e sl s he hx h
            split at h
            · rename_i hres
              refine acts_of_awp (T := { T with keep := fun k => k < st.length }) hM hm hf hb (fun k hk => by simpa using hk) (xcode_sound ih1 ih2 n c _ _ _ e sl s hx ?_)
              rw [Option.map_eq_some_iff] at h
              obtain ⟨⟨cs, ds⟩, h1, h2⟩ := h
              simp only [Prod.mk.injEq] at h2
              exact ret_list (Alls cs) ds he (by rw [h1]; rfl) (resB_ok P h1 hres) h2
            · cases h
          split at h
          · rename_i sl s hx; exact key _ _ _ (.inl rfl) hx h
          · rename_i sl s hx; exact key _ _ _ (.inr rfl) hx h
          · cases h
theorem pure_by_run {T : Par} {spec : CallX} {specA : ActX} (hM : MethOk P T) (hm : P.follows .mixedOrders = true) (hs : ∀ f args bs x, spec f args = some (bs, x) → Pure P f args bs x) (hA : ∀ f args st x st', specA f args st = some (x, st') → Acts P f args st [] x st') (n : Nat) {f : FuncId} {args : List D} {bs : List Bk} {x : D} (h : (xrun P T spec specA n).1 f args = some (bs, x)) : Pure P f args bs x := (xrun_sound hM hm hs hA n).1 f args bs x h
end
end Go.Proofs.YtgbhoceamcomfaaGreat
namespace Go.Proofs.YtgbhoceamcomfaaGreat
open Go.RowKit
set_option linter.unusedVariables false
set_option linter.unusedSimpArgs false
section
variable {P : Program} {I : Im} {w : World} {β : Be} {sl : List D} {st : List Bk} {tm : List Value}
theorem Fix.drew (I : Im) (w : World) (q : Nat) : Fix I w I (w.drewN q) := fun b o h => ⟨h, fun v hv => hv⟩
theorem Sim.drew (h : Sim β I w sl st tm) (q : Nat) : Sim β I (w.drewN q) sl st tm := by
  refine ⟨RelT.mono (Fix.drew I w q) β β (BeLe.refl _) _ _ h.rel, fun k b c hk => ?_, h.inj, h.fz, h.dom, h.imb⟩
  obtain ⟨e, h1, cur, h2, h3, h4, h5⟩ := h.sr k b c hk
  exact ⟨e, h1, cur, h2, h3, RelL.mono (Fix.drew I w q) _ _ (BeLe.refl _) _ _ h4, h5⟩
theorem Stp.drew (β : Be) (I : Im) (w : World) (q : Nat) : Stp β I w β I (w.drewN q) := ⟨Fix.drew _ _ _, Nat.le_refl _, fun _ _ _ => rfl, rfl, rfl, rfl, fun k b c h => .inl ⟨k, c, h⟩, fun _ _ h => .inl h⟩
theorem relL_vals {β : Be} : ∀ {us vs : List Value}, RelL I w β (us.map .val) vs → vs = us
  | [], vs, h => by simpa only [List.map_nil, RelL] using h
  | u :: us, vs, h => by
    simp only [List.map_cons, RelL, Rel] at h
    obtain ⟨v, vs', rfl, _, rfl, h⟩ := h
    rw [relL_vals h]
theorem relL_of_vals {β : Be} : ∀ {us : List Value}, (∀ v ∈ us, v.oneCell' = true) → RelL I w β (us.map .val) us
  | [], h => by simp only [List.map_nil, RelL]
  | u :: us, h => by
    simp only [List.map_cons, RelL, Rel]
    exact ⟨u, us, rfl, h u (List.mem_cons_self ..), rfl, relL_of_vals fun v hv => h v (List.mem_cons_of_mem _ hv)⟩
theorem acts_row {f : FuncId} {k n n' : Nat} {e : Bk} {wh : Bool} {us vs : List Value} (he : st[k]? = some e) (ha : e.arr = true) (hf : e.fz = false) (hc : e.cells = us.map .val) (hu : us.length = n) (hv : vs.length = n) (hn : n' ≤ n) (h1 : ∀ v ∈ vs, v.oneCell' = true)
    (h0 : n = 0 → ∀ a c w, Calls P f #[.slice a 0 c] w fun x w' => x = .returned (.slice a 0 c) ∧ w' = w)
    (h : 0 < n → ∀ b c w, (∀ j, j < n → w.cell? ⟨b, 0 + j, none⟩ = some (us.getD j undef)) → (∀ j, j < n → w.frozen? ⟨b, 0 + j, none⟩ = false) → n ≤ c → Calls P f #[.slice (some ⟨b, 0, none⟩) n c] w fun x w' => x = .returned (.slice (some ⟨b, 0, none⟩) n' c) ∧ ∃ q, w' = (w.drewN q).setCells b 0 vs) :
    Acts P f [.osl k 0 n n wh] st [] (.osl k 0 n' n' wh) (st.set k { e with cells := vs.map .val }) := by
  intro β I w xs hr hsr hinj hfz hdom hi
  simp only [RelT] at hr
  obtain ⟨v, ys, rfl, hr, rfl⟩ := hr
  have hset : n = 0 → st.set k { e with cells := vs.map .val } = st := by
    intro e0
    have e1 : us = [] := List.eq_nil_of_length_eq_zero (by omega)
    have e2 : vs = [] := List.eq_nil_of_length_eq_zero (by omega)
    have : ({ e with cells := vs.map .val } : Bk) = e := by rw [e2, ← e1, ← hc]
    rw [this]
    apply List.ext_getElem?
    intro j
    rw [List.getElem?_set]
    split
    · rename_i ej
      subst ej
      rw [he]
      have := (List.getElem?_eq_some_iff.1 he).1
      rw [if_pos this]
    · rfl
  have zero : ∀ a c, n = 0 → v = .slice a 0 c → Calls P f #[v] w fun x w' => ∃ v β' I', x = .returned v ∧ ImB I' w' ∧ Stp β I w β' I' w' ∧ (∀ k y, k ∉ ([] : List Nat) → β k = some y → β' k = some y) ∧ SR β' I' w' (st.set k { e with cells := vs.map .val }) ∧ Inj β' ∧ FZ β' I' (st.set k { e with cells := vs.map .val }) ∧ (∀ j y, β' j = some y → j < (st.set k { e with cells := vs.map .val }).length) ∧ Rel I' w' β' (.osl k 0 n' n' wh) v := by
    intro a c e0 ev
    subst ev
    refine (h0 e0 a c w).mono ?_
    rintro x w' ⟨rfl, rfl⟩
    obtain rfl : n' = 0 := by omega
    rw [hset e0]
    subst e0
    exact ⟨_, β, I, rfl, hi, Stp.refl _ _ _, fun _ _ _ h => h, hsr, hinj, hfz, hdom, hr⟩
  have hr' := hr
  simp only [Rel] at hr
  rcases hr with ⟨e0, _, rfl⟩ | ⟨e0, _, _, a, c, rfl, _⟩ | ⟨b, c, cap, hb, rfl, k1, k2, k3⟩
  · exact zero none 0 e0 rfl
  · exact zero a c e0 rfl
  · rcases Nat.eq_zero_or_pos n with e0 | hpos
    · exact zero (some ⟨b, 0, none⟩) cap e0 (by rw [e0])
    · have hs0 : Sim β I w ([] : List D) st ({ tmps := #[], defers := [] } : Act).tmps.toList := ⟨by simp only [RelT], hsr, hinj, hfz, hdom, hi⟩
      obtain ⟨e', he', cur, c1, c2, c3, c4⟩ := hsr k b c hb
      rw [he] at he'; cases he'
      rw [ha, hc] at c3
      simp only [if_true] at c3
      have ecur := relL_vals c3
      rw [List.length_map] at ecur
      have hpre := (hs0.put (off := 0) (cs := us.map .val) (vs := us) (ks := []) hb he hf (by simp) (by
          rw [ha]; simp only [if_true]
          have : ∀ v ∈ us, v.oneCell' = true := by
            have := c3.ones
            rw [List.length_map, ecur] at this
            exact this
          exact relL_of_vals this) (by simp [hc]) none undef).2.2
      refine (h hpos b cap w (fun j hj => ?_) (fun j hj => (hpre j (by omega)).2) k1).mono ?_
      · have hlt : j < cur.length := by
          rw [hc, List.length_map] at c2; omega
        have e1 : us.getD j undef = cur[j] := by
          rw [List.getD_eq_getElem?_getD, ← ecur, List.getElem?_take, if_pos (by omega), List.getElem?_eq_getElem hlt]; rfl
        rw [e1]
        simp [World.cell?, c1, hlt]
      · rintro x w' ⟨rfl, q, rfl⟩
        obtain ⟨s1, s2, s3⟩ := (hs0.drew q).put (off := 0) (cs := vs.map .val) (vs := vs) (ks := []) hb he hf (by simp) (by
          rw [ha]; simp only [if_true]; exact relL_of_vals h1) (by simp [hc]; omega) none undef
        have hset2 : setAt e.cells 0 (vs.map .val) = vs.map .val := by
          have key : ∀ (xs ys : List D) (pre : List D), xs.length = ys.length → setAt (pre ++ xs) pre.length ys = pre ++ ys := by
            intro xs ys
            induction ys generalizing xs with
            | nil => intro pre hl; cases xs with
              | nil => rfl
              | cons x xs => simp at hl
            | cons y ys ih => intro pre hl; cases xs with
              | nil => simp at hl
              | cons x xs =>
                simp only [setAt]
                have e1 : (pre ++ x :: xs).set pre.length y = (pre ++ [y]) ++ xs := by simp
                rw [e1]
                have := ih xs (pre ++ [y]) (by simpa using hl)
                simp only [List.length_append, List.length_cons, List.length_nil] at this
                rw [this]; simp
          exact key e.cells (vs.map .val) [] (by simp [hc]; omega)
        rw [hset2] at s1
        refine ⟨_, β, _, rfl, s1.imb, (Stp.drew β I w q).trans s2, fun _ _ _ h => h, s1.sr, s1.inj, s1.fz, s1.dom, ?_⟩
        simp only [Rel]
        exact .inr (.inr ⟨b, c, cap, hb, rfl, by omega, k2, k3⟩)
end
end Go.Proofs.YtgbhoceamcomfaaGreat
namespace Go.Proofs.YtgbhoceamcomfaaGreat
open Go.RowKit
attribute [local irreducible] seqW awp thenW nextW blockW Weak updS deadS retL Pure Acts
set_option linter.unusedVariables false
set_option linter.unusedSimpArgs false
set_option maxRecDepth 4096
theorem cloneO_nat (cs : List D) (n : Nat) (hl : cs.length = n * 1) (hn : n ≤ 1000000000) : Pure Tryz.prog 128 [.row cs n] [⟨cs, 144, 1, true, false⟩] (.osl 0 0 n (n * 1) true) := by
  by_cases h0 : n = 0
  · subst h0
    obtain rfl : cs = [] := List.eq_nil_of_length_eq_zero (by omega)
    exact clone0_nat
  have h1 : 0 < n := by omega
  refine pure_of_awp_own Tz_ok mixed Tryz.func128 rfl rfl ?_
  focus
    refine awp_seq (awp_region rfl ?_)
    refine st_end0 [] [] [] (True) [(2, nl)] (by kernel_rfl) trivial ?_
    refine awp_seq (awp_seq (awp_region rfl ?_))
    refine st_end0 [] [] [3] (0 < n) [(4, bD false)] (by kernel_rfl) (by omega) ?_
    refine cond_f (t := false) (by kernel_rfl) rfl ?_
    refine awp_skip (then_normal (next_same (awp_seq (awp_region rfl ?_))))
    refine st_run 4 [] [] ((True ∧ 0 < 1 ∧ 1 = 1 ∧ 0 ≤ 16777216 ∧ 0 ≤ 9223372036854775807) ∧ true = true ∧ 0 = 0 ∧ 0 = 0 ∧ 144 = 144 ∧ 1 = 1 ∧ List.length cs = n * 1 ∧ 0 < 1 ∧ 0 < 4 ∧ 144 = 144 ∧ (0 + n) * 4 ≤ 140737488355328 ∧ 1 = 1) [(2, D.osl 0 0 (0 + n) ((0 + n) * 1) true), (6, D.row cs n), (7, D.osl 0 0 (0 + n) ((0 + n) * 1) true)] [Bk.mk cs 144 1 true false] (by kernel_rfl) ⟨⟨trivial, (by omega)⟩, ⟨(by kernel_rfl), ⟨(by kernel_rfl), ⟨(by kernel_rfl), ⟨(by kernel_rfl), ⟨(by kernel_rfl), ⟨(by omega), ⟨(by omega), ⟨(by omega), ⟨(by kernel_rfl), (by omega)⟩⟩⟩⟩⟩⟩⟩⟩⟩⟩ ?_
    refine st_slot 2 (D.osl 0 0 (0 + n) ((0 + n) * 1) true) (D.osl 0 0 n n true) (by kernel_rfl) (by simp (disch := omega) only [Nat.zero_add, Nat.mul_one]) (by kernel_rfl) ?_
    refine st_end0 [] [] [0, 4, 6, 7] (True) [] (by kernel_rfl) trivial ?_
    refine awp_ret ?_
    refine ret_list (True) [D.osl 0 0 n n true] (.inr rfl) (by kernel_rfl) trivial ?_
    rotate_left
  exact ⟨0, by simp [oneD], rfl⟩
theorem clone_nat (cs : List D) (n : Nat) (hl : cs.length = n * 1) (hn : n ≤ 1000000000) : Pure Tryz.prog 128 [.row cs n] [] (.row cs n) := (cloneO_nat cs n hl hn).frozen rfl (List.take_of_length_le (by show cs.length ≤ _; omega))
theorem cloneO_ints (cs : List D) (n : Nat) (hl : cs.length = n * 1) (hn : n ≤ 1000000000) : Pure Tryz.prog 107 [.row cs n] [⟨cs, 3, 1, true, false⟩] (.osl 0 0 n (n * 1) true) := by
  by_cases h0 : n = 0
  · subst h0
    obtain rfl : cs = [] := List.eq_nil_of_length_eq_zero (by omega)
    exact clone0_ints
  have h1 : 0 < n := by omega
  refine pure_of_awp_own Tz_ok mixed Tryz.func107 rfl rfl ?_
  focus
    refine awp_seq (awp_region rfl ?_)
    refine st_end0 [] [] [] (True) [(2, nl)] (by kernel_rfl) trivial ?_
    refine awp_seq (awp_seq (awp_region rfl ?_))
    refine st_end0 [] [] [3] (0 < n) [(4, bD false)] (by kernel_rfl) (by omega) ?_
    refine cond_f (t := false) (by kernel_rfl) rfl ?_
    refine awp_skip (then_normal (next_same (awp_seq (awp_region rfl ?_))))
    refine st_run 4 [] [] ((True ∧ 0 < 1 ∧ 1 = 1 ∧ 0 ≤ 16777216 ∧ 0 ≤ 9223372036854775807) ∧ true = true ∧ 0 = 0 ∧ 0 = 0 ∧ 3 = 3 ∧ 1 = 1 ∧ List.length cs = n * 1 ∧ 0 < 1 ∧ 0 < 8 ∧ 3 = 3 ∧ (0 + n) * 8 ≤ 140737488355328 ∧ 1 = 1) [(2, D.osl 0 0 (0 + n) ((0 + n) * 1) true), (6, D.row cs n), (7, D.osl 0 0 (0 + n) ((0 + n) * 1) true)] [Bk.mk cs 3 1 true false] (by kernel_rfl) ⟨⟨trivial, (by omega)⟩, ⟨(by kernel_rfl), ⟨(by kernel_rfl), ⟨(by kernel_rfl), ⟨(by kernel_rfl), ⟨(by kernel_rfl), ⟨(by omega), ⟨(by omega), ⟨(by omega), ⟨(by kernel_rfl), (by omega)⟩⟩⟩⟩⟩⟩⟩⟩⟩⟩ ?_
    refine st_slot 2 (D.osl 0 0 (0 + n) ((0 + n) * 1) true) (D.osl 0 0 n n true) (by kernel_rfl) (by simp (disch := omega) only [Nat.zero_add, Nat.mul_one]) (by kernel_rfl) ?_
    refine st_end0 [] [] [0, 4, 6, 7] (True) [] (by kernel_rfl) trivial ?_
    refine awp_ret ?_
    refine ret_list (True) [D.osl 0 0 n n true] (.inr rfl) (by kernel_rfl) trivial ?_
    rotate_left
  exact ⟨0, by simp [oneD], rfl⟩
set_option maxHeartbeats 1000000 in
theorem concat_ints (l : List (List D)) (n : Nat) (hl : l.length = n) (hn : l.flatten.length ≤ 1000000) (hm : n ≤ 1000000) : Pure Tryz.prog 85 [.row (l.map rowD) n] [] (rowD l.flatten) := by
  subst hl
  refine pure_of_awp Tz_ok mixed Tryz.func85 rfl ?_
  focus
    refine awp_seq (awp_region rfl ?_)
    refine st_end0 [] [] [] (True) [(2, nl)] (by kernel_rfl) trivial ?_
    refine awp_seq (awp_region rfl ?_)
    refine st_end0 [] [] [] (True) [(3, iD 0)] (by kernel_rfl) trivial ?_
    refine awp_seq (awp_seq (awp_region rfl ?_))
    refine st_end0 [] [] [] (True) [(9, D.row (List.map rowD l) (List.length l)), (10, iD (↑(List.length l) : Int)), (11, iD 0)] (by kernel_rfl) trivial ?_
    refine awp_block ?_
    rotate_left
  refine awp_loop1 (fun (i : Nat) => [D.row (List.map rowD l) (List.length l), U, nl, iD (↑(List.length (List.flatten (List.take i l))) : Int), U, U, U, U, U, D.row (List.map rowD l) (List.length l), iD (↑(List.length l) : Int), iD (↑i : Int), U, U, U, U, U, U, U, U, U, U, U, U, U, U, U, U, U, U, U, U, U, U, U, U]) (fun i => []) (fun i => l.length - i) (fun i => i ≤ l.length) 0 ?_ ?_ ?_
  · omega
  · refine weak_run [(0, 1), (2, 1), (3, 1), (9, 1), (10, 1), (11, 1)] (D.row (List.map rowD l) (List.length l) = D.row (List.map rowD l) (List.length l) ∧ nl = nl ∧ iD 0 = iD (↑(List.length (List.flatten (List.take 0 l))) : Int) ∧ D.row (List.map rowD l) (List.length l) = D.row (List.map rowD l) (List.length l) ∧ iD (↑(List.length l) : Int) = iD (↑(List.length l) : Int) ∧ iD 0 = iD (↑(0 : Nat) : Int)) 0 [] (by kernel_rfl) ⟨rfl, rfl, (by kernel_rfl), rfl, rfl, (by kernel_rfl)⟩ (by kernel_rfl) (fun _ _ => rfl) (by kernel_rfl)
  rintro i h1
  have h2 := flat_le l i
  have h3 := flat_le l (i + 1)
  have h4 : i < l.length → (l.take (i + 1)).flatten.length = (l.take i).flatten.length + (l.getD i []).length := fun h => by rw [flat_succ l i h, List.length_append]
  focus
    refine awp_seq (awp_region rfl ?_)
    refine st_end0 [] [] [] (True) [(12, bD (decide ((↑i : Int) < (↑(List.length l) : Int))))] (by kernel_rfl) trivial ?_
    refine awp_seq ?_
    refine awp_cond (t := decide ((↑i : Int) < (↑(List.length l) : Int))) (by kernel_rfl) (fun hc => ?_) (fun hc => ?_)
    simp only [decide_eq_true_eq] at hc
    refine awp_skip (then_normal (next_same (awp_seq (awp_block (awp_seq (awp_region rfl ?_))))))
    refine st_run0 1 [] [] ((0 : Int) ≤ (↑i : Int) ∧ (↑i : Int) < (↑(List.length l) : Int) ∧ List.map rowD l ≠ []) [(13, D.ptr (List.drop (Int.toNat (↑i : Int) * 1) (List.map rowD l)))] (by kernel_rfl) ⟨(by omega), ⟨(by omega), (by exact map_ne (by omega))⟩⟩ ?_
    refine st_slot 13 (D.ptr (List.drop (Int.toNat (↑i : Int) * 1) (List.map rowD l))) (D.ptr (List.drop i (List.map rowD l))) (by kernel_rfl) (by simp (disch := omega) only [Int.toNat_natCast, Nat.mul_one]) (by kernel_rfl) ?_
    refine st_run0 1 [] [] (0 < List.length (List.drop i (List.map rowD l))) [(14, List.headD (List.drop i (List.map rowD l)) U)] (by kernel_rfl) (by (simp; omega)) ?_
    refine st_slot 14 (List.headD (List.drop i (List.map rowD l)) U) (rowD (List.getD l i [])) (by kernel_rfl) (by simp (disch := omega) only [headD_rows]) (by kernel_rfl) ?_
    refine st_end0 [] [] [12, 13, 14] (True) [(5, D.row (List.getD l i []) (List.length (List.getD l i [])))] (by kernel_rfl) trivial ?_
    refine awp_seq (awp_region rfl ?_)
    refine st_end0 [] [] [5, 15, 16, 17, 18] (-9223372036854775808 ≤ (↑(List.length (List.flatten (List.take i l))) : Int) + (↑(List.length (List.getD l i [])) : Int) ∧ (↑(List.length (List.flatten (List.take i l))) : Int) + (↑(List.length (List.getD l i [])) : Int) ≤ 9223372036854775807) [(3, iD ((↑(List.length (List.flatten (List.take i l))) : Int) + (↑(List.length (List.getD l i [])) : Int)))] (by kernel_rfl) (by omega) ?_
    refine awp_seq (awp_region rfl ?_)
    refine st_end0 [] [] [19] (True) [(20, bD (decide ((↑(List.length (List.flatten (List.take i l))) : Int) + (↑(List.length (List.getD l i [])) : Int) < 0)))] (by kernel_rfl) trivial ?_
    refine cond_f (t := decide ((↑(List.length (List.flatten (List.take i l))) : Int) + (↑(List.length (List.getD l i [])) : Int) < 0)) (by kernel_rfl) (by kernel_rfl) ?_
    refine awp_skip (block_normal (then_normal (next_same (awp_region rfl ?_))))
    refine st_run0 2 [] [] (-9223372036854775808 ≤ (↑i : Int) + (1 : Int) ∧ (↑i : Int) + (1 : Int) ≤ 9223372036854775807) [(11, iD ((↑i : Int) + (1 : Int))), (22, iD ((↑i : Int) + (1 : Int)))] (by kernel_rfl) (by omega) ?_
    refine st_nil ?_ (by kernel_rfl)
    refine then_normal ?_
    rotate_left
    simp only [decide_eq_false_iff_not] at hc
    refine awp_exit (then_exit (then_exit (block_hit rfl (then_normal (next_same (awp_seq (awp_region rfl ?_)))))))
    refine st_run0 1 [] [] (True) [(23, iD (↑(List.length (List.flatten (List.take i l))) : Int))] (by kernel_rfl) trivial ?_
    refine st_callN [] [] [nl, iD (↑(List.length (List.flatten (List.take i l))) : Int)] [] [nl, iD (↑(List.length (List.flatten (List.take i l))) : Int)] (by kernel_rfl) trivial (LeL.refl _) (by exact grow_ints _ (by omega)) ?_
    refine st_end0 [] [] [3, 9, 10, 11, 12, 23, 24] (True) [(6, D.osl 0 0 0 0 true)] (by kernel_rfl) trivial ?_
    refine awp_seq (awp_seq (awp_region rfl ?_))
    refine st_end0 [] [] [0] (True) [(25, D.row (List.map rowD l) (List.length l)), (26, iD (↑(List.length l) : Int)), (27, iD 0)] (by kernel_rfl) trivial ?_
    refine awp_block ?_
    rotate_left
  · refine ⟨i + 1, by omega, by omega, ?_⟩
    rw [h4 (by omega)]
    refine weak_run [(0, 1), (2, 1), (3, 1), (9, 1), (10, 1), (11, 1)] (D.row (List.map rowD l) (List.length l) = D.row (List.map rowD l) (List.length l) ∧ nl = nl ∧ iD ((↑(List.length (List.flatten (List.take i l))) : Int) + (↑(List.length (List.getD l i [])) : Int)) = iD (↑(List.length (List.flatten (List.take i l)) + List.length (List.getD l i [])) : Int) ∧ D.row (List.map rowD l) (List.length l) = D.row (List.map rowD l) (List.length l) ∧ iD (↑(List.length l) : Int) = iD (↑(List.length l) : Int) ∧ iD ((↑i : Int) + (1 : Int)) = iD (↑(i + 1) : Int)) 0 [] (by kernel_rfl) ⟨rfl, rfl, (by kernel_rfl), rfl, rfl, (by kernel_rfl)⟩ (by kernel_rfl) (fun _ _ => rfl) (by kernel_rfl)
  · refine awp_loop1 (fun (j : Nat) => [U, U, nl, U, U, U, D.osl 0 0 (List.length (List.flatten (List.take j l))) (List.length (List.flatten (List.take j l))) true, U, U, U, U, U, U, U, U, U, U, U, U, U, U, U, U, U, U, D.row (List.map rowD l) (List.length l), iD (↑(List.length l) : Int), iD (↑j : Int), U, U, U, U, U, U, U, U]) (fun j => [⟨(l.take j).flatten, 3, 1, true, false⟩]) (fun j => l.length - j) (fun j => j ≤ l.length) 0 ?_ ?_ ?_
    · omega
    · refine weak_run [(2, 1), (6, 1), (25, 1), (26, 1), (27, 1)] (nl = nl ∧ D.osl 0 0 0 0 true = D.osl 0 0 (List.length (List.flatten (List.take 0 l))) (List.length (List.flatten (List.take 0 l))) true ∧ D.row (List.map rowD l) (List.length l) = D.row (List.map rowD l) (List.length l) ∧ iD (↑(List.length l) : Int) = iD (↑(List.length l) : Int) ∧ iD 0 = iD (↑(0 : Nat) : Int)) 1 [] (by kernel_rfl) ⟨rfl, (by kernel_rfl), rfl, rfl, (by kernel_rfl)⟩ (by kernel_rfl) (fun _ _ => rfl) (by kernel_rfl)
    rintro j k1
    have k2 := flat_le l j
    have k3 := flat_le l (j + 1)
    have k4 : j < l.length → (l.take (j + 1)).flatten.length = (l.take j).flatten.length + (l.getD j []).length := fun h => by rw [flat_succ l j h, List.length_append]
    focus
      refine awp_seq (awp_region rfl ?_)
      refine st_end0 [] [] [] (True) [(28, bD (decide ((↑j : Int) < (↑(List.length l) : Int))))] (by kernel_rfl) trivial ?_
      refine awp_seq ?_
      refine awp_cond (t := decide ((↑j : Int) < (↑(List.length l) : Int))) (by kernel_rfl) (fun hc => ?_) (fun hc => ?_)
      simp only [decide_eq_true_eq] at hc
      refine awp_skip (then_normal (next_same (awp_seq (awp_block (awp_seq (awp_region rfl ?_))))))
      refine st_run0 1 [] [] ((0 : Int) ≤ (↑j : Int) ∧ (↑j : Int) < (↑(List.length l) : Int) ∧ List.map rowD l ≠ []) [(29, D.ptr (List.drop (Int.toNat (↑j : Int) * 1) (List.map rowD l)))] (by kernel_rfl) ⟨(by omega), ⟨(by omega), (by exact map_ne (by omega))⟩⟩ ?_
      refine st_slot 29 (D.ptr (List.drop (Int.toNat (↑j : Int) * 1) (List.map rowD l))) (D.ptr (List.drop j (List.map rowD l))) (by kernel_rfl) (by simp (disch := omega) only [Int.toNat_natCast, Nat.mul_one]) (by kernel_rfl) ?_
      refine st_run0 1 [] [] (0 < List.length (List.drop j (List.map rowD l))) [(30, List.headD (List.drop j (List.map rowD l)) U)] (by kernel_rfl) (by (simp; omega)) ?_
      refine st_slot 30 (List.headD (List.drop j (List.map rowD l)) U) (rowD (List.getD l j [])) (by kernel_rfl) (by simp (disch := omega) only [headD_rows]) (by kernel_rfl) ?_
      refine st_end0 [] [] [28, 29, 30] (True) [(8, D.row (List.getD l j []) (List.length (List.getD l j [])))] (by kernel_rfl) trivial ?_
      refine awp_region rfl ?_
      refine st_run 4 [] [] (true = true ∧ List.length (List.flatten (List.take j l)) = List.length (List.flatten (List.take j l)) * 1 ∧ List.length (List.flatten (List.take j l)) = List.length (List.flatten (List.take j l)) * 1 ∧ 3 = 3 ∧ 1 = 1 ∧ List.length (List.getD l j []) = List.length (List.getD l j []) * 1 ∧ 0 < 1 ∧ 0 < 8 ∧ 3 = 3 ∧ (List.length (List.flatten (List.take j l)) + List.length (List.getD l j [])) * 8 ≤ 140737488355328 ∧ 1 = 1) [(6, D.osl 0 0 (List.length (List.flatten (List.take j l)) + List.length (List.getD l j [])) ((List.length (List.flatten (List.take j l)) + List.length (List.getD l j [])) * 1) true), (32, D.row (List.getD l j []) (List.length (List.getD l j []))), (33, D.osl 0 0 (List.length (List.flatten (List.take j l)) + List.length (List.getD l j [])) ((List.length (List.flatten (List.take j l)) + List.length (List.getD l j [])) * 1) true)] [Bk.mk (List.flatten (List.take j l) ++ List.getD l j []) 3 1 true false] (by kernel_rfl) ⟨(by kernel_rfl), ⟨(by simp), ⟨(by omega), ⟨(by kernel_rfl), ⟨(by kernel_rfl), ⟨(by omega), ⟨(by omega), ⟨(by omega), ⟨(by kernel_rfl), (by omega)⟩⟩⟩⟩⟩⟩⟩⟩⟩ ?_
      refine st_slot 6 (D.osl 0 0 (List.length (List.flatten (List.take j l)) + List.length (List.getD l j [])) ((List.length (List.flatten (List.take j l)) + List.length (List.getD l j [])) * 1) true) (D.osl 0 0 (List.length (List.flatten (List.take j l)) + List.length (List.getD l j [])) (List.length (List.flatten (List.take j l)) + List.length (List.getD l j [])) true) (by kernel_rfl) (by simp (disch := omega) only [Nat.mul_one]) (by kernel_rfl) ?_
      refine st_nil ?_ (by kernel_rfl)
      refine block_normal (then_normal (next_same (awp_region rfl ?_)))
      refine st_run0 2 [] [] (-9223372036854775808 ≤ (↑j : Int) + (1 : Int) ∧ (↑j : Int) + (1 : Int) ≤ 9223372036854775807) [(27, iD ((↑j : Int) + (1 : Int))), (34, iD ((↑j : Int) + (1 : Int)))] (by kernel_rfl) (by omega) ?_
      refine st_nil ?_ (by kernel_rfl)
      refine then_normal ?_
      rotate_left
      simp only [decide_eq_false_iff_not] at hc
      refine awp_exit (then_exit (then_exit (block_hit rfl (then_normal (next_same (awp_seq (awp_region rfl ?_)))))))
      refine st_end0 [] [] [6, 25, 26, 27, 28, 35] (True) [(2, D.osl 0 0 (List.length (List.flatten (List.take j l))) (List.length (List.flatten (List.take j l))) true)] (by kernel_rfl) trivial ?_
      refine awp_ret ?_
      refine ret_run (True) (D.row (List.take (List.length (List.flatten (List.take j l))) (List.drop 0 (List.flatten (List.take j l)))) (List.length (List.flatten (List.take j l)))) (D.row (List.take (List.length (List.flatten (List.take j l))) (List.flatten (List.take j l))) (List.length (List.flatten (List.take j l)))) (.inr rfl) (by kernel_rfl) trivial (by simp (disch := omega) only [List.drop_zero]) ?_
      rotate_left
    · refine ⟨j + 1, by omega, by omega, ?_⟩
      have k5 := flat_succ l j (by omega)
      rw [k5]
      refine weak_run [(2, 1), (6, 1), (25, 1), (26, 1), (27, 1)] (nl = nl ∧ D.osl 0 0 (List.length (List.flatten (List.take j l)) + List.length (List.getD l j [])) (List.length (List.flatten (List.take j l)) + List.length (List.getD l j [])) true = D.osl 0 0 (List.length (List.flatten (List.take j l) ++ List.getD l j [])) (List.length (List.flatten (List.take j l) ++ List.getD l j [])) true ∧ D.row (List.map rowD l) (List.length l) = D.row (List.map rowD l) (List.length l) ∧ iD (↑(List.length l) : Int) = iD (↑(List.length l) : Int) ∧ iD ((↑j : Int) + (1 : Int)) = iD (↑(j + 1) : Int)) 1 [] (by kernel_rfl) ⟨rfl, (by simp), rfl, rfl, (by kernel_rfl)⟩ (by kernel_rfl) (fun _ _ => rfl) (by kernel_rfl)
    · obtain rfl : j = l.length := by omega
      rw [List.take_length, List.take_length]
set_option maxHeartbeats 1000000 in
theorem concat_why (l : List (List D)) (n : Nat) (hl : l.length = n) (hn : l.flatten.length ≤ 1000000) (hm : n ≤ 1000000) : Pure Tryz.prog 84 [.row (l.map rowD) n] [] (rowD l.flatten) := by
  subst hl
  refine pure_of_awp Tz_ok mixed Tryz.func84 rfl ?_
  focus
    refine awp_seq (awp_region rfl ?_)
    refine st_end0 [] [] [] (True) [(2, nl)] (by kernel_rfl) trivial ?_
    refine awp_seq (awp_region rfl ?_)
    refine st_end0 [] [] [] (True) [(3, iD 0)] (by kernel_rfl) trivial ?_
    refine awp_seq (awp_seq (awp_region rfl ?_))
    refine st_end0 [] [] [] (True) [(9, D.row (List.map rowD l) (List.length l)), (10, iD (↑(List.length l) : Int)), (11, iD 0)] (by kernel_rfl) trivial ?_
    refine awp_block ?_
    rotate_left
  refine awp_loop1 (fun (i : Nat) => [D.row (List.map rowD l) (List.length l), U, nl, iD (↑(List.length (List.flatten (List.take i l))) : Int), U, U, U, U, U, D.row (List.map rowD l) (List.length l), iD (↑(List.length l) : Int), iD (↑i : Int), U, U, U, U, U, U, U, U, U, U, U, U, U, U, U, U, U, U, U, U, U, U, U, U]) (fun i => []) (fun i => l.length - i) (fun i => i ≤ l.length) 0 ?_ ?_ ?_
  · omega
  · refine weak_run [(0, 1), (2, 1), (3, 1), (9, 1), (10, 1), (11, 1)] (D.row (List.map rowD l) (List.length l) = D.row (List.map rowD l) (List.length l) ∧ nl = nl ∧ iD 0 = iD (↑(List.length (List.flatten (List.take 0 l))) : Int) ∧ D.row (List.map rowD l) (List.length l) = D.row (List.map rowD l) (List.length l) ∧ iD (↑(List.length l) : Int) = iD (↑(List.length l) : Int) ∧ iD 0 = iD (↑(0 : Nat) : Int)) 0 [] (by kernel_rfl) ⟨rfl, rfl, (by kernel_rfl), rfl, rfl, (by kernel_rfl)⟩ (by kernel_rfl) (fun _ _ => rfl) (by kernel_rfl)
  rintro i h1
  have h2 := flat_le l i
  have h3 := flat_le l (i + 1)
  have h4 : i < l.length → (l.take (i + 1)).flatten.length = (l.take i).flatten.length + (l.getD i []).length := fun h => by rw [flat_succ l i h, List.length_append]
  focus
    refine awp_seq (awp_region rfl ?_)
    refine st_end0 [] [] [] (True) [(12, bD (decide ((↑i : Int) < (↑(List.length l) : Int))))] (by kernel_rfl) trivial ?_
    refine awp_seq ?_
    refine awp_cond (t := decide ((↑i : Int) < (↑(List.length l) : Int))) (by kernel_rfl) (fun hc => ?_) (fun hc => ?_)
    simp only [decide_eq_true_eq] at hc
    refine awp_skip (then_normal (next_same (awp_seq (awp_block (awp_seq (awp_region rfl ?_))))))
    refine st_run0 1 [] [] ((0 : Int) ≤ (↑i : Int) ∧ (↑i : Int) < (↑(List.length l) : Int) ∧ List.map rowD l ≠ []) [(13, D.ptr (List.drop (Int.toNat (↑i : Int) * 1) (List.map rowD l)))] (by kernel_rfl) ⟨(by omega), ⟨(by omega), (by exact map_ne (by omega))⟩⟩ ?_
    refine st_slot 13 (D.ptr (List.drop (Int.toNat (↑i : Int) * 1) (List.map rowD l))) (D.ptr (List.drop i (List.map rowD l))) (by kernel_rfl) (by simp (disch := omega) only [Int.toNat_natCast, Nat.mul_one]) (by kernel_rfl) ?_
    refine st_run0 1 [] [] (0 < List.length (List.drop i (List.map rowD l))) [(14, List.headD (List.drop i (List.map rowD l)) U)] (by kernel_rfl) (by (simp; omega)) ?_
    refine st_slot 14 (List.headD (List.drop i (List.map rowD l)) U) (rowD (List.getD l i [])) (by kernel_rfl) (by simp (disch := omega) only [headD_rows]) (by kernel_rfl) ?_
    refine st_end0 [] [] [12, 13, 14] (True) [(5, D.row (List.getD l i []) (List.length (List.getD l i [])))] (by kernel_rfl) trivial ?_
    refine awp_seq (awp_region rfl ?_)
    refine st_end0 [] [] [5, 15, 16, 17, 18] (-9223372036854775808 ≤ (↑(List.length (List.flatten (List.take i l))) : Int) + (↑(List.length (List.getD l i [])) : Int) ∧ (↑(List.length (List.flatten (List.take i l))) : Int) + (↑(List.length (List.getD l i [])) : Int) ≤ 9223372036854775807) [(3, iD ((↑(List.length (List.flatten (List.take i l))) : Int) + (↑(List.length (List.getD l i [])) : Int)))] (by kernel_rfl) (by omega) ?_
    refine awp_seq (awp_region rfl ?_)
    refine st_end0 [] [] [19] (True) [(20, bD (decide ((↑(List.length (List.flatten (List.take i l))) : Int) + (↑(List.length (List.getD l i [])) : Int) < 0)))] (by kernel_rfl) trivial ?_
    refine cond_f (t := decide ((↑(List.length (List.flatten (List.take i l))) : Int) + (↑(List.length (List.getD l i [])) : Int) < 0)) (by kernel_rfl) (by kernel_rfl) ?_
    refine awp_skip (block_normal (then_normal (next_same (awp_region rfl ?_))))
    refine st_run0 2 [] [] (-9223372036854775808 ≤ (↑i : Int) + (1 : Int) ∧ (↑i : Int) + (1 : Int) ≤ 9223372036854775807) [(11, iD ((↑i : Int) + (1 : Int))), (22, iD ((↑i : Int) + (1 : Int)))] (by kernel_rfl) (by omega) ?_
    refine st_nil ?_ (by kernel_rfl)
    refine then_normal ?_
    rotate_left
    simp only [decide_eq_false_iff_not] at hc
    refine awp_exit (then_exit (then_exit (block_hit rfl (then_normal (next_same (awp_seq (awp_region rfl ?_)))))))
    refine st_run0 1 [] [] (True) [(23, iD (↑(List.length (List.flatten (List.take i l))) : Int))] (by kernel_rfl) trivial ?_
    refine st_callN [] [] [nl, iD (↑(List.length (List.flatten (List.take i l))) : Int)] [] [nl, iD (↑(List.length (List.flatten (List.take i l))) : Int)] (by kernel_rfl) trivial (LeL.refl _) (by exact grow_why _ (by omega)) ?_
    refine st_end0 [] [] [3, 9, 10, 11, 12, 23, 24] (True) [(6, D.osl 0 0 0 0 true)] (by kernel_rfl) trivial ?_
    refine awp_seq (awp_seq (awp_region rfl ?_))
    refine st_end0 [] [] [0] (True) [(25, D.row (List.map rowD l) (List.length l)), (26, iD (↑(List.length l) : Int)), (27, iD 0)] (by kernel_rfl) trivial ?_
    refine awp_block ?_
    rotate_left
  · refine ⟨i + 1, by omega, by omega, ?_⟩
    rw [h4 (by omega)]
    refine weak_run [(0, 1), (2, 1), (3, 1), (9, 1), (10, 1), (11, 1)] (D.row (List.map rowD l) (List.length l) = D.row (List.map rowD l) (List.length l) ∧ nl = nl ∧ iD ((↑(List.length (List.flatten (List.take i l))) : Int) + (↑(List.length (List.getD l i [])) : Int)) = iD (↑(List.length (List.flatten (List.take i l)) + List.length (List.getD l i [])) : Int) ∧ D.row (List.map rowD l) (List.length l) = D.row (List.map rowD l) (List.length l) ∧ iD (↑(List.length l) : Int) = iD (↑(List.length l) : Int) ∧ iD ((↑i : Int) + (1 : Int)) = iD (↑(i + 1) : Int)) 0 [] (by kernel_rfl) ⟨rfl, rfl, (by kernel_rfl), rfl, rfl, (by kernel_rfl)⟩ (by kernel_rfl) (fun _ _ => rfl) (by kernel_rfl)
  · refine awp_loop1 (fun (j : Nat) => [U, U, nl, U, U, U, D.osl 0 0 (List.length (List.flatten (List.take j l))) (List.length (List.flatten (List.take j l))) true, U, U, U, U, U, U, U, U, U, U, U, U, U, U, U, U, U, U, D.row (List.map rowD l) (List.length l), iD (↑(List.length l) : Int), iD (↑j : Int), U, U, U, U, U, U, U, U]) (fun j => [⟨(l.take j).flatten, 63, 1, true, false⟩]) (fun j => l.length - j) (fun j => j ≤ l.length) 0 ?_ ?_ ?_
    · omega
    · refine weak_run [(2, 1), (6, 1), (25, 1), (26, 1), (27, 1)] (nl = nl ∧ D.osl 0 0 0 0 true = D.osl 0 0 (List.length (List.flatten (List.take 0 l))) (List.length (List.flatten (List.take 0 l))) true ∧ D.row (List.map rowD l) (List.length l) = D.row (List.map rowD l) (List.length l) ∧ iD (↑(List.length l) : Int) = iD (↑(List.length l) : Int) ∧ iD 0 = iD (↑(0 : Nat) : Int)) 1 [] (by kernel_rfl) ⟨rfl, (by kernel_rfl), rfl, rfl, (by kernel_rfl)⟩ (by kernel_rfl) (fun _ _ => rfl) (by kernel_rfl)
    rintro j k1
    have k2 := flat_le l j
    have k3 := flat_le l (j + 1)
    have k4 : j < l.length → (l.take (j + 1)).flatten.length = (l.take j).flatten.length + (l.getD j []).length := fun h => by rw [flat_succ l j h, List.length_append]
    focus
      refine awp_seq (awp_region rfl ?_)
      refine st_end0 [] [] [] (True) [(28, bD (decide ((↑j : Int) < (↑(List.length l) : Int))))] (by kernel_rfl) trivial ?_
      refine awp_seq ?_
      refine awp_cond (t := decide ((↑j : Int) < (↑(List.length l) : Int))) (by kernel_rfl) (fun hc => ?_) (fun hc => ?_)
      simp only [decide_eq_true_eq] at hc
      refine awp_skip (then_normal (next_same (awp_seq (awp_block (awp_seq (awp_region rfl ?_))))))
      refine st_run0 1 [] [] ((0 : Int) ≤ (↑j : Int) ∧ (↑j : Int) < (↑(List.length l) : Int) ∧ List.map rowD l ≠ []) [(29, D.ptr (List.drop (Int.toNat (↑j : Int) * 1) (List.map rowD l)))] (by kernel_rfl) ⟨(by omega), ⟨(by omega), (by exact map_ne (by omega))⟩⟩ ?_
      refine st_slot 29 (D.ptr (List.drop (Int.toNat (↑j : Int) * 1) (List.map rowD l))) (D.ptr (List.drop j (List.map rowD l))) (by kernel_rfl) (by simp (disch := omega) only [Int.toNat_natCast, Nat.mul_one]) (by kernel_rfl) ?_
      refine st_run0 1 [] [] (0 < List.length (List.drop j (List.map rowD l))) [(30, List.headD (List.drop j (List.map rowD l)) U)] (by kernel_rfl) (by (simp; omega)) ?_
      refine st_slot 30 (List.headD (List.drop j (List.map rowD l)) U) (rowD (List.getD l j [])) (by kernel_rfl) (by simp (disch := omega) only [headD_rows]) (by kernel_rfl) ?_
      refine st_end0 [] [] [28, 29, 30] (True) [(8, D.row (List.getD l j []) (List.length (List.getD l j [])))] (by kernel_rfl) trivial ?_
      refine awp_region rfl ?_
      refine st_run 4 [] [] (true = true ∧ List.length (List.flatten (List.take j l)) = List.length (List.flatten (List.take j l)) * 1 ∧ List.length (List.flatten (List.take j l)) = List.length (List.flatten (List.take j l)) * 1 ∧ 63 = 63 ∧ 1 = 1 ∧ List.length (List.getD l j []) = List.length (List.getD l j []) * 1 ∧ 0 < 1 ∧ 0 < 24 ∧ 63 = 63 ∧ (List.length (List.flatten (List.take j l)) + List.length (List.getD l j [])) * 24 ≤ 140737488355328 ∧ 1 = 1) [(6, D.osl 0 0 (List.length (List.flatten (List.take j l)) + List.length (List.getD l j [])) ((List.length (List.flatten (List.take j l)) + List.length (List.getD l j [])) * 1) true), (32, D.row (List.getD l j []) (List.length (List.getD l j []))), (33, D.osl 0 0 (List.length (List.flatten (List.take j l)) + List.length (List.getD l j [])) ((List.length (List.flatten (List.take j l)) + List.length (List.getD l j [])) * 1) true)] [Bk.mk (List.flatten (List.take j l) ++ List.getD l j []) 63 1 true false] (by kernel_rfl) ⟨(by kernel_rfl), ⟨(by simp), ⟨(by omega), ⟨(by kernel_rfl), ⟨(by kernel_rfl), ⟨(by omega), ⟨(by omega), ⟨(by omega), ⟨(by kernel_rfl), (by omega)⟩⟩⟩⟩⟩⟩⟩⟩⟩ ?_
      refine st_slot 6 (D.osl 0 0 (List.length (List.flatten (List.take j l)) + List.length (List.getD l j [])) ((List.length (List.flatten (List.take j l)) + List.length (List.getD l j [])) * 1) true) (D.osl 0 0 (List.length (List.flatten (List.take j l)) + List.length (List.getD l j [])) (List.length (List.flatten (List.take j l)) + List.length (List.getD l j [])) true) (by kernel_rfl) (by simp (disch := omega) only [Nat.mul_one]) (by kernel_rfl) ?_
      refine st_nil ?_ (by kernel_rfl)
      refine block_normal (then_normal (next_same (awp_region rfl ?_)))
      refine st_run0 2 [] [] (-9223372036854775808 ≤ (↑j : Int) + (1 : Int) ∧ (↑j : Int) + (1 : Int) ≤ 9223372036854775807) [(27, iD ((↑j : Int) + (1 : Int))), (34, iD ((↑j : Int) + (1 : Int)))] (by kernel_rfl) (by omega) ?_
      refine st_nil ?_ (by kernel_rfl)
      refine then_normal ?_
      rotate_left
      simp only [decide_eq_false_iff_not] at hc
      refine awp_exit (then_exit (then_exit (block_hit rfl (then_normal (next_same (awp_seq (awp_region rfl ?_)))))))
      refine st_end0 [] [] [6, 25, 26, 27, 28, 35] (True) [(2, D.osl 0 0 (List.length (List.flatten (List.take j l))) (List.length (List.flatten (List.take j l))) true)] (by kernel_rfl) trivial ?_
      refine awp_ret ?_
      refine ret_run (True) (D.row (List.take (List.length (List.flatten (List.take j l))) (List.drop 0 (List.flatten (List.take j l)))) (List.length (List.flatten (List.take j l)))) (D.row (List.take (List.length (List.flatten (List.take j l))) (List.flatten (List.take j l))) (List.length (List.flatten (List.take j l)))) (.inr rfl) (by kernel_rfl) trivial (by simp (disch := omega) only [List.drop_zero]) ?_
      rotate_left
    · refine ⟨j + 1, by omega, by omega, ?_⟩
      have k5 := flat_succ l j (by omega)
      rw [k5]
      refine weak_run [(2, 1), (6, 1), (25, 1), (26, 1), (27, 1)] (nl = nl ∧ D.osl 0 0 (List.length (List.flatten (List.take j l)) + List.length (List.getD l j [])) (List.length (List.flatten (List.take j l)) + List.length (List.getD l j [])) true = D.osl 0 0 (List.length (List.flatten (List.take j l) ++ List.getD l j [])) (List.length (List.flatten (List.take j l) ++ List.getD l j [])) true ∧ D.row (List.map rowD l) (List.length l) = D.row (List.map rowD l) (List.length l) ∧ iD (↑(List.length l) : Int) = iD (↑(List.length l) : Int) ∧ iD ((↑j : Int) + (1 : Int)) = iD (↑(j + 1) : Int)) 1 [] (by kernel_rfl) ⟨rfl, (by simp), rfl, rfl, (by kernel_rfl)⟩ (by kernel_rfl) (fun _ _ => rfl) (by kernel_rfl)
    · obtain rfl : j = l.length := by omega
      rw [List.take_length, List.take_length]
def unrow : List D → Option (List (List D))
  | [] => some []
  | .row cs n :: r => if cs.length == n then (unrow r).map (cs :: ·) else none
  | _ => none
theorem unrow_ok : ∀ {ds : List D} {l : List (List D)}, unrow ds = some l → ds = l.map rowD
  | [], l, h => by cases h; rfl
  | .row cs n :: r, l, h => by
    simp only [unrow] at h
    split at h
    · rename_i hc
      rw [Option.map_eq_some_iff] at h
      obtain ⟨l', h1, rfl⟩ := h
      rw [unrow_ok h1]
      simp only [beq_iff_eq] at hc
      subst hc; rfl
    · cases h
  | .unk :: r, l, h => by cases h
  | .val _ :: r, l, h => by cases h
  | .agg _ :: r, l, h => by cases h
  | .tup _ :: r, l, h => by cases h
  | .ptr _ :: r, l, h => by cases h
  | .clo _ _ _ :: r, l, h => by cases h
  | .ifc _ _ :: r, l, h => by cases h
  | .own _ _ :: r, l, h => by cases h
  | .osl _ _ _ _ _ :: r, l, h => by cases h
def concats : List FuncId := [85, 84]
def spec0 (f : FuncId) (args : List D) : Option (List Bk × D) := match nilRows args with
  | [.row cs n] => if f == 128 && cs.length == n && decide (n ≤ 1000000) then some ([⟨cs, 144, 1, true, false⟩], .osl 0 0 n n true)
    else if f == 107 && cs.length == n && decide (n ≤ 1000000) then some ([⟨cs, 3, 1, true, false⟩], .osl 0 0 n n true)
    else if concats.contains f && cs.length == n && decide (n ≤ 1000000) then match unrow (nilRows cs) with
      | some l => if decide (l.flatten.length ≤ 1000000) && cs.all (fun d => match d with | .row _ _ => true | _ => false) then some ([], rowD l.flatten) else none
      | none => none
    else none
  | _ => none
theorem nilRows_rows : ∀ {cs : List D}, cs.all (fun d => match d with | .row _ _ => true | _ => false) = true → nilRows cs = cs
  | [], _ => rfl
  | d :: ds, h => by
    simp only [List.all_cons, Bool.and_eq_true] at h
    simp only [nilRows, nilRows_rows h.2]
    cases d <;> first | rfl | simp at h
theorem spec0_ok (f : FuncId) (args : List D) (bs : List Bk) (x : D) (h : spec0 f args = some (bs, x)) : Pure Tryz.prog f args bs x := by
  unfold spec0 at h
  refine Pure.le (args' := nilRows args) ?_ (nilRows_le args)
  split at h
  · rename_i cs n hargs
    rw [hargs]
    split at h
    · rename_i hc
      simp only [Bool.and_eq_true, beq_iff_eq, decide_eq_true_eq] at hc
      obtain ⟨⟨rfl, h1⟩, h2⟩ := hc
      cases h
      have := cloneO_nat cs n (by omega) (by omega)
      rw [Nat.mul_one] at this
      exact this
    · split at h
      · rename_i hc
        simp only [Bool.and_eq_true, beq_iff_eq, decide_eq_true_eq] at hc
        obtain ⟨⟨rfl, h1⟩, h2⟩ := hc
        cases h
        have := cloneO_ints cs n (by omega) (by omega)
        rw [Nat.mul_one] at this
        exact this
      split at h
      · rename_i hc
        simp only [Bool.and_eq_true, beq_iff_eq, decide_eq_true_eq, concats, List.contains_iff_mem, List.mem_cons, List.not_mem_nil, or_false] at hc
        split at h
        · rename_i l hl
          split at h
          · rename_i hk
            simp only [Bool.and_eq_true, decide_eq_true_eq] at hk
            cases h
            rw [nilRows_rows hk.2] at hl
            have e := unrow_ok hl
            subst e
            obtain ⟨⟨rfl | rfl, h1⟩, h2⟩ := hc
            · exact concat_ints l n (by simpa using h1) hk.1 h2
            · exact concat_why l n (by simpa using h1) hk.1 h2
          · cases h
        · cases h
      · cases h
  · cases h
end Go.Proofs.YtgbhoceamcomfaaGreat

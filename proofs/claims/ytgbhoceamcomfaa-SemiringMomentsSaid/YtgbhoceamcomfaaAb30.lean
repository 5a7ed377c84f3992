/- Known data: whether an operation's condition is met, reckoned. -/
import Derived.Test.YtgbhoceamcomfaaAb28
namespace Go.Proofs.Ytgbhoceamcomfaa
open Go.RowKit
set_option linter.unusedVariables false
set_option linter.unusedSimpArgs false
section
variable (P : Program) (T : Par)
def boundB (x : Option D) : Bool := match x with
  | none => true
  | some (.val (.int _ i)) => decide (0 ≤ i)
  | _ => false
theorem boundB_ok {x : Option D} {y n : Nat} {p : Prop} (h : aBound x y = some (p, n)) (hb : boundB x = true) : p := by
  unfold aBound at h
  split at h
  · simp only [Option.some.injEq, Prod.mk.injEq] at h; rw [← h.1]; trivial
  · simp only [Option.some.injEq, Prod.mk.injEq] at h; rw [← h.1]; simpa [boundB] using hb
  · cases h
def bndN (x : Option D) (y : Nat) : Nat := match aBound x y with
  | some (_, n) => n
  | none => 0
def sliceB (t : TypeId) (x : D) (lo hi mx : Option D) : Bool := boundB lo && boundB hi && boundB mx && match P.underlying t, x with
    | some .string, .val (.string s) => decide (bndN lo 0 ≤ bndN hi s.size) && decide (bndN hi s.size ≤ s.size)
    | some (.slice e), .osl k off n m wh => match tySz P e with
      | some sz => decide (0 < sz) && decide (bndN lo 0 ≤ bndN hi n) && decide (bndN hi n ≤ n) && decide (bndN mx (bndN hi n) = bndN hi n)
      | none => false
    | some (.slice e), x => match asRow x, tySz P e with
      | some (cs, n), some sz => decide (0 < sz) && decide (bndN lo 0 ≤ bndN hi n) && decide (bndN hi n ≤ n) && decide (bndN mx (bndN hi n) = bndN hi n)
      | _, _ => false
    | _, _ => false
theorem sliceB_ok {t : TypeId} {x : D} {lo hi mx : Option D} (hb : sliceB P t x lo hi mx = true) : effP (aSlice P t x lo hi mx) := by
  unfold sliceB at hb
  simp only [Bool.and_eq_true] at hb
  obtain ⟨⟨⟨b1, b2⟩, b3⟩, b4⟩ := hb
  unfold aSlice
  split
  · trivial
  · rename_i pl l hl
    have e1 : bndN lo 0 = l := by simp only [bndN, hl]
    have q1 := boundB_ok hl b1
    split
    · split
      · rename_i s hu _ _ ph h hh
        have e2 : bndN hi s.size = h := by simp only [bndN, hh]
        simp only [hu, e1, e2, Bool.and_eq_true, decide_eq_true_eq] at b4
        exact ⟨q1, boundB_ok hh b2, b4.1, b4.2⟩
      · trivial
    · split
      · split
        · rename_i e k off n m wh hu _ _ ph h sz hh hsz _ pm c hm
          have e2 : bndN hi n = h := by simp only [bndN, hh]
          have e3 : bndN mx h = c := by simp only [bndN, hm]
          simp only [hu, e1, e2, e3, hsz, Bool.and_eq_true, decide_eq_true_eq] at b4
          exact ⟨q1, boundB_ok hh b2, boundB_ok hm b3, b4.1.1.1, b4.1.1.2, b4.1.2, b4.2⟩
        · trivial
      · trivial
    · split
      · split
        · split
          · rename_i X _ _ e hu hno _ _ cs n sz hr hsz _ ph h hh _ pm c hm
            have e2 : bndN hi n = h := by simp only [bndN, hh]
            have e3 : bndN mx h = c := by simp only [bndN, hm]
            have b5 : (match asRow X, tySz P e with
              | some (cs, n), some sz => decide (0 < sz) && decide (bndN lo 0 ≤ bndN hi n) && decide (bndN hi n ≤ n) && decide (bndN mx (bndN hi n) = bndN hi n)
              | _, _ => false) = true := by
              rw [hu] at b4
              revert b4
              cases X <;> first | exact id | (exfalso; exact hno _ _ _ _ _ rfl)
            simp only [hr, hsz, e1, e2, e3, Bool.and_eq_true, decide_eq_true_eq] at b5
            exact ⟨q1, boundB_ok hh b2, boundB_ok hm b3, b5.1.1.1, b5.1.1.2, b5.1.2, b5.2⟩
          · trivial
        · trivial
      · trivial
    · trivial
def notEmpty : List D → Bool
  | [] => false
  | _ => true
def indexAddrB (t : TypeId) (x i : D) : Bool := match i with
  | .val (.int _ i) => match P.underlying t with
    | some (.slice e) => match x with
      | .osl k off n m wh => decide (0 ≤ i) && decide (i < n)
      | .row cs n => decide (0 ≤ i) && decide (i < n) && notEmpty cs
      | _ => false
    | some (.array n e) => decide (0 ≤ i) && decide (i < n)
    | _ => false
  | _ => false
theorem indexAddrB_ok {t : TypeId} {x i : D} (hb : indexAddrB P t x i = true) : effP (aIndexAddr P t x i) := by
  unfold aIndexAddr
  split
  · rename_i k i
    split
    · rename_i e hu
      split
      · simp only [indexAddrB, hu, Bool.and_eq_true, decide_eq_true_eq] at hb
        exact hb
      · rename_i cs n sz _ hsz
        simp only [indexAddrB, hu, Bool.and_eq_true, decide_eq_true_eq] at hb
        refine ⟨hb.1.1, hb.1.2, ?_⟩
        intro e; subst e; simp [notEmpty] at hb
      · trivial
    · rename_i n e hu
      simp only [indexAddrB, hu, Bool.and_eq_true, decide_eq_true_eq] at hb
      split
      · exact hb
      · exact hb
      · trivial
    · trivial
  · trivial
def indexB (t : TypeId) (x i : D) : Bool := match i with
  | .val (.int _ i) => match P.underlying t, x with
    | some (.array n e), .agg cs => match tySz P e with
      | some sz => if tyAgg P e then decide (0 ≤ i) && decide (i < n) && decide (i.toNat * sz + sz ≤ cs.length) else decide (0 ≤ i) && decide (i < n) && decide (i.toNat * sz < cs.length)
      | none => false
    | some .string, .val (.string s) => decide (0 ≤ i) && decide (i < s.size)
    | _, _ => false
  | _ => false
theorem indexB_ok {t : TypeId} {x i : D} (hb : indexB P t x i = true) : effP (aIndex P t x i) := by
  unfold indexB at hb
  unfold aIndex
  split
  · split
    · rename_i n e cs hu
      simp only [hu] at hb
      split
      · rename_i sz hsz
        simp only [hsz] at hb
        split
        · rename_i hg
          simp only [hg, if_true, Bool.and_eq_true, decide_eq_true_eq] at hb
          exact ⟨hb.1.1, hb.1.2, hb.2⟩
        · rename_i hg
          simp only [hg, if_false, Bool.and_eq_true, decide_eq_true_eq, Bool.false_eq_true] at hb
          exact ⟨hb.1.1, hb.1.2, hb.2⟩
      · trivial
    · rename_i s hu
      simp only [hu, Bool.and_eq_true, decide_eq_true_eq] at hb
      exact hb
    · trivial
  · trivial
def ldB (t : TypeId) (cs : List D) : Bool := match tySz P t with
  | none => false
  | some s => if tyAgg P t then decide (s ≤ cs.length) else decide (0 < cs.length)
theorem ldB_ok {t : TypeId} {cs : List D} (hb : ldB P t cs = true) : effP (ldP P t cs .get) := by
  unfold ldB at hb
  unfold ldP
  split
  · trivial
  · rename_i s hs
    simp only [hs] at hb
    split
    · rename_i h; simp only [h, if_true, decide_eq_true_eq] at hb; exact hb
    · rename_i h; simp only [h, if_false, decide_eq_true_eq, Bool.false_eq_true] at hb; exact hb
def fieldB (t : TypeId) (x : D) (f : Nat) : Bool := match x, fieldOf P t f with
  | .agg cs, some (o, ft) => match tySz P ft with
    | some sz => if tyAgg P ft then decide (o + sz ≤ cs.length) else decide (o < cs.length)
    | none => false
  | _, _ => false
theorem fieldB_ok {t : TypeId} {x : D} {f : Nat} (hb : fieldB P t x f = true) : effP (aField P t x f) := by
  unfold fieldB at hb
  unfold aField
  split
  · rename_i cs o ft hf
    simp only [hf] at hb
    split
    · rename_i sz hsz
      simp only [hsz] at hb
      split
      · rename_i h; simp only [h, if_true, decide_eq_true_eq] at hb; exact hb
      · rename_i h; simp only [h, if_false, decide_eq_true_eq, Bool.false_eq_true] at hb; exact hb
    · trivial
  · trivial
theorem fieldAddr_ok {t : TypeId} {x : D} {f : Nat} : effP (aFieldAddr P t x f) := by
  unfold aFieldAddr
  (repeat' split) <;> trivial
def fillB (place : Nat → Option (Nat × Nat)) : List (Nat × D) → List D → Bool
  | [], cs => true
  | (i, d) :: r, cs => match place i with
    | none => false
    | some (off, sz) => decide ((cellsOf d).length = sz) && decide (off + sz ≤ cs.length) && fillB place r (setAt cs off (cellsOf d))
theorem fillB_ok {place : Nat → Option (Nat × Nat)} : ∀ {r : List (Nat × D)} {cs x : List D} {p : Prop}, aFill place r cs = some (p, x) → fillB place r cs = true → p
  | [], cs, x, p, h, hb => by
    simp only [aFill, Option.some.injEq, Prod.mk.injEq] at h
    rw [← h.1]; trivial
  | (i, d) :: r, cs, x, p, h, hb => by
    simp only [aFill] at h
    split at h
    · cases h
    · rename_i off sz hpl
      simp only [fillB, hpl, Bool.and_eq_true, decide_eq_true_eq] at hb
      split at h
      · split at h
        · cases h
        · rename_i q y hq
          simp only [Option.some.injEq, Prod.mk.injEq] at h
          rw [← h.1]
          exact ⟨hb.1.1, hb.1.2, fillB_ok hq hb.2⟩
      · cases h
def buildB (t : TypeId) (parts : List (Nat × D)) : Bool := match zeroD P t, P.underlying t with
  | some z, some (.struct fs) => fillB (fun i => (fs[i]?).bind fun f => (tySz P f.type).map fun s => (f.offset, s)) parts z && fs.all (fun f => (tySz P f.type).isSome)
  | some z, some (.array _ e) => match tySz P e with
    | some sz => fillB (fun i => some (i * sz, sz)) parts z
    | none => false
  | _, _ => false
theorem buildB_ok {t : TypeId} {parts : List (Nat × D)} (hb : buildB P t parts = true) : effP (aBuild P t parts) := by
  unfold buildB at hb
  unfold aBuild
  split
  · rename_i z fs hz hu
    simp only [hz, hu, Bool.and_eq_true] at hb
    split
    · rename_i p cs hf
      exact ⟨fillB_ok hf hb.1, hb.2⟩
    · trivial
  · rename_i z n e hz hu
    simp only [hz, hu] at hb
    split
    · rename_i sz hsz
      simp only [hsz] at hb
      split
      · rename_i p cs hf
        exact fillB_ok hf hb
      · trivial
    · trivial
  · trivial
def buildSliceB (t : TypeId) (len : Nat) (parts : List (Nat × D)) (st : List Bk) : Bool := match P.underlying t with
  | some (.slice e) => match tySz P e, zeroD P e, frzParts st parts with
    | some sz, some z, some (ps, ks) => fillB (fun i => some (i * sz, sz)) ps (repL len z) && decide (0 < sz) && decide (z.length = sz) && decide (len * sz ≤ 16777216) && decide (len ≤ 9223372036854775807)
    | _, _, _ => false
  | _ => false
theorem buildSliceB_ok {t : TypeId} {len : Nat} {parts : List (Nat × D)} {st : List Bk} (hb : buildSliceB P t len parts st = true) : effP (aBuildSlice P t len parts st) := by
  unfold buildSliceB at hb
  unfold aBuildSlice
  split
  · rename_i e hu
    simp only [hu] at hb
    split
    · rename_i sz z ps ks h1 h2 h3
      simp only [h1, h2, h3, Bool.and_eq_true, decide_eq_true_eq] at hb
      split
      · rename_i p cs hf
        exact ⟨fillB_ok hf hb.1.1.1.1, hb.1.1.1.2, hb.1.1.2, hb.1.2, hb.2⟩
      · trivial
    · trivial
  · trivial
def makeSliceB (t : TypeId) (l c : D) : Bool := match P.underlying t, l, c with
  | some (.slice e), .val (.int _ L), .val (.int _ C) => match P.info? e, zeroD P e with
    | some i, some z => decide (0 ≤ L) && decide (L ≤ C) && decide ((i.bytes : Int) * C ≤ 281474976710656) && decide (C ≤ 281474976710656) && decide (0 < i.size) && decide (z.length = i.size)
    | _, _ => false
  | _, _, _ => false
theorem makeSliceB_ok {t : TypeId} {l c : D} {st : List Bk} (hb : makeSliceB P t l c = true) : effP (aMakeSlice P t l c st) := by
  unfold makeSliceB at hb
  unfold aMakeSlice
  split
  · rename_i e k L k' C hu
    simp only [hu] at hb
    split
    · rename_i i z h1 h2
      simp only [h1, h2, Bool.and_eq_true, decide_eq_true_eq] at hb
      exact ⟨hb.1.1.1.1.1, hb.1.1.1.1.2, hb.1.1.1.2, hb.1.1.2, hb.1.2, hb.2⟩
    · trivial
  · trivial
def appendB (t u : TypeId) (s x : D) (st : List Bk) : Bool := match P.underlying t, P.underlying u with
  | some (.slice e), some (.slice e') => match P.info? e, zeroD P e, srcCells st x with
    | some i, some z, some (xs, m) => decide (xs.length = m * i.size) && decide (0 < i.size) && decide (0 < i.bytes) && decide (e = e') && decide (z.length = i.size) && (match s with
      | .val (.slice none 0 0) => decide (m * i.bytes ≤ 140737488355328)
      | .osl k 0 n mm true => match st[k]? with
        | some b => b.arr && decide (b.cells.length = n * i.size) && decide (mm = n * i.size) && decide (b.ty = e) && decide (b.sz = i.size) && decide ((n + m) * i.bytes ≤ 140737488355328)
        | none => false
      | _ => false)
    | _, _, _ => false
  | _, _ => false
theorem appendB_ok {t u : TypeId} {s x : D} {st : List Bk} (hb : appendB P t u s x st = true) : effP (aAppend P t u s x st) := by
  unfold appendB at hb
  unfold aAppend
  split
  · rename_i e e' h1 h2
    simp only [h1, h2] at hb
    split
    · rename_i i z xs m h3 h4 h5
      simp only [h3, h4, h5, Bool.and_eq_true, decide_eq_true_eq] at hb
      obtain ⟨⟨⟨⟨⟨c1, c2⟩, c3⟩, c4⟩, c5⟩, hb⟩ := hb
      split
      · simp only [decide_eq_true_eq] at hb
        exact ⟨c1, c2, c3, c4, hb, c5⟩
      · split
        · rename_i b hk
          simp only [hk, Bool.and_eq_true, decide_eq_true_eq] at hb
          exact ⟨hb.1.1.1.1.1, hb.1.1.1.1.2, hb.1.1.1.2, hb.1.1.2, hb.1.2, c1, c2, c3, c4, hb.2, c5⟩
        · trivial
      · trivial
    · trivial
  · trivial
def storeB (t : TypeId) (a x : D) (st : List Bk) : Bool := match a, tySz P t with
    | .own k off, some sz => match st[k]? with
      | none => false
      | some e => if e.arr then match frz false st frzDepth x with
          | some (d, ks) => !e.fz && isVar d && decide ((cellsOf d).length = sz) && decide (off + sz ≤ e.cells.length) && !ks.contains k
          | none => false
        else !e.fz && isVar x && decide ((cellsOf x).length = sz) && decide (off + sz ≤ e.cells.length)
    | _, _ => false
def binB (op : BinOp) (t : TypeId) (x y : D) : Bool := match x, y with
  | .val (.int k a), .val (.int k' b) => match op with
    | .shl | .shr => decide (0 ≤ b)
    | .quo | .rem => decide (b ≠ 0)
    | _ => true
  | .val (.string a), .val (.string b) => match op with
    | .add => decide (((a.size + b.size : Nat) : Int) ≤ 9223372036854775807)
    | _ => true
  | .val (.bool _), .val (.bool _) => true
  | .row _ n, .val (.slice none 0 0) => decide (0 < n)
  | .osl _ _ n _ _, .val (.slice none 0 0) => decide (0 < n)
  | .agg _, .agg _ => true
  | _, _ => false
theorem binB_ok {op : BinOp} {t : TypeId} {x y : D} (hb : binB op t x y = true) : effP (aBin P op t x y) := by
  unfold aBin
  split
  · rename_i k a k' b
    simp only [binB] at hb
    split
    · simpa [effP] using hb
    · simpa [effP] using hb
    · split
      · cases op <;> simp only [aInt, effP] <;> first | trivial | (simpa using hb)
      · trivial
  · simp only [binB] at hb
    cases op <;> simp only [aStr, effP] <;> first | trivial | (simpa using hb)
  · (repeat' split) <;> trivial
  · simp only [binB, decide_eq_true_eq] at hb
    unfold aNil; split <;> first | exact hb | trivial
  · simp only [binB, decide_eq_true_eq] at hb
    unfold aNil; split <;> first | exact hb | trivial
  · unfold aEqS; (repeat' split) <;> trivial
  · trivial
/-- Is the operation's condition met, for sure? -/
def clearB (t : TypeId) (x : D) (st : List Bk) : Bool := match P.underlying t, x with
  | some (.slice e), .osl k off n m _ => match st[k]?, zeroD P e with
    | some b, some z => !b.fz && decide (0 < z.length) && decide (off + n * z.length ≤ b.cells.length)
    | _, _ => false
  | _, _ => false
def okB (o : Op) (ρ : Operand → D) (st : List Bk) : Bool := isTriv o || match o with
  | .build t parts => buildB P t (parts.toList.map fun p => (p.1, ρ p.2))
  | .buildSlice t len parts => buildSliceB P t len (parts.toList.map fun p => (p.1, ρ p.2)) st
  | .load t a => match ρ a with
    | .ptr cs => ldB P t cs
    | .own k off => match st[k]? with
      | some e => ldB P t (e.cells.drop off)
      | none => false
    | _ => false
  | .store t a x => storeB P t (ρ a) (ρ x) st
  | .binOp op t x y _ => binB op t (ρ x) (ρ y)
  | .unOp .. => true
  | .convert .. => true
  | .makeSlice t l c => makeSliceB P t (ρ l) (ρ c)
  | .slice t x lo hi mx => sliceB P t (ρ x) (lo.map ρ) (hi.map ρ) (mx.map ρ)
  | .fieldAddr .. => true
  | .field t x f => fieldB P t (ρ x) f
  | .indexAddr t x i => indexAddrB P t (ρ x) (ρ i)
  | .index t x i => indexB P t (ρ x) (ρ i)
  | .extract t i => match ρ t with
    | .tup cs => decide (i < cs.length)
    | _ => false
  | .call c => match c.callee with
    | .builtin .append => match c.argTypes.toList, c.args.toList with
      | [t, u], [s, x] => appendB P t u (ρ s) (ρ x) st
      | _, _ => false
    | .builtin .clear => match c.argTypes.toList, c.args.toList with
      | [t], [x] => clearB P t (ρ x) st
      | _, _ => false
    | _ => true
  | _ => false
theorem clearB_ok {t : TypeId} {x : D} {st : List Bk} (h : clearB P t x st = true) : effP (aClear P t x st) := by
  unfold clearB at h
  unfold aClear
  split
  · rename_i e k off n m wh hu
    split
    · rename_i b z hb hz
      simp only [hu, hb, hz, Bool.and_eq_true, decide_eq_true_eq, Bool.not_eq_true'] at h
      exact ⟨h.1.1, h.1.2, h.2⟩
    · trivial
  · trivial
theorem okB_ok {o : Op} {ty : TypeId} {ρ : Operand → D} {st : List Bk} (h : okB P o ρ st = true) : effP (aeff P T o ty ρ st) := by
  unfold okB at h
  rw [Bool.or_eq_true] at h
  rcases h with h | h
  · exact triv_ok P T h
  · split at h
    · simp only [aeff]; exact buildB_ok P h
    · simp only [aeff]; exact buildSliceB_ok P h
    · simp only [aeff]
      split
      · rename_i hx; simp only [hx] at h; exact ldB_ok P h
      · rename_i hx; simp only [hx] at h
        split
        · rename_i he; simp only [he] at h; exact ldB_ok P h
        · trivial
      · trivial
    · rename_i t a x
      simp only [aeff]
      unfold storeB at h
      split
      · rename_i k off sz h1 h2
        simp only [h1, h2] at h
        split
        · trivial
        · rename_i e he
          simp only [he] at h
          split
          · rename_i ha
            simp only [ha, if_true] at h
            split
            · rename_i d ks hd
              simp only [hd, Bool.and_eq_true, decide_eq_true_eq, Bool.not_eq_true'] at h
              refine ⟨h.1.1.1.1, h.1.1.1.2, h.1.1.2, h.1.2, ?_⟩
              intro hm
              rw [List.contains_iff_mem.2 hm] at h
              cases h.2
            · trivial
          · rename_i ha
            simp only [ha, if_false, Bool.and_eq_true, decide_eq_true_eq, Bool.not_eq_true', Bool.false_eq_true] at h
            exact ⟨h.1.1.1, h.1.1.2, h.1.2, h.2⟩
      · trivial
    · simp only [aeff]; exact binB_ok P h
    · simp only [aeff]; unfold aUn; split <;> trivial
    · simp only [aeff]; unfold aConv; split <;> trivial
    · simp only [aeff]; exact makeSliceB_ok P h
    · simp only [aeff]
      split
      · trivial
      · exact sliceB_ok P h
    · simp only [aeff]; exact fieldAddr_ok P
    · simp only [aeff]; exact fieldB_ok P h
    · simp only [aeff]; exact indexAddrB_ok P h
    · simp only [aeff]; exact indexB_ok P h
    · simp only [aeff]
      split
      · rename_i hx; simp only [hx, decide_eq_true_eq] at h; exact h
      · trivial
    · rename_i c
      simp only [aeff]
      split at h
      · rename_i hc
        simp only [hc]
        split
        · rename_i h1 h2; simp only [h1, h2] at h; exact appendB_ok P h
        · trivial
      · rename_i hc
        simp only [hc]
        split
        · rename_i h1 h2; simp only [h1, h2] at h; exact clearB_ok P h
        · trivial
      · rename_i hc hc'
        unfold aCallFn
        (repeat' split) <;> first | trivial | (exfalso; apply hc; assumption) | skip
        unfold aLen; (repeat' split) <;> trivial
    · cases h
end
end Go.Proofs.Ytgbhoceamcomfaa

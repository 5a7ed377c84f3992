/- What each operation does to data (aeff), and the walk over data alone (seqW, awp): regions in their listed order, calls by their contracts, loops by an invariant. -/
import Derived.Test.YtgbhoceamcomfaaAb1
namespace Go.Proofs.Ytgbhoceamcomfaa
open Go.RowKit
set_option linter.unusedVariables false
set_option linter.unusedSimpArgs false

inductive Eff where
  | bad
  | lit (p : Prop) (d : D)
  | get (p : Prop) (d : D)
  | new (p : Prop) (b : Bk) (d : D) (fz : List Nat)
  | call (f : FuncId) (args : List D) (fz : List Nat)
  | put (p : Prop) (k : Nat) (b : Bk) (fz : List Nat)
  | app (p : Prop) (k : Nat) (b : Bk) (d : D)
  | act (f : FuncId) (args : List D)
def cellsOf : D → List D
  | .agg cs => cs
  | d => [d]
/-- Is it one cell, for sure? -/
def isCell : D → Bool
  | .val v => v.oneCell'
  | .unk | .agg _ | .tup _ => false
  | _ => true
/-- Are its parts cells, for sure? (an aggregate's are) -/
def isVar : D → Bool
  | .agg _ => true
  | d => isCell d
mutual
def refs (k : Nat) : D → Bool
  | .own j _ => j == k
  | .osl j _ _ _ _ => j == k
  | .agg cs => refsL k cs
  | .tup cs => refsL k cs
  | .clo _ x y => refsL k x || refsL k y
  | .ifc _ d => refs k d
  | _ => false
def refsL (k : Nat) : List D → Bool
  | [] => false
  | d :: ds => refs k d || refsL k ds
end
def killK (k : Nat) (d : D) : D := if refs k d then .unk else d
def mapF (f : D → Option (D × List Nat)) : List D → Option (List D × List Nat)
  | [] => some ([], [])
  | d :: ds => match f d with
    | none => none
    | some (x, ks) => match mapF f ds with
      | none => none
      | some (xs, ls) => some (x :: xs, ks ++ ls)
/-- The same data with no own blocks in it, and which blocks it needs fixed. -/
def frz (kn : Bool) (st : List Bk) : Nat → D → Option (D × List Nat)
  | 0, _ => some (.unk, [])
  | n + 1, d => match d with
    | .val v => match v with
      | .slice none 0 0 => if kn then some (.val (.slice none 0 0), []) else some (.row [] 0, [])
      | v => some (.val v, [])
    | .unk => some (.unk, [])
    | .row cs m => some (.row cs m, [])
    | .ptr cs => some (.ptr cs, [])
    | .agg cs => (mapF (frz kn st n) cs).map fun x => (.agg x.1, x.2)
    | .tup cs => (mapF (frz kn st n) cs).map fun x => (.tup x.1, x.2)
    | .clo f x y => match mapF (frz kn st n) x with
      | none => none
      | some (a, ks) => (mapF (frz kn st n) y).map fun z => (.clo f a z.1, ks ++ z.2)
    | .ifc t d => (frz kn st n d).map fun x => (.ifc t x.1, x.2)
    | .own k off => match st[k]? with
      | none => none
      | some e => if e.arr then some (.ptr (e.cells.drop off), [k]) else (mapF (frz kn st n) e.cells).map fun x => (.ptr (x.1.drop off), k :: x.2)
    | .osl k off l m _ => match st[k]? with
      | none => none
      | some e => if e.arr then some (.row ((e.cells.drop off).take m) l, [k]) else none
def frzDepth : Nat := 9
def setFz (st : List Bk) (ks : List Nat) : List Bk := ks.foldl (fun s k => s.modify k fun e => { e with fz := true }) st
mutual
def shiftD (n : Nat) : D → D
  | .osl k off l m wh => .osl (n + k) off l m wh
  | .own k off => .own (n + k) off
  | .agg cs => .agg (shiftL n cs)
  | .tup cs => .tup (shiftL n cs)
  | .clo f x y => .clo f (shiftL n x) (shiftL n y)
  | .ifc t d => .ifc t (shiftD n d)
  | d => d
def shiftL (n : Nat) : List D → List D
  | [] => []
  | d :: ds => shiftD n d :: shiftL n ds
end
def setAt (cs : List D) (off : Nat) : List D → List D
  | [] => cs
  | d :: ds => setAt (cs.set off d) (off + 1) ds
section
variable (P : Program)
def tyAgg (t : TypeId) : Bool := match P.underlying t with
  | some (.struct _) | some (.array _ _) => true
  | _ => false
def tySz (t : TypeId) : Option Nat := match P.underlying t with
  | none => none
  | some _ => (P.info? t).map (·.size)
/-- A variable of type t out of cells. -/
def ldP (t : TypeId) (cs : List D) (mk : Prop → D → Eff) : Eff := match tySz P t with
  | none => .bad
  | some s => if tyAgg P t then mk (s ≤ cs.length) (.agg (cs.take s)) else mk (0 < cs.length) (cs.headD .unk)
def aInt (op : BinOp) (k : IntKind) (a b : Int) : Eff := match op with
  | .add => .lit True (.val (.int k (k.wrap (a + b))))
  | .sub => .lit True (.val (.int k (k.wrap (a - b))))
  | .mul => .lit True (.val (.int k (k.wrap (a * b))))
  | .quo => .lit (b ≠ 0) (.val (.int k (k.wrap (a.tdiv b))))
  | .rem => .lit (b ≠ 0) (.val (.int k (a.tmod b)))
  | .and => .lit True (.val (.int k (k.wrap (BitVec.ofInt k.bits a &&& BitVec.ofInt k.bits b).toNat)))
  | .or => .lit True (.val (.int k (k.wrap (BitVec.ofInt k.bits a ||| BitVec.ofInt k.bits b).toNat)))
  | .xor => .lit True (.val (.int k (k.wrap (BitVec.ofInt k.bits a ^^^ BitVec.ofInt k.bits b).toNat)))
  | .andNot => .lit True (.val (.int k (k.wrap (BitVec.ofInt k.bits a &&& ~~~ BitVec.ofInt k.bits b).toNat)))
  | .eql => .lit True (.val (.bool (a == b)))
  | .neq => .lit True (.val (.bool (a != b)))
  | .lss => .lit True (.val (.bool (a < b)))
  | .leq => .lit True (.val (.bool (a ≤ b)))
  | .gtr => .lit True (.val (.bool (a > b)))
  | .geq => .lit True (.val (.bool (a ≥ b)))
  | _ => .bad
def aStr (op : BinOp) (x y : ByteArray) : Eff := match op with
  | .add => .lit (((x.size + y.size : Nat) : Int) ≤ 9223372036854775807) (.val (.string (x ++ y)))
  | .eql => .lit True (.val (.bool (x.toList == y.toList)))
  | .neq => .lit True (.val (.bool (!(x.toList == y.toList))))
  | .lss => .lit True (.val (.bool (Op.bytesLess x.toList y.toList)))
  | .leq => .lit True (.val (.bool (Op.bytesLess x.toList y.toList || x.toList == y.toList)))
  | .gtr => .lit True (.val (.bool (!(Op.bytesLess x.toList y.toList || x.toList == y.toList))))
  | .geq => .lit True (.val (.bool (!Op.bytesLess x.toList y.toList)))
  | _ => .bad
/-- a slice of n elements and nil -/
def aNil (op : BinOp) (t : TypeId) (n : Nat) : Eff := match op, P.underlying t with
  | .eql, some (.slice _) => .lit (0 < n) (.val (.bool false))
  | _, _ => .bad
def partD (t : TypeId) (xs : List D) (o : Nat) : Option D := match tySz P t with
  | none => none
  | some s => if tyAgg P t then (if o + s ≤ xs.length then some (.agg ((xs.drop o).take s)) else none) else if o < xs.length then some (xs.getD o .unk) else none
def eqF (rec : TypeId → D → D → Option Bool) (xs ys : List D) : List Field → Option Bool
  | [] => some true
  | f :: fs => if f.name == "_" then none else match partD P f.type xs f.offset, partD P f.type ys f.offset with
    | some a, some b => match rec f.type a b, eqF rec xs ys fs with
      | some r, some q => some (r && q)
      | _, _ => none
    | _, _ => none
/-- are two values of a struct of numbers, truth values and strings equal? -/
def eqD : Nat → TypeId → D → D → Option Bool
  | 0, _, _, _ => none
  | n + 1, t, x, y => match P.underlying t, x, y with
    | some .bool, .val (.bool a), .val (.bool b) => some (a == b)
    | some (.int _), .val (.int k a), .val (.int k' b) => if k = k' then some (a == b) else none
    | some .string, .val (.string a), .val (.string b) => some (a.toList == b.toList)
    | some (.struct fs), .agg xs, .agg ys => if P.stoodInHeld t then none else eqF P (eqD n) xs ys fs.toList
    | _, _, _ => none
def aEqS (op : BinOp) (t : TypeId) (x y : D) : Eff := if P.eqGuardType P.depth t then .bad else match op, eqD P 6 t x y with
  | .eql, some b => .lit True (.val (.bool b))
  | .neq, some b => .lit True (.val (.bool (!b)))
  | _, _ => .bad
def aBin (op : BinOp) (t : TypeId) (x y : D) : Eff := match x, y with
  | .val (.int k a), .val (.int k' b) => match op with
    | .shl => .lit (0 ≤ b) (.val (.int k (k.wrap (a * 2 ^ (min b.toNat k.bits)))))
    | .shr => .lit (0 ≤ b) (.val (.int k (a.fdiv (2 ^ (min b.toNat k.bits)))))
    | op => if k = k' then aInt op k a b else .bad
  | .val (.string a), .val (.string b) => aStr op a b
  | .val (.bool a), .val (.bool b) => match op, P.underlying t with
    | .eql, some .bool => .lit True (.val (.bool (a == b)))
    | .neq, some .bool => .lit True (.val (.bool (!(a == b))))
    | _, _ => .bad
  | .row _ n, .val (.slice none 0 0) => aNil P op t n
  | .osl _ _ n _ _, .val (.slice none 0 0) => aNil P op t n
  | .agg xs, .agg ys => aEqS P op t (.agg xs) (.agg ys)
  | _, _ => .bad
def aUn (op : UnOp) (x : D) : Eff := match op, x with
  | .not, .val (.bool b) => .lit True (.val (.bool (!b)))
  | .neg, .val (.int k n) => .lit True (.val (.int k (k.wrap (0 - n))))
  | _, _ => .bad
/-- a slice's cells and length, where no one writes -/
def asRow : D → Option (List D × Nat)
  | .row cs n => some (cs, n)
  | .val (.slice none 0 0) => some ([], 0)
  | _ => none
/-- bounds: given or not; as natural numbers -/
def aBound (x : Option D) (y : Nat) : Option (Prop × Nat) := match x with
  | none => some (True, y)
  | some (.val (.int _ i)) => some (0 ≤ i, i.toNat)
  | _ => none
def aSlice (t : TypeId) (x : D) (lo hi mx : Option D) : Eff := match aBound lo 0 with
  | none => .bad
  | some (pl, l) => match P.underlying t, x with
    | some .string, .val (.string s) => match aBound hi s.size, mx with
      | some (ph, h), none => .lit (pl ∧ ph ∧ l ≤ h ∧ h ≤ s.size) (.val (.string (s.extract l h)))
      | _, _ => .bad
    | some (.slice e), .osl k off n m wh => match aBound hi n, tySz P e with
      | some (ph, h), some sz => match aBound mx h with
        | some (pm, c) => .lit (pl ∧ ph ∧ pm ∧ 0 < sz ∧ l ≤ h ∧ h ≤ n ∧ c = h) (.osl k (off + l * sz) (h - l) ((h - l) * sz) (wh && mx.isNone && lo.isNone))
        | none => .bad
      | _, _ => .bad
    | some (.slice e), x => match asRow x, tySz P e with
      | some (cs, n), some sz => match aBound hi n with
        | some (ph, h) => match aBound mx h with
          | some (pm, c) => .lit (pl ∧ ph ∧ pm ∧ 0 < sz ∧ l ≤ h ∧ h ≤ n ∧ c = h) (.row ((cs.drop (l * sz)).take ((h - l) * sz)) (h - l))
          | none => .bad
        | none => .bad
      | _, _ => .bad
    | _, _ => .bad
def aIndexAddr (t : TypeId) (x i : D) : Eff := match i with
  | .val (.int _ i) => match P.underlying t with
    | some (.slice e) => match x, tySz P e with
      | .osl k off n m wh, some sz => .lit (0 ≤ i ∧ i < n) (.own k (off + i.toNat * sz))
      | .row cs n, some sz => .lit (0 ≤ i ∧ i < n ∧ cs ≠ []) (.ptr (cs.drop (i.toNat * sz)))
      | _, _ => .bad
    | some (.array n e) => match x, tySz P e with
      | .own k off, some sz => .lit (0 ≤ i ∧ i < n) (.own k (off + i.toNat * sz))
      | .ptr cs, some sz => .lit (0 ≤ i ∧ i < n) (.ptr (cs.drop (i.toNat * sz)))
      | _, _ => .bad
    | _ => .bad
  | _ => .bad
def aIndex (t : TypeId) (x i : D) : Eff := match i with
  | .val (.int _ i) => match P.underlying t, x with
    | some (.array n e), .agg cs => match tySz P e with
      | some sz => if tyAgg P e then .lit (0 ≤ i ∧ i < n ∧ i.toNat * sz + sz ≤ cs.length) (.agg ((cs.drop (i.toNat * sz)).take sz)) else .lit (0 ≤ i ∧ i < n ∧ i.toNat * sz < cs.length) (cs.getD (i.toNat * sz) .unk)
      | none => .bad
    | some .string, .val (.string s) => .lit (0 ≤ i ∧ i < s.size) (.val (.int .u8 (s.data.getD i.toNat 0).toNat))
    | _, _ => .bad
  | _ => .bad
def fieldOf (t : TypeId) (f : Nat) : Option (Nat × TypeId) := match P.underlying t with
  | some (.struct fs) => (fs[f]?).map fun x => (x.offset, x.type)
  | _ => none
def aField (t : TypeId) (x : D) (f : Nat) : Eff := match x, fieldOf P t f with
  | .agg cs, some (o, ft) => match tySz P ft with
    | some sz => if tyAgg P ft then .lit (o + sz ≤ cs.length) (.agg ((cs.drop o).take sz)) else .lit (o < cs.length) (cs.getD o .unk)
    | none => .bad
  | _, _ => .bad
def aFieldAddr (t : TypeId) (x : D) (f : Nat) : Eff := match fieldOf P t f with
  | some (o, ft) => match tySz P ft, x with
    | some (s + 1), .own k off => .lit True (.own k (off + o))
    | some (s + 1), .ptr cs => .lit True (.ptr (cs.drop o))
    | _, _ => .bad
  | none => .bad
/-- parts into cells: number and place -/
def aFill (place : Nat → Option (Nat × Nat)) : List (Nat × D) → List D → Option (Prop × List D)
  | [], cs => some (True, cs)
  | (i, d) :: r, cs => match place i with
    | none => none
    | some (off, sz) => if isVar d then match aFill place r (setAt cs off (cellsOf d)) with
        | none => none
        | some (p, x) => some ((cellsOf d).length = sz ∧ off + sz ≤ cs.length ∧ p, x)
      else none
def zeroD (t : TypeId) : Option (List D) := match P.info? t with
  | none => none
  | some i => match i.zero with
    | none => none
    | some z => if z.cells.toList.all (·.oneCell') then some (z.cells.toList.map .val) else none
def aBuild (t : TypeId) (parts : List (Nat × D)) : Eff := match zeroD P t, P.underlying t with
  | some z, some (.struct fs) => match aFill (fun i => (fs[i]?).bind fun f => (tySz P f.type).map fun s => (f.offset, s)) parts z with
    | some (p, cs) => .lit (p ∧ fs.all (fun f => (tySz P f.type).isSome) = true) (.agg cs)
    | none => .bad
  | some z, some (.array _ e) => match tySz P e with
    | some sz => match aFill (fun i => some (i * sz, sz)) parts z with
      | some (p, cs) => .lit p (.agg cs)
      | none => .bad
    | none => .bad
  | _, _ => .bad
def repL (n : Nat) (z : List D) : List D := (List.replicate n z).flatten
def frzParts (st : List Bk) : List (Nat × D) → Option (List (Nat × D) × List Nat)
  | [] => some ([], [])
  | (i, d) :: r => match frz false st frzDepth d with
    | none => none
    | some (x, ks) => match frzParts st r with
      | none => none
      | some (xs, ls) => some ((i, x) :: xs, ks ++ ls)
def aBuildSlice (t : TypeId) (len : Nat) (parts : List (Nat × D)) (st : List Bk) : Eff := match P.underlying t with
  | some (.slice e) => match tySz P e, zeroD P e, frzParts st parts with
    | some sz, some z, some (ps, ks) => match aFill (fun i => some (i * sz, sz)) ps (repL len z) with
      | some (p, cs) => .new (p ∧ 0 < sz ∧ z.length = sz ∧ len * sz ≤ 16777216 ∧ len ≤ 9223372036854775807) ⟨cs, e, sz, true, false⟩ (.osl st.length 0 len (len * sz) true) ks
      | none => .bad
    | _, _, _ => .bad
  | _ => .bad
def aMakeSlice (t : TypeId) (l c : D) (st : List Bk) : Eff := match P.underlying t, l, c with
  | some (.slice e), .val (.int _ L), .val (.int _ C) => match P.info? e, zeroD P e with
    | some i, some z => .new (0 ≤ L ∧ L ≤ C ∧ (i.bytes : Int) * C ≤ 281474976710656 ∧ C ≤ 281474976710656 ∧ 0 < i.size ∧ z.length = i.size) ⟨repL L.toNat z, e, i.size, true, false⟩ (.osl st.length 0 L.toNat (L.toNat * i.size) true) []
    | _, _ => .bad
  | _, _, _ => .bad
/-- the cells that an append or a copy takes out of its source -/
def srcCells (st : List Bk) (x : D) : Option (List D × Nat) := match x with
  | .osl k off n m _ => match st[k]? with
    | some e => if e.arr then some ((e.cells.drop off).take m, n) else none
    | none => none
  | x => asRow x
def aAppend (t u : TypeId) (s x : D) (st : List Bk) : Eff := match P.underlying t, P.underlying u with
  | some (.slice e), some (.slice e') => match P.info? e, zeroD P e, srcCells st x with
    | some i, some z, some (xs, m) => match s with
      | .val (.slice none 0 0) => .new (xs.length = m * i.size ∧ 0 < i.size ∧ 0 < i.bytes ∧ e = e' ∧ m * i.bytes ≤ 140737488355328 ∧ z.length = i.size) ⟨xs, e, i.size, true, false⟩ (.osl st.length 0 m (m * i.size) true) []
      | .osl k 0 n mm true => match st[k]? with
        | some b => .app (b.arr = true ∧ b.cells.length = n * i.size ∧ mm = n * i.size ∧ b.ty = e ∧ b.sz = i.size ∧ xs.length = m * i.size ∧ 0 < i.size ∧ 0 < i.bytes ∧ e = e' ∧ (n + m) * i.bytes ≤ 140737488355328 ∧ z.length = i.size)
            k { b with cells := b.cells ++ xs } (.osl k 0 (n + m) ((n + m) * i.size) true)
        | none => .bad
      | _ => .bad
    | _, _, _ => .bad
  | _, _ => .bad
/-- an own array's part set to zero -/
def aClear (t : TypeId) (x : D) (st : List Bk) : Eff := match P.underlying t, x with
  | some (.slice e), .osl k off n m _ => match st[k]?, zeroD P e with
    | some b, some z => .put (b.fz = false ∧ 0 < z.length ∧ off + n * z.length ≤ b.cells.length) k { b with cells := setAt b.cells off (repL n z) } []
    | _, _ => .bad
  | _, _ => .bad
def aLen (t : TypeId) (x : D) : Eff := match P.underlying t, x with
  | some (.slice _), .row _ n => .lit True (.val (.int .i64 n))
  | some (.slice _), .osl _ _ n _ _ => .lit True (.val (.int .i64 n))
  | some (.slice _), .val (.slice none 0 0) => .lit True (.val (.int .i64 0))
  | some .string, .val (.string s) => .lit True (.val (.int .i64 s.size))
  | some (.array n _), _ => .lit True (.val (.int .i64 n))
  | _, _ => .bad
def aCallFn (imp : FuncId → Bool) (f : FuncId) (args : List D) (st : List Bk) : Eff :=
  match P.funcs[f]? with
  | none => .bad
  | some fn => if fn.name == "runtime.NumGoroutine" || fn.body.isNone then .bad else
    if imp f then .act f args else match mapF (frz true st frzDepth) args with
      | none => .bad
      | some (xs, ks) => .call f xs ks
def aConv (src dst : TypeId) (x : D) : Eff := match P.underlying src, P.underlying dst, x with
  | some (.int _), some (.int k), .val (.int _ n) => .lit True (.val (.int k (k.wrap n)))
  | some .string, some .string, .val (.string s) => .lit True (.val (.string s))
  | _, _, _ => .bad
def isPtr : TypeDesc → Bool
  | .pointer _ => true
  | _ => false
/-- which function a method of a type's value is, where no embedded part lies between -/
def methOf (t : TypeId) (name : String) : Option FuncId := match P.info? t, P.underlying t with
  | some i, some u => match i.methods.find? (·.name == name) with
    | some m => if m.path.isEmpty then match m.func with
        | some (f, p) => if p == isPtr u then some f else none
        | none => none
      else none
    | none => none
  | _, _ => none
/-- parameters of the walk: which functions are called by reference; which function a method of a type is; which own arrays may not move -/
structure Par where
  imp : FuncId → Bool
  meth : TypeId → String → Option FuncId
  keep : Nat → Bool
def aeff (T : Par) (o : Op) (ty : TypeId) (ρ : Operand → D) (st : List Bk) : Eff := match o with
  | .move x => .lit True (ρ x)
  | .assign x => .lit True (ρ x)
  | .pick c a b => match ρ c with
    | .val (.bool t) => .lit True (if t then ρ a else ρ b)
    | _ => .bad
  | .alloc e => match zeroD P e with
    | some z => .new True ⟨z, e, 0, false, false⟩ (.own st.length 0) []
    | none => .bad
  | .box e x => if isVar (ρ x) then .new True ⟨cellsOf (ρ x), e, 0, false, false⟩ (.own st.length 0) [] else .bad
  | .build t parts => aBuild P t (parts.toList.map fun p => (p.1, ρ p.2))
  | .buildSlice t len parts => aBuildSlice P t len (parts.toList.map fun p => (p.1, ρ p.2)) st
  | .load t a => match ρ a with
    | .ptr cs => ldP P t cs .get
    | .own k off => match st[k]? with
      | some e => ldP P t (e.cells.drop off) .get
      | none => .bad
    | _ => .bad
  | .store t a x => match ρ a, tySz P t with
    | .own k off, some sz => match st[k]? with
      | none => .bad
      | some e => if e.arr then match frz false st frzDepth (ρ x) with
          | some (d, ks) => .put (e.fz = false ∧ isVar d = true ∧ (cellsOf d).length = sz ∧ off + sz ≤ e.cells.length ∧ k ∉ ks) k { e with cells := setAt e.cells off (cellsOf d) } ks
          | none => .bad
        else .put (e.fz = false ∧ isVar (ρ x) = true ∧ (cellsOf (ρ x)).length = sz ∧ off + sz ≤ e.cells.length) k { e with cells := setAt e.cells off (cellsOf (ρ x)) } []
    | _, _ => .bad
  | .nilCheck x => match ρ x with
    | .ptr cs => .lit True (.ptr cs)
    | .own k off => .lit True (.own k off)
    | .ifc t d => .lit True (.ifc t d)
    | .clo (.func f) x y => .lit True (.clo (.func f) x y)
    | .clo (.method n) (.ifc t d :: x) y => if (methOf P t n).isSome then .lit True (.clo (.method n) (.ifc t d :: x) y) else .bad
    | _ => .bad
  | .binOp op t x y _ => aBin P op t (ρ x) (ρ y)
  | .unOp op _ x => aUn op (ρ x)
  | .convert src dst x => aConv P src dst (ρ x)
  | .makeInterface t x => match P.underlying t with
    | some (.interface _) => .bad
    | some _ => .lit True (.ifc t (ρ x))
    | none => .bad
  | .makeFunc fn first cap => .lit True (.clo fn (first.toList.map ρ) (cap.toList.map ρ))
  | .makeSlice t l c => aMakeSlice P t (ρ l) (ρ c) st
  | .slice t x lo hi mx => if mx.isSome && hi.isNone then .bad else aSlice P t (ρ x) (lo.map ρ) (hi.map ρ) (mx.map ρ)
  | .fieldAddr t x f => aFieldAddr P t (ρ x) f
  | .field t x f => aField P t (ρ x) f
  | .indexAddr t x i => aIndexAddr P t (ρ x) (ρ i)
  | .index t x i => aIndex P t (ρ x) (ρ i)
  | .extract t i => match ρ t with
    | .tup cs => .lit (i < cs.length) (cs.getD i .unk)
    | _ => .bad
  | .call c => match c.callee with
    | .builtin .len => match c.argTypes.toList, c.args.toList with
      | t :: _, x :: _ => aLen P t (ρ x)
      | _, _ => .bad
    | .builtin .min => match c.args.toList.map ρ with
      | [.val (.int k x), .val (.int _ y)] => .lit True (.val (.int k (if y < x then y else x)))
      | _ => .bad
    | .builtin .max => match c.args.toList.map ρ with
      | [.val (.int k x), .val (.int _ y)] => .lit True (.val (.int k (if y > x then y else x)))
      | _ => .bad
    | .builtin .append => match c.argTypes.toList, c.args.toList with
      | [t, u], [s, x] => aAppend P t u (ρ s) (ρ x) st
      | _, _ => .bad
    | .builtin .clear => match c.argTypes.toList, c.args.toList with
      | [t], [x] => aClear P t (ρ x) st
      | _, _ => .bad
    | .builtin _ => .bad
    | .value f => match ρ f with
      | .clo (.func f) [] cap => aCallFn P T.imp f (c.args.toList.map ρ ++ cap) st
      | _ => .bad
    | .invoke r name => match ρ r with
      | .ifc t d => match T.meth t name with
        | some f => aCallFn P T.imp f (d :: c.args.toList.map ρ) st
        | none => .bad
      | _ => .bad
  | _ => .bad
end
end Go.Proofs.Ytgbhoceamcomfaa

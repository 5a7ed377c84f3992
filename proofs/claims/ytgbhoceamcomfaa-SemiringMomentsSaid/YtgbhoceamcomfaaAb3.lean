/- The walk over data: contracts of calls, regions, code. -/
import Derived.Test.YtgbhoceamcomfaaAb2
namespace Go.Proofs.Ytgbhoceamcomfaa
open Go.RowKit
set_option linter.unusedVariables false
set_option linter.unusedSimpArgs false

def OwnRel (I : Im) (w : World) (β : Be) (b cap : Nat) (e : Bk) : Prop :=
  ∃ cur : List Value, w.heap[b]? = some (.cells cur.toArray e.ty (0, 0)) ∧ e.cells.length ≤ cur.length ∧ RelL I w (if e.arr then noB else β) e.cells (cur.take e.cells.length) ∧ (e.arr = true → cur.length = cap * e.sz) ∧ cap ≤ maxLen
def SR (β : Be) (I : Im) (w : World) (st : List Bk) : Prop := ∀ k b cap, β k = some (b, cap) → ∃ e, st[k]? = some e ∧ OwnRel I w β b cap e
def Inj (β : Be) : Prop := ∀ k k' b c c', β k = some (b, c) → β k' = some (b, c') → k = k'
def FZ (β : Be) (I : Im) (st : List Bk) : Prop := ∀ k b c j (e : Bk), β k = some (b, c) → st[k]? = some e → I b j → e.fz = true ∧ j < e.cells.length
/-- What stays when the world moves on. -/
structure Stp (β : Be) (I : Im) (w : World) (β' : Be) (I' : Im) (w' : World) : Prop where
  fix : Fix I w I' w'
  size : w.heap.size ≤ w'.heap.size
  out : ∀ b, b < w.heap.size → (∀ k c, β k ≠ some (b, c)) → w'.heap[b]? = w.heap[b]?
  os : w'.os = w.os
  tape : w'.tape = w.tape
  output : w'.output = w.output
  be : ∀ k b c, β' k = some (b, c) → (∃ k' c', β k' = some (b, c')) ∨ w.heap.size ≤ b
  im : ∀ b o, I' b o → I b o ∨ w.heap.size ≤ b ∨ ∃ k c, β k = some (b, c)
theorem Stp.refl (β : Be) (I : Im) (w : World) : Stp β I w β I w := ⟨Fix.refl _ _, Nat.le_refl _, fun _ _ _ => rfl, rfl, rfl, rfl, fun k b c h => .inl ⟨k, c, h⟩, fun _ _ h => .inl h⟩
theorem Stp.trans {β β' β'' : Be} {I I' I'' : Im} {w w' w'' : World} (h : Stp β I w β' I' w') (k : Stp β' I' w' β'' I'' w'') : Stp β I w β'' I'' w'' := by
  refine ⟨h.fix.trans k.fix, Nat.le_trans h.size k.size, fun b hb hn => ?_, k.os.trans h.os, k.tape.trans h.tape, k.output.trans h.output, fun i b c hi => ?_, fun b o hi => ?_⟩
  · rw [k.out b (Nat.lt_of_lt_of_le hb h.size) (fun i c hi => ?_), h.out b hb hn]
    rcases h.be i b c hi with ⟨k', c', hk⟩ | hk
    · exact hn k' c' hk
    · omega
  · rcases k.be i b c hi with ⟨k', c', hk⟩ | hk
    · exact h.be k' b c' hk
    · exact .inr (Nat.le_trans h.size hk)
  · rcases k.im b o hi with hi | hi | ⟨i, c, hi⟩
    · exact h.im b o hi
    · exact .inr (.inl (Nat.le_trans h.size hi))
    · rcases h.be i b c hi with ⟨k', c', hk⟩ | hk
      · exact .inr (.inr ⟨k', c', hk⟩)
      · exact .inr (.inl hk)
def ImB (I : Im) (w : World) : Prop := ∀ b o, I b o → b < w.heap.size
/-- A frame means the data. -/
structure Sim (β : Be) (I : Im) (w : World) (sl : List D) (st : List Bk) (tm : List Value) : Prop where
  rel : RelT I w β sl tm
  sr : SR β I w st
  inj : Inj β
  fz : FZ β I st
  dom : ∀ k x, β k = some x → k < st.length
  imb : ImB I w
/-- THE CONTRACT of a call that changes nothing that was there: arguments with no own blocks; the result may lie in new own blocks. -/
def Pure (P : Program) (f : FuncId) (args : List D) (news : List Bk) (x : D) : Prop :=
  ∀ (I : Im) (w : World) (vs : List Value), RelT I w noB args vs → ImB I w → Calls P f vs.toArray w fun e w' => ∃ v I' γ, e = .returned v ∧ Ext w w' ∧ ImB I' w' ∧ Fix I w I' w' ∧ (∀ b o, I' b o → I b o ∨ w.heap.size ≤ b) ∧
    (∀ k b c, γ k = some (b, c) → w.heap.size ≤ b) ∧ SR γ I' w' news ∧ Inj γ ∧ FZ γ I' news ∧ (∀ k y, γ k = some y → k < news.length) ∧ Rel I' w' γ x v ∧ (∀ e ∈ news, e.arr = true)
/-- THE CONTRACT of a call by reference; ch: own arrays that may have moved. -/
def Acts (P : Program) (f : FuncId) (args : List D) (st : List Bk) (ch : List Nat) (x : D) (st' : List Bk) : Prop :=
  ∀ (β : Be) (I : Im) (w : World) (vs : List Value), RelT I w β args vs → SR β I w st → Inj β → FZ β I st → (∀ k y, β k = some y → k < st.length) → ImB I w → Calls P f vs.toArray w fun e w' => ∃ v β' I', e = .returned v ∧ ImB I' w' ∧ Stp β I w β' I' w' ∧
    (∀ k y, k ∉ ch → β k = some y → β' k = some y) ∧ SR β' I' w' st' ∧ Inj β' ∧ FZ β' I' st' ∧ (∀ k y, β' k = some y → k < st'.length) ∧ Rel I' w' β' x v
def evD (sl : List D) : Operand → D
  | .tmp t => sl.getD t .unk
  | .const v => .val v
  | .global g => .val (.pointer (some ⟨g, 0, none⟩))
  | .func f => .clo (.func f) [] []
def putD (sl : List D) (dst : Option Nat) (d : D) : List D := match dst with
  | some i => sl.set i d
  | none => sl
def isLight : Op → Bool
  | .move _ | .assign _ | .pick .. | .build .. | .nilCheck _ | .binOp .. | .unOp .. | .convert .. | .makeInterface .. | .makeFunc .. | .slice .. | .fieldAddr .. | .field .. | .indexAddr .. | .index .. | .extract .. => true
  | .call { callee := .builtin .len, .. } | .call { callee := .builtin .min, .. } | .call { callee := .builtin .max, .. } => true
  | _ => false
def isE (T : Par) : Op → Bool
  | .store .. => true
  | .call { callee := .builtin .append, .. } => true
  | .call { callee := .builtin .clear, .. } => true
  | .call { callee := .value (.func f), .. } => T.imp f
  | _ => false
def killAll (ch : List Nat) (d : D) : D := if ch.any (refs · d) then .unk else d
def killBk (k : Nat) (e : Bk) : Bk := if e.arr then e else { e with cells := e.cells.map (killK k) }
def Kp (T : Par) (β β' : Be) : Prop := ∀ k x, T.keep k = true → β k = some x → β' k = some x
theorem Kp.refl (T : Par) (β : Be) : Kp T β β := fun _ _ _ h => h
theorem Kp.trans {T : Par} {a b c : Be} (h : Kp T a b) (k : Kp T b c) : Kp T a c := fun i x hk hx => k i x hk (h i x hk hx)
theorem BeLe.kp {T : Par} {a b : Be} (h : BeLe a b) : Kp T a b := fun i x _ hx => h i x hx
section
variable (P : Program) (T : Par)
/-- Regions, in the order of the list. -/
def seqW (ops : Array Oper) (dr : Bool) : List Oper → List D → List Bk → (List D → List Bk → Prop) → Prop
  | [], sl, st, K => K sl st
  | o :: r, sl, st, K =>
    let go : Prop := match aeff P T o.op o.type (evD sl) st with
      | .bad => False
      | .lit p d => isLight o.op = true ∧ p ∧ seqW ops dr r (putD sl o.dst d) st K
      | .get p d => isLight o.op = false ∧ p ∧ seqW ops dr r (putD sl o.dst d) st K
      | .new p b d fz => isLight o.op = false ∧ p ∧ seqW ops dr r (putD sl o.dst d) (setFz st fz ++ [b]) K
      | .call f args fz => isLight o.op = false ∧ ∃ news x, Pure P f args news x ∧ seqW ops dr r (putD sl o.dst (if news.isEmpty then x else shiftD st.length x)) (setFz st fz ++ news) K
      | .put p k b fz => isE T o.op = true ∧ p ∧ seqW ops dr r (putD sl o.dst .unk) ((setFz st fz).set k b) K
      | .app p k b d => isE T o.op = true ∧ (T.keep k = false ∧ p) ∧ seqW ops dr r (putD (sl.map (killK k)) o.dst d) ((st.map (killBk k)).set k b) K
      | .act f args => isLight o.op = false ∧ (dr = false ∨ isE T o.op = true) ∧ ∃ ch x st', (Acts P f args st ch x st' ∧ ∀ k ∈ ch, T.keep k = false) ∧ seqW ops dr r (putD (sl.map (killAll ch)) o.dst x) st' K
    match o.guard with
    | none => go
    | some (j, want) => match ((ops[j]?).bind (·.dst)).map (fun t => sl.getD t .unk) with
      | some (.val (.bool b)) => (b = want → go) ∧ (b = !want → seqW ops dr r (putD sl o.dst (.val undef)) st K)
      | some (.val (.tuple _)) => seqW ops dr r (putD sl o.dst (.val undef)) st K
      | _ => False
/-- Less is known. -/
def Weak (sl : List D) (st : List Bk) (sl' : List D) (st' : List Bk) : Prop :=
  ∀ β I w tm, Sim β I w sl st tm → ∃ β' I', Sim β' I' w sl' st' tm ∧ Stp β I w β' I' w ∧ Kp T β β'
def deps (o : Oper) : List Nat := o.after.toList.filterMap fun e => if Region.binds .any e then some e.on else none
def ancs (ops : List Oper) : List Nat := ops.foldl (fun A o => A ++ [(deps o).foldl (fun m d => m ||| 2 ^ d ||| A.getD d 0) 0]) []
def pos (ord : List Nat) (i : Nat) : Nat := ord.findIdx (· == i)
/-- May the region be walked in the order ord, whatever order is drawn? -/
def regOk (ops : Array Oper) (ord : List Nat) : Bool :=
  let n := ops.size
  let A := ancs ops.toList
  let wt (i x : Nat) : Bool := (A.getD i 0).testBit x
  let op (i : Nat) : Oper := ops.getD i default
  ord.length == n && ord.all (· < n) && decide ord.Nodup && (List.range n).all (fun i => ord.contains i) && Region.noSelect ops &&
  (List.range n).all (fun i => (deps (op i)).all (fun d => d < i && pos ord d < pos ord i) && (List.range n).all (fun x => !wt i x || (deps (op i)).any fun d => d == x || wt d x) &&
    (List.range n).all (fun j => i == j || (
      ((op i).dst.isNone || (op i).dst != (op j).dst) &&
      (match (op j).dst with
       | some d => !((op i).looksAt ops).contains d || wt i j || wt j i
       | none => true) &&
      (!isLight (op i).op || (op i).apart ops (op j) || (deps (op j)).contains i || wt i j) &&
      (!isE T (op i).op || (if pos ord j < pos ord i then isLight (op j).op || wt i j else (deps (op j)).any fun d => pos ord i ≤ pos ord d)))))
def thenW (K : List D → List Bk → Prop) (Q : Exit → List D → List Bk → Prop) : Exit → List D → List Bk → Prop
  | .normal => K
  | e => Q e
def blockW (id : Nat) (Q : Exit → List D → List Bk → Prop) : Exit → List D → List Bk → Prop
  | .exit j => if j = id then Q .normal else Q (.exit j)
  | e => Q e
def awp : Code → (Exit → List D → List Bk → Prop) → List D → List Bk → Prop
  | .skip, Q, sl, st => Q .normal sl st
  | .region _ ops dr, Q, sl, st => if dr then ∃ ord, regOk T ops ord = true ∧ seqW P T ops true (ord.map fun i => ops.getD i default) sl st (Q .normal) else seqW P T ops false ops.toList sl st (Q .normal)
  | .seq a b, Q, sl, st => awp a (thenW (fun sl st => ∃ sl' st', Weak T sl st sl' st' ∧ awp b Q sl' st') Q) sl st
  | .cond c x y, Q, sl, st => match evD sl c with
    | .val (.bool t) => (t = true → awp x Q sl st) ∧ (t = false → awp y Q sl st)
    | _ => False
  | .block id b, Q, sl, st => awp b (blockW id Q) sl st
  | .loop b, Q, sl, st => ∃ Inv : Nat → List D → List Bk → Prop, (∃ n sl' st', Weak T sl st sl' st' ∧ Inv n sl' st') ∧
      ∀ n sl st, Inv n sl st → awp b (thenW (fun sl' st' => ∃ m sl'' st'', m < n ∧ Weak T sl' st' sl'' st'' ∧ Inv m sl'' st'') Q) sl st
  | .exit id, Q, sl, st => Q (.exit id) sl st
  | .label _, Q, sl, st => Q .normal sl st
  | .ret, Q, sl, st => Q .ret sl st
  | _, _, _, _ => False
/-- the greedy order -/
def greedyOrd (ops : Array Oper) : Nat → List Nat → List Nat
  | 0, l => l
  | n + 1, l =>
    let rs := (List.range ops.size).filter fun i => !l.contains i && (deps (ops.getD i default)).all l.contains
    match rs.find? fun i => isLight (ops.getD i default).op with
    | some i => greedyOrd ops n (l ++ [i])
    | none => match rs with
      | [] => l
      | i :: _ => greedyOrd ops n (l ++ [i])
end
end Go.Proofs.Ytgbhoceamcomfaa

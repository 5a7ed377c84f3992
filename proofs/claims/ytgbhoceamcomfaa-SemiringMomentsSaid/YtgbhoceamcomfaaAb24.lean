/- Walking over data: one lemma per kind of step, and the tactic dw that takes them. -/
import Derived.Test.YtgbhoceamcomfaaAb23
namespace Go.Proofs.Ytgbhoceamcomfaa
open Go.RowKit
set_option linter.unusedVariables false
set_option linter.unusedSimpArgs false
section
variable {P : Program} {T : Par} {ops : Array Oper} {dr : Bool} {o : Oper} {r : List Oper} {sl sl' : List D} {st st' : List Bk} {K : List D → List Bk → Prop} {p : Prop} {d : D} {b : Bk} {k : Nat} {fz : List Nat} {f : FuncId} {args : List D}
def goW (P : Program) (T : Par) (ops : Array Oper) (dr : Bool) (o : Oper) (r : List Oper) (sl : List D) (st : List Bk) (K : List D → List Bk → Prop) : Prop := match aeff P T o.op o.type (evD sl) st with
      | .bad => False
      | .lit p d => isLight o.op = true ∧ p ∧ seqW P T ops dr r (putD sl o.dst d) st K
      | .get p d => isLight o.op = false ∧ p ∧ seqW P T ops dr r (putD sl o.dst d) st K
      | .new p b d fz => isLight o.op = false ∧ p ∧ seqW P T ops dr r (putD sl o.dst d) (setFz st fz ++ [b]) K
      | .call f args fz => isLight o.op = false ∧ ∃ news x, Pure P f args news x ∧ seqW P T ops dr r (putD sl o.dst (if news.isEmpty then x else shiftD st.length x)) (setFz st fz ++ news) K
      | .put p k b fz => isE T o.op = true ∧ p ∧ seqW P T ops dr r (putD sl o.dst .unk) ((setFz st fz).set k b) K
      | .app p k b d => isE T o.op = true ∧ (T.keep k = false ∧ p) ∧ seqW P T ops dr r (putD (sl.map (killK k)) o.dst d) ((st.map (killBk k)).set k b) K
      | .act f args => isLight o.op = false ∧ (dr = false ∨ isE T o.op = true) ∧ ∃ ch x st', (Acts P f args st ch x st' ∧ ∀ k ∈ ch, T.keep k = false) ∧ seqW P T ops dr r (putD (sl.map (killAll ch)) o.dst x) st' K
theorem seq_none (hg : o.guard = none) (h : goW P T ops dr o r sl st K) : seqW P T ops dr (o :: r) sl st K := by
  simp only [seqW, hg]; exact h
theorem seq_skip {j : Nat} {want : Bool} {x : Array Value} (hg : o.guard = some (j, want)) (hb : ((ops[j]?).bind (·.dst)).map (fun t => sl.getD t .unk) = some (.val (.tuple x))) (hs : putD sl o.dst (.val undef) = sl') (h : seqW P T ops dr r sl' st K) : seqW P T ops dr (o :: r) sl st K := by
  subst hs; simp only [seqW, hg, hb]; exact h
theorem seq_guard {j : Nat} {want t : Bool} (hg : o.guard = some (j, want)) (hb : ((ops[j]?).bind (·.dst)).map (fun t => sl.getD t .unk) = some (.val (.bool t))) (hs : putD sl o.dst (.val undef) = sl') (h : t = want → goW P T ops dr o r sl st K) (h' : t = !want → seqW P T ops dr r sl' st K) : seqW P T ops dr (o :: r) sl st K := by
  subst hs; simp only [seqW, hg, hb]; exact ⟨h, h'⟩
theorem go_lit (hE : aeff P T o.op o.type (evD sl) st = .lit p d) (hl : isLight o.op = true) (hp : p) (hs : putD sl o.dst d = sl') (h : seqW P T ops dr r sl' st K) : goW P T ops dr o r sl st K := by
  subst hs; simp only [goW, hE]; exact ⟨hl, hp, h⟩
theorem go_get (hE : aeff P T o.op o.type (evD sl) st = .get p d) (hl : isLight o.op = false) (hp : p) (hs : putD sl o.dst d = sl') (h : seqW P T ops dr r sl' st K) : goW P T ops dr o r sl st K := by
  subst hs; simp only [goW, hE]; exact ⟨hl, hp, h⟩
theorem go_new (hE : aeff P T o.op o.type (evD sl) st = .new p b d fz) (hl : isLight o.op = false) (hp : p) (hs : putD sl o.dst d = sl') (ht : setFz st fz ++ [b] = st') (h : seqW P T ops dr r sl' st' K) : goW P T ops dr o r sl st K := by
  subst hs ht; simp only [goW, hE]; exact ⟨hl, hp, h⟩
theorem go_put (hE : aeff P T o.op o.type (evD sl) st = .put p k b fz) (hl : isE T o.op = true) (hp : p) (hs : putD sl o.dst .unk = sl') (ht : (setFz st fz).set k b = st') (h : seqW P T ops dr r sl' st' K) : goW P T ops dr o r sl st K := by
  subst hs ht; simp only [goW, hE]; exact ⟨hl, hp, h⟩
theorem go_app (hE : aeff P T o.op o.type (evD sl) st = .app p k b d) (hl : isE T o.op = true) (hk : T.keep k = false) (hp : p) (hs : putD (sl.map (killK k)) o.dst d = sl') (ht : (st.map (killBk k)).set k b = st') (h : seqW P T ops dr r sl' st' K) : goW P T ops dr o r sl st K := by
  subst hs ht; simp only [goW, hE]; exact ⟨hl, ⟨hk, hp⟩, h⟩
theorem go_call {x : D} (hE : aeff P T o.op o.type (evD sl) st = .call f args fz) (hl : isLight o.op = false) (hc : Pure P f args [] x) (hs : putD sl o.dst x = sl') (ht : setFz st fz = st') (h : seqW P T ops dr r sl' st' K) : goW P T ops dr o r sl st K := by
  subst hs ht; simp only [goW, hE]; exact ⟨hl, [], x, hc, by simpa using h⟩
theorem go_callN {x : D} {n : Bk} {news : List Bk} (hE : aeff P T o.op o.type (evD sl) st = .call f args fz) (hl : isLight o.op = false) (hc : Pure P f args (n :: news) x) (hs : putD sl o.dst (shiftD st.length x) = sl') (ht : setFz st fz ++ n :: news = st') (h : seqW P T ops dr r sl' st' K) : goW P T ops dr o r sl st K := by
  subst hs ht; simp only [goW, hE]; exact ⟨hl, n :: news, x, hc, by simpa using h⟩
theorem go_act {x : D} {st'' : List Bk} (hE : aeff P T o.op o.type (evD sl) st = .act f args) (hl : isLight o.op = false) (hd : dr = false ∨ isE T o.op = true) (hc : Acts P f args st [] x st'') (hs : putD sl o.dst x = sl') (h : seqW P T ops dr r sl' st'' K) : goW P T ops dr o r sl st K := by
  subst hs; simp only [goW, hE]
  refine ⟨hl, hd, [], x, st'', ⟨hc, by simp⟩, ?_⟩
  have : sl.map (killAll []) = sl := by
    conv => rhs; rw [← List.map_id sl]
    exact List.map_congr_left fun d _ => by simp [killAll]
  rw [this]; exact h
theorem seq_nil (h : K sl st) : seqW P T ops dr [] sl st K := h
theorem seq_list {l l' : List Oper} (e : l = l') (h : seqW P T ops dr l' sl st K) : seqW P T ops dr l sl st K := e ▸ h
end
section
variable {P : Program} {T : Par} {sl : List D} {st : List Bk} {Q : Exit → List D → List Bk → Prop}
theorem awp_skip (h : Q .normal sl st) : awp P T .skip Q sl st := h
/-- what follows, with less known -/
def nextW (P : Program) (T : Par) (b : Code) (Q : Exit → List D → List Bk → Prop) (sl : List D) (st : List Bk) : Prop := ∃ sl' st', Weak T sl st sl' st' ∧ awp P T b Q sl' st'
theorem next_same {b : Code} (h : awp P T b Q sl st) : nextW P T b Q sl st := ⟨sl, st, Weak.refl _ _, h⟩
theorem awp_seq {a b : Code} (h : awp P T a (thenW (nextW P T b Q) Q) sl st) : awp P T (.seq a b) Q sl st := h
theorem awp_region {i : Nat} {ops : Array Oper} {l : List Oper} (hl : ops.toList = l) (h : seqW P T ops false l sl st (Q .normal)) : awp P T (.region i ops false) Q sl st := by subst hl; exact h
theorem awp_drawn {i : Nat} {ops : Array Oper} (ord : List Nat) {l : List Oper} (hr : regOk T ops ord = true) (hl : (ord.map fun i => ops.getD i default) = l) (h : seqW P T ops true l sl st (Q .normal)) : awp P T (.region i ops true) Q sl st := by subst hl; exact ⟨ord, hr, h⟩
theorem awp_cond {c : Operand} {x y : Code} {t : Bool} (hc : evD sl c = .val (.bool t)) (h : t = true → awp P T x Q sl st) (h' : t = false → awp P T y Q sl st) : awp P T (.cond c x y) Q sl st := by
  simp only [awp, hc]; exact ⟨h, h'⟩
theorem awp_block {i : Nat} {b : Code} (h : awp P T b (blockW i Q) sl st) : awp P T (.block i b) Q sl st := h
theorem awp_exit {i : Nat} (h : Q (.exit i) sl st) : awp P T (.exit i) Q sl st := h
theorem awp_label {i : Nat} (h : Q .normal sl st) : awp P T (.label i) Q sl st := h
theorem awp_ret (h : Q .ret sl st) : awp P T .ret Q sl st := h
theorem awp_code {c c' : Code} (e : c = c') (h : awp P T c' Q sl st) : awp P T c Q sl st := e ▸ h
variable {K : List D → List Bk → Prop}
theorem then_normal (h : K sl st) : thenW K Q .normal sl st := h
theorem then_exit {i : Nat} (h : Q (.exit i) sl st) : thenW K Q (.exit i) sl st := h
theorem then_ret (h : Q .ret sl st) : thenW K Q .ret sl st := h
theorem block_normal {i : Nat} (h : Q .normal sl st) : blockW i Q .normal sl st := h
theorem block_ret {i : Nat} (h : Q .ret sl st) : blockW i Q .ret sl st := h
theorem block_hit {i j : Nat} (e : j = i) (h : Q .normal sl st) : blockW i Q (.exit j) sl st := by simp only [blockW, e, if_true]; exact h
theorem block_miss {i j : Nat} (e : j ≠ i) (h : Q (.exit j) sl st) : blockW i Q (.exit j) sl st := by simp only [blockW, e, if_false]; exact h
end
theorem wrap_i64 {x : Int} (h1 : -9223372036854775808 ≤ x) (h2 : x ≤ 9223372036854775807) : IntKind.i64.wrap x = x := by
  simp only [IntKind.wrap, IntKind.bits, IntKind.signed, Bool.true_and, Bool.false_and, Bool.false_eq_true, if_false, decide_eq_true_eq, ge_iff_le]; (try split) <;> omega
theorem wrap_u64 {x : Int} (h1 : 0 ≤ x) (h2 : x ≤ 18446744073709551615) : IntKind.u64.wrap x = x := by
  simp only [IntKind.wrap, IntKind.bits, IntKind.signed, Bool.true_and, Bool.false_and, Bool.false_eq_true, if_false, decide_eq_true_eq, ge_iff_le]; (try split) <;> omega
theorem wrap_u32 {x : Int} (h1 : 0 ≤ x) (h2 : x ≤ 4294967295) : IntKind.u32.wrap x = x := by
  simp only [IntKind.wrap, IntKind.bits, IntKind.signed, Bool.true_and, Bool.false_and, Bool.false_eq_true, if_false, decide_eq_true_eq, ge_iff_le]; (try split) <;> omega
/-- parameters of the walk with the program's own methods -/
def TM (P : Program) (imp : FuncId → Bool) (keep : Nat → Bool) : Par := ⟨imp, methOf P, keep⟩
theorem TM_ok (P : Program) (imp : FuncId → Bool) (keep : Nat → Bool) : MethOk P (TM P imp keep) := fun t name f h v W => by
  obtain ⟨n, hn⟩ : ∃ n, P.types.size + Made.depth = n + 1 := ⟨P.types.size + Made.depth - 1, by have : Made.depth = 100 := rfl; omega⟩
  rw [hn]
  exact methOf_run h n v W
end Go.Proofs.Ytgbhoceamcomfaa

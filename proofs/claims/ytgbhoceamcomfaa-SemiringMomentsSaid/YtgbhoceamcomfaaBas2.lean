/- append(own, src...) where src has another slice type. No program. -/
import Derived.Test.YtgbhoceamcomfaaMix
namespace Go.Proofs.Ytgbhoceamcomfaa
open Go.RowKit
set_option linter.unusedVariables false
set_option linter.unusedSimpArgs false
variable {S : Nat → Prop}
theorem append_types {P : Program} {w : World} {t t2 e e2 ty : TypeId} {b : Option Addr} {n c : Nat} {x : Value} {i : TypeInfo} (ht : P.underlying t = some (.slice e)) (ht2 : P.underlying t2 = some (.slice e2)) (hi : P.info? e = some i) :
    (Builtin.append_ #[t, t2] ty #[.slice b n c, x]).run P w = (Builtin.append_ #[t, t] ty #[.slice b n c, x]).run P w := by
  simp only [Builtin.append_, sizeOf, typeInfo, hi, Sem.run_bind, run_underlying ht, run_underlying ht2, Result.andThen, List.getElem?_toArray, List.getElem?_cons_zero, List.getElem?_cons_succ]
theorem wpList_append_row2 {P : Program} {w : World} {ops : Array Oper} {rest : List Oper} {o : Oper} {a : Act} {Q : Exit → Act → World → Prop} (hgd : o.guard = none) (s x : Operand) (t t2 : TypeId)
    (ho : o.op = .call { callee := .builtin .append, args := #[s, x], argTypes := #[t, t2] })
    (base : Nat) (e e2 : TypeId) (i : TypeInfo) (z : Value) (size bytes : Nat) (ht : P.underlying t = some (.slice e)) (ht2 : P.underlying t2 = some (.slice e2)) (hi : P.info? e = some i) (hz : i.zero = some z)
    (hsize : i.size = size) (hby : i.bytes = bytes) (hzs : z.cells.size = size) (hsz : 0 < size)
    (v : Value) (n : Nat) (xs : List Value) (hs : a.eval s = v) (hown : w.ownsRow base e size v n xs)
    (sa : Option Addr) (m c : Nat) (news : List Value) (hx : a.eval x = .slice sa m c) (hl : news.length = m * size) (hnews : RowAt S w sa news) (h1 : ∀ u ∈ news, u.oneCell' = true)
    (hsn : sa = none → c = 0) (hpos : 0 < bytes) (hbytes : (n + m) * bytes ≤ 140737488355328) (hbase : base ≤ w.heap.size)
    (h : ∀ v' w', w'.ownsRow base e size v' (n + m) (xs ++ news) → w.grownBy w' v.ownBlock → wpList P ops Q rest (a.put o.dst v') w') : wpList P ops Q (o :: rest) a w := by
  have hform : ∃ b n' c', v = .slice b n' c' := by
    obtain ⟨h1, ⟨rfl, rfl⟩ | ⟨g, cap, cur, rfl, _⟩⟩ := hown
    · exact ⟨_, _, _, rfl⟩
    · exact ⟨_, _, _, rfl⟩
  obtain ⟨vb, vn, vc, rfl⟩ := hform
  refine wpList_plain hgd fun K hK => ?_
  have hrun : (execOp a.eval o).run P w = (execOp a.eval { o with op := .call { callee := .builtin .append, args := #[s, x], argTypes := #[t, t] } }).run P w := by
    have := append_types (w := w) (ty := o.type) (b := vb) (n := vn) (c := vc) (x := a.eval x) ht ht2 hi
    simp [execOp, ho, resolve, invoke, builtin, hs, this]
  have hm : n + m ≤ maxLen := by
    have h2 : n + m ≤ (n + m) * bytes := Nat.le_mul_of_pos_right _ hpos
    unfold maxLen; omega
  have main : Oper.wp P { o with op := .call { callee := .builtin .append, args := #[s, x], argTypes := #[t, t] } } a w K Q := by
    cases sa with
    | none =>
      obtain rfl : news = [] := by
        rcases hnews with h2 | ⟨b, o, h2, _, _⟩
        · exact h2
        · cases h2
      obtain rfl : m = 0 := by
        have := hl.symm
        rcases Nat.mul_eq_zero.1 this with h2 | h2 <;> omega
      obtain rfl : c = 0 := hsn rfl
      have hr := run_append_owned_none (P := P) (w := w) base t o.type e i size ht hi _ n xs hown
      unfold Oper.wp
      simp [execOp, resolve, invoke, builtin, hs, hx, hr, Result.andThen]
      exact hK _ _ (h _ w (by simpa using hown) ⟨rfl, rfl, rfl, Nat.le_refl _, fun _ _ _ => rfl⟩)
    | some ad =>
      refine wp_append_own w s x t rfl base e i z size bytes ht hi hz hsize hby hzs hsz _ n xs hs hown ad m c news hx hl ?_ h1 hm hbytes hbase (fun v' w' h2 h3 _ => hK _ _ (h v' w' h2 h3))
      intro j u hj
      obtain ⟨b, o, h2, h3⟩ := hnews.get hj
      cases h2
      have hadd : (⟨b, o, none⟩ : Addr).add j = ⟨b, o + j, none⟩ := by unfold Addr.add; split <;> simp_all
      rw [hadd]; exact h3
  unfold Oper.wp at main ⊢
  rw [hrun]
  exact main
end Go.Proofs.Ytgbhoceamcomfaa

/- Slices of structs that came in. No program but for the fields' types. -/
import Derived.Test.YtbbnpicddmplbaaEnd
import Derived.Test.YtbbnpicddmplbaaPlP
import Derived.Deep.Slices
namespace Go.Proofs.Ytbbnpicddmplbaa
open Go.ChangeShapes Go.WideShapes Go.ChangeAt Go.RowKit
set_option linter.unusedVariables false
section
variable {H : Type} {enc : TypeId × Value → H} {P : Program}
/-- A slice whose elements are read, each of them, as something of type α. -/
theorem open_structs {α : Type} {f : α → List Value} {Good : α → Prop} {n : Nat} (hf : ∀ x, (f x).length = n) (hn : 0 < n) {w : World} {t e : TypeId} {v : Value} {d : DataW H} {ps : List MemPlace} {r : Reach} {b0 : Nat} (ht : P.underlying t = some (.slice e)) (hc : P.cellsOf e = n)
    (read : ∀ (fuel : Nat) (cs : List Value) (x : DataW H × List MemPlace), DataW.trod enc P w 0 (fun _ => true) true fuel e cs = some x → ∃ y : α, cs = f y ∧ Good y)
    (hval : Value.okWide P w r b0 t v) (h : DataW.Trod enc P w 0 (fun _ => true) true t v d ps) :
    ∃ (a : Option Addr) (l : List α) (cap : Nat), v = .slice a l.length cap ∧ l.length ≤ cap ∧ cap ≤ 9223372036854775807 ∧ (a = none → cap = 0) ∧ RowAt (fun _ => True) w a (l.flatMap f) ∧ ∀ y ∈ l, Good y := by
  obtain ⟨a0, len, cap, rfl⟩ := okWide_slice ht hval
  obtain ⟨fuel, hfu⟩ := h
  rcases Go.Deep.open_slice ht hfu with ⟨hcs, hx⟩ | ⟨a, len', cap', m, k, D, Pl, hcs, _, hl, hm, hmm, hx, hcell⟩
  · simp [Value.cells] at hcs
    obtain ⟨rfl, rfl, rfl⟩ := hcs
    exact ⟨none, [], 0, rfl, by simp, by simp, fun _ => rfl, .inl rfl, fun z hz => by simp at hz⟩
  · simp [Value.cells] at hcs
    obtain ⟨rfl, rfl, rfl⟩ := hcs
    simp only [if_true] at hmm
    unfold maxLen at hm
    rw [hc] at hcell
    have build : ∀ q, q ≤ len → ∃ l : List α, l.length = q ∧ (∀ y ∈ l, Good y) ∧ ∀ i y, l[i]? = some y → ∀ j, j < n → w.cell? ((a.add (i * n)).add j) = (f y)[j]? := by
      intro q
      induction q with
      | zero => intro _; exact ⟨[], rfl, fun y hy => by simp at hy, fun i y hy => by simp at hy⟩
      | succ q ih =>
        intro hq
        obtain ⟨l, h1, h2, h3⟩ := ih (by omega)
        obtain ⟨cs', c1, c2⟩ := hcell q (by omega)
        obtain ⟨y, rfl, hy⟩ := read _ _ _ c2
        obtain ⟨_, _, c3⟩ := World.cells?_some c1
        refine ⟨l ++ [y], by simp [h1], fun z hz => ?_, fun i z hz j hj => ?_⟩
        · rcases List.mem_append.1 hz with hz | hz
          · exact h2 z hz
          · simp only [List.mem_singleton] at hz; subst hz; exact hy
        · rcases Nat.lt_or_ge i l.length with hi | hi
          · rw [List.getElem?_append_left hi] at hz
            exact h3 i z hz j hj
          · rw [List.getElem?_append_right hi] at hz
            have hi' : i = q := by
              rcases Nat.lt_or_ge (i - l.length) 1 with k1 | k1
              · omega
              · rw [List.getElem?_eq_none (by simpa using k1)] at hz; cases hz
            subst hi'
            rw [h1, Nat.sub_self] at hz
            simp only [List.getElem?_cons_zero, Option.some.injEq] at hz
            subst hz
            exact c3 j hj
    obtain ⟨l, h1, h2, h3⟩ := build len (Nat.le_refl _)
    refine ⟨some a, l, cap, by rw [h1], by rw [h1]; exact hl, hm, (fun h => by cases h), ?_, h2⟩
    rcases Nat.eq_zero_or_pos len with h0 | h0
    · subst h0
      rw [List.eq_nil_of_length_eq_zero h1]
      exact .inl rfl
    · obtain ⟨b, off, spot⟩ := a
      have hspot : spot = none := by
        have hy : l[0]? = some l[0] := List.getElem?_eq_getElem (by omega)
        have h4 := h3 0 l[0] hy 0 hn
        rw [List.getElem?_eq_getElem (by rw [hf]; exact hn)] at h4
        have := World.cell?_spot h4
        simpa [Addr.add] using this
      subst hspot
      refine .inr ⟨b, off, rfl, trivial, fun i hi => ?_⟩
      rw [flat_len hf, h1] at hi
      have hq : i / n < l.length := by rw [h1]; exact Nat.div_lt_of_lt_mul (by rw [Nat.mul_comm]; exact hi)
      have hr : i % n < n := Nat.mod_lt _ hn
      have he : i = (i / n) * n + i % n := by rw [Nat.mul_comm]; exact (Nat.div_add_mod i n).symm
      have hy : l[i / n]? = some l[i / n] := List.getElem?_eq_getElem hq
      have h4 := h3 (i / n) l[i / n] hy (i % n) hr
      rw [add_plain, add_plain, Nat.add_assoc] at h4
      have h5 := flat_get hf l (i / n) (i % n) l[i / n] hr hy
      rw [← he] at h4 h5
      rw [h4, h5]
/-- api.Value -/
theorem read_value {w : World} {t a b c : TypeId} {fuel : Nat} {cs : List Value} {x : DataW H × List MemPlace} {f0 f1 f2 : Field} (he : P.underlying t = some (.struct #[f0, f1, f2]))
    (h0 : f0.offset = 0 ∧ P.cellsOf f0.type = 1 ∧ P.underlying f0.type = some (.int .i64)) (h1 : f1.offset = 1 ∧ P.cellsOf f1.type = 1 ∧ P.underlying f1.type = some (.int .i64)) (h2 : f2.offset = 2 ∧ P.cellsOf f2.type = 1 ∧ P.underlying f2.type = some .string) (hc : P.cellsOf t = 3)
    (h : DataW.trod enc P w 0 (fun _ => true) true fuel t cs = some x) : ∃ v : GV, cs = [.int .i64 v.kind, .int .i64 v.num, .string v.str] ∧ v.str.size ≤ 9223372036854775807 := by
  obtain ⟨xs, k, rfl, -, hlen, hxl, hf⟩ := DataW.trod_struct he h
  rw [hc] at hlen
  match cs, hlen with
  | [u0, u1, u2], _ =>
    have g0 := hf 0 f0 rfl
    have g1 := hf 1 f1 rfl
    have g2 := hf 2 f2 rfl
    rw [List.getElem?_eq_getElem (by rw [hxl]; simp)] at g0 g1 g2
    rw [h0.1, h0.2.1] at g0
    rw [h1.1, h1.2.1] at g1
    rw [h2.1, h2.2.1] at g2
    simp only [List.drop_zero, List.drop_succ_cons, List.take_succ_cons, List.take_zero] at g0 g1 g2
    obtain ⟨m0, e0, -, -⟩ := DataW.trod_int h0.2.2 g0
    obtain ⟨m1, e1, -, -⟩ := DataW.trod_int h1.2.2 g1
    obtain ⟨m2, e2, -, hs⟩ := DataW.trod_string h2.2.2 g2
    cases e0
    cases e1
    cases e2
    unfold maxLen at hs
    exact ⟨⟨m0, m1, m2⟩, rfl, hs⟩
def GoodAct (x : GAct) : Prop := x.q < 256 ∧ x.n < 4294967296 ∧ x.v.str.size ≤ 9223372036854775807
/-- Act -/
theorem read_act {w : World} {t tv : TypeId} {fuel : Nat} {cs : List Value} {x : DataW H × List MemPlace} {f0 f1 f2 v0 v1 v2 : Field} (he : P.underlying t = some (.struct #[f0, f1, f2])) (hv : P.underlying f1.type = some (.struct #[v0, v1, v2]))
    (h0 : f0.offset = 0 ∧ P.cellsOf f0.type = 1 ∧ P.underlying f0.type = some (.int .u8)) (h1 : f1.offset = 1 ∧ P.cellsOf f1.type = 3) (h2 : f2.offset = 4 ∧ P.cellsOf f2.type = 1 ∧ P.underlying f2.type = some (.int .u32)) (hc : P.cellsOf t = 5)
    (k0 : v0.offset = 0 ∧ P.cellsOf v0.type = 1 ∧ P.underlying v0.type = some (.int .i64)) (k1 : v1.offset = 1 ∧ P.cellsOf v1.type = 1 ∧ P.underlying v1.type = some (.int .i64)) (k2 : v2.offset = 2 ∧ P.cellsOf v2.type = 1 ∧ P.underlying v2.type = some .string)
    (h : DataW.trod enc P w 0 (fun _ => true) true fuel t cs = some x) : ∃ y : GAct, cs = actCells y ∧ GoodAct y := by
  obtain ⟨xs, k, rfl, -, hlen, hxl, hf⟩ := DataW.trod_struct he h
  rw [hc] at hlen
  match cs, hlen with
  | [u0, u1, u2, u3, u4], _ =>
    have g0 := hf 0 f0 rfl
    have g1 := hf 1 f1 rfl
    have g2 := hf 2 f2 rfl
    rw [List.getElem?_eq_getElem (by rw [hxl]; simp)] at g0 g1 g2
    rw [h0.1, h0.2.1] at g0
    rw [h1.1, h1.2] at g1
    rw [h2.1, h2.2.1] at g2
    simp only [List.drop_zero, List.drop_succ_cons, List.take_succ_cons, List.take_zero] at g0 g1 g2
    obtain ⟨m0, e0, -, w0⟩ := DataW.trod_int h0.2.2 g0
    obtain ⟨v, e1, hs⟩ := read_value (a := 0) (b := 0) (c := 0) hv k0 k1 k2 h1.2 g1
    obtain ⟨m2, e2, -, w2⟩ := DataW.trod_int h2.2.2 g2
    cases e0
    cases e1
    cases e2
    have w0' : 0 ≤ m0 ∧ m0 ≤ 255 := by simpa [Lit.wf, IntKind.min, IntKind.max, IntKind.signed, IntKind.bits] using w0
    have w2' : 0 ≤ m2 ∧ m2 ≤ 4294967295 := by simpa [Lit.wf, IntKind.min, IntKind.max, IntKind.signed, IntKind.bits] using w2
    obtain ⟨q, rfl⟩ := Int.eq_ofNat_of_zero_le w0'.1
    obtain ⟨n, rfl⟩ := Int.eq_ofNat_of_zero_le w2'.1
    exact ⟨⟨q, v, n⟩, rfl, (show q < 256 by omega), (show n < 4294967296 by omega), hs⟩
end
end Go.Proofs.Ytbbnpicddmplbaa

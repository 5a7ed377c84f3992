/- The operations that only compute: one lemma each, then all of them. -/
import Derived.Test.YtgbhoceamcomfaaAb4
import Derived.Lib.SliceRun
import Derived.Laws.StructEq
namespace Go.Proofs.Ytgbhoceamcomfaa
open Go.RowKit
set_option linter.unusedVariables false
set_option linter.unusedSimpArgs false
section
variable {P : Program} {T : Par} {I : Im} {w : World} {β : Be} {sl : List D} {st : List Bk} {a : Act}
/-- s yields, in whatever world, a value that means d. -/
def Yl (P : Program) (I : Im) (w : World) (β : Be) (s : Sem Value) (d : D) : Prop := ∃ v, (∀ W : World, s.run P W = .ok v W) ∧ Rel I w β d v
theorem Yl.mk {s : Sem Value} {d : D} {v : Value} (h : ∀ W : World, s.run P W = .ok v W) (hr : Rel I w β d v) : Yl P I w β s d := ⟨v, h, hr⟩
theorem Rel.valI (v : Value) : Rel I w β (.val v) v := by simp only [Rel]
theorem yl_int {op : BinOp} {k : IntKind} {x y : Int} {p : Prop} {d : D} (hs : op ≠ .shl ∧ op ≠ .shr) (he : aInt op k x y = .lit p d) (hp : p) (t : TypeId) : Yl P I w β (binOp op t (.int k x) (.int k y)) d := by
  cases op <;> simp only [aInt, Eff.lit.injEq, reduceCtorEq, ne_eq, not_true_eq_false, false_and, and_false] at he hs <;> obtain ⟨rfl, rfl⟩ := he <;>
    first
    | (refine Yl.mk (fun W => ?_) (Rel.valI _); simp [binOp, Op.intArith, Op.intBits, Op.intCmp]; done)
    | (refine Yl.mk (fun W => ?_) (Rel.valI _); simp [binOp, Op.intArith, Op.intBits, Op.intCmp]; rfl)
    | (refine Yl.mk (fun W => ?_) (Rel.valI _); simp [binOp, Op.intDiv, hp]; done)
theorem yl_str {op : BinOp} {x y : ByteArray} {p : Prop} {d : D} (he : aStr op x y = .lit p d) (hp : p) (t : TypeId) : Yl P I w β (binOp op t (.string x) (.string y)) d := by
  cases op <;> simp only [aStr, Eff.lit.injEq, reduceCtorEq] at he <;> obtain ⟨rfl, rfl⟩ := he <;>
    first
    | (refine Yl.mk (fun W => ?_) (Rel.valI _)
       have : ¬ (((x.size + y.size : Nat) : Int) > IntKind.i64.max) := by
          have : IntKind.i64.max = 9223372036854775807 := rfl
          omega
       simp only [binOp, Op.stringOp]
       rw [if_neg this]; rfl)
    | (refine Yl.mk (fun W => ?_) (Rel.valI _); simp [binOp, Op.stringOp]; done)
    | (refine Yl.mk (fun W => ?_) (Rel.valI _); simp [binOp, Op.stringOp]; rfl)
theorem run_eqB {t : TypeId} (hu : P.underlying t = some .bool) (x y : Bool) (W : World) : (Op.equal t (.bool x) (.bool y)).run P W = .ok (x == y) W := by
  show (Op.equalIn (9999 + 1) t (.bool x) (.bool y)).run P W = _
  rw [Op.equalIn, Sem.run_bind, run_underlying hu W]
  rfl
theorem yl_un {op : UnOp} {x : D} {u : Value} {p : Prop} {d : D} (hx : Rel I w β x u) (he : aUn op x = .lit p d) : Yl P I w β (Op.unary op u) d := by
  unfold aUn at he
  split at he
  · simp only [Rel] at hx; subst hx
    simp only [Eff.lit.injEq] at he
    obtain ⟨rfl, rfl⟩ := he
    exact Yl.mk (fun W => by simp [Op.unary]) (Rel.valI _)
  · simp only [Rel] at hx; subst hx
    simp only [Eff.lit.injEq] at he
    obtain ⟨rfl, rfl⟩ := he
    exact Yl.mk (fun W => by simp [Op.unary, Op.intArith]) (Rel.valI _)
  · cases he
theorem yl_conv {src dst : TypeId} {x : D} {u : Value} {p : Prop} {d : D} (hx : Rel I w β x u) (he : aConv P src dst x = .lit p d) : Yl P I w β (convert src dst u) d := by
  unfold aConv at he
  split at he
  · rename_i h1 h2
    simp only [Rel] at hx; subst hx
    simp only [Eff.lit.injEq] at he
    obtain ⟨rfl, rfl⟩ := he
    exact Yl.mk (fun W => by simp [convert, Sem.run_bind, run_underlying h1, run_underlying h2, Conv.intToInt]) (Rel.valI _)
  · rename_i h1 h2
    simp only [Rel] at hx; subst hx
    simp only [Eff.lit.injEq] at he
    obtain ⟨rfl, rfl⟩ := he
    exact Yl.mk (fun W => by simp [convert, Sem.run_bind, run_underlying h1, run_underlying h2]) (Rel.valI _)
  · cases he
theorem field_under {t : TypeId} {f o : Nat} {ft : TypeId} (h : fieldOf P t f = some (o, ft)) : ∃ fs fl, P.underlying t = some (.struct fs) ∧ fs[f]? = some fl ∧ fl.offset = o ∧ fl.type = ft := by
  unfold fieldOf at h
  split at h
  · rename_i fs hu
    cases hf : fs[f]? with
    | none => simp [hf] at h
    | some fl => simp [hf] at h; exact ⟨fs, fl, hu, hf, h.1, h.2⟩
  · cases h
theorem RelL.sub {β : Be} {cs : List D} {vs : List Value} (h : RelL I w β cs vs) (o n : Nat) : RelL I w β ((cs.drop o).take n) ((vs.drop o).take n) := by
  refine RelL.of_get (by simp [h.length]) fun j x y hx hy => ?_
  rw [List.getElem?_take] at hx hy
  split at hx
  · rename_i hj
    rw [if_pos hj] at hy
    rw [List.getElem?_drop] at hx hy
    obtain ⟨y', k1, k2, k3⟩ := h.get _ x hx
    rw [hy] at k1; cases k1
    exact ⟨k2, k3⟩
  · cases hx
theorem RelL.getD {β : Be} {cs : List D} {vs : List Value} (h : RelL I w β cs vs) {o : Nat} (ho : o < cs.length) : ∃ v, vs[o]? = some v ∧ v.oneCell' = true ∧ Rel I w β (cs.getD o .unk) v := by
  obtain ⟨v, h1, h2, h3⟩ := h.get o cs[o] (by simp [ho])
  refine ⟨v, h1, h2, ?_⟩
  rw [List.getD_eq_getElem?_getD, List.getElem?_eq_getElem ho]
  exact h3
/-- a part of an aggregate -/
theorem yl_part {t : TypeId} {s : Nat} {cs : List D} {vs : List Value} (o : Nat) (hs : tySz P t = some s) (h : RelL I w β cs vs) :
    (tyAgg P t = true → o + s ≤ cs.length → Yl P I w β (part t vs.toArray o) (.agg ((cs.drop o).take s))) ∧ (tyAgg P t = false → o < cs.length → Yl P I w β (part t vs.toArray o) (cs.getD o .unk)) := by
  constructor
  · intro ha hl
    refine Yl.mk (v := .agg ((vs.drop o).take s).toArray) (fun W => ?_) ?_
    · simp only [part, Sem.run_bind, run_agg hs, ha, Result.andThen_ok, if_true, run_sz hs, Sem.run_pure]
      congr 2
      apply Array.ext'
      simp
    · simp only [Rel]; exact ⟨_, rfl, h.sub o s⟩
  · intro ha hl
    obtain ⟨v, h1, h2, h3⟩ := h.getD hl
    refine Yl.mk (v := v) (fun W => ?_) h3
    simp [part, Sem.run_bind, run_agg hs, ha, h1]
theorem partD_sound {t : TypeId} {cs : List D} {vs : List Value} {o : Nat} {d : D} (h : RelL I w β cs vs) (hp : partD P t cs o = some d) : Yl P I w β (part t vs.toArray o) d := by
  unfold partD at hp
  split at hp
  · cases hp
  · rename_i s hs
    have hq := yl_part (P := P) (I := I) (w := w) (β := β) o hs h
    split at hp
    · rename_i ha
      split at hp
      · cases hp; exact hq.1 ha (by assumption)
      · cases hp
    · rename_i ha
      split at hp
      · cases hp; exact hq.2 (by simpa using ha) (by assumption)
      · cases hp
theorem eqF_sound {rec : TypeId → D → D → Option Bool} {d : Nat} (ih : ∀ t x y b u v, Rel I w β x u → Rel I w β y v → rec t x y = some b → ∀ W, (Op.equalIn d t u v).run P W = .ok b W) {xs ys : List D} {vs us : List Value} (hx : RelL I w β xs vs) (hy : RelL I w β ys us) :
    ∀ (fs : List Field) (b : Bool), eqF P rec xs ys fs = some b → ∀ W, (Op.eqFields d vs.toArray us.toArray fs).run P W = .ok b W
  | [], b, h, W => by simp only [eqF, Option.some.injEq] at h; subst h; simp [Op.eqFields]
  | f :: fs, b, h, W => by
    simp only [eqF] at h
    split at h
    · cases h
    rename_i hn
    have hn' : f.name ≠ "_" := by simpa using hn
    split at h
    · rename_i a c h1 h2
      split at h
      · rename_i r q h3 h4
        simp only [Option.some.injEq] at h
        subst h
        obtain ⟨v1, r1, k1⟩ := partD_sound hx h1
        obtain ⟨v2, r2, k2⟩ := partD_sound hy h2
        have e := ih _ _ _ _ _ _ k1 k2 h3
        have e2 := eqF_sound ih hx hy fs q h4
        simp only [Op.eqFields, if_pos hn', Sem.run_bind, r1, r2, e, Result.andThen_ok]
        cases r
        · simp
        · simp [e2]
      · cases h
    · cases h
theorem eqD_sound : ∀ (n : Nat) (t : TypeId) (x y : D) (b : Bool) (u v : Value), Rel I w β x u → Rel I w β y v → eqD P n t x y = some b → ∀ d, n ≤ d → ∀ W, (Op.equalIn d t u v).run P W = .ok b W
  | 0, t, x, y, b, u, v, hx, hy, h => by simp [eqD] at h
  | n + 1, t, x, y, b, u, v, hx, hy, h => by
    intro d hd W
    obtain ⟨d, rfl⟩ : ∃ e, d = e + 1 := ⟨d - 1, by omega⟩
    unfold eqD at h
    split at h
    · rename_i hu
      simp only [Rel] at hx hy
      subst hx; subst hy
      cases h
      exact run_equalIn_bool' W d t _ _ hu
    · rename_i hu
      simp only [Rel] at hx hy
      subst hx; subst hy
      split at h
      · subst_vars
        cases h
        exact run_equalIn_int W d t _ _ _ _ hu
      · cases h
    · rename_i hu
      simp only [Rel] at hx hy
      subst hx; subst hy
      cases h
      exact run_equalIn_string W d t _ _ hu
    · rename_i fs xs ys hu
      simp only [Rel] at hx hy
      obtain ⟨vs, rfl, hx⟩ := hx
      obtain ⟨us, rfl, hy⟩ := hy
      split at h
      · cases h
      rename_i hs
      have hf : P.fieldsOf t = fs := by simp [Program.fieldsOf, hu]
      rw [run_equalIn_struct W d t _ _ (by rw [hf]; exact hu) (by simpa using hs), hf]
      exact eqF_sound (fun t x y b u v h1 h2 h3 W => eqD_sound n t x y b u v h1 h2 h3 d (by omega) W) hx hy _ _ h W
    · cases h
theorem yl_eqS {op : BinOp} {t : TypeId} {xs ys : List D} {u v : Value} {p : Prop} {d : D} (hx : Rel I w β (.agg xs) u) (hy : Rel I w β (.agg ys) v) (he : aEqS P op t (.agg xs) (.agg ys) = .lit p d) (ox oy : Operand) :
    Yl P I w β (do eqGuard op t ox oy u v; binOp op t u v) d := by
  unfold aEqS at he
  split at he
  · cases he
  rename_i hm
  have hx' := hx
  have hy' := hy
  simp only [Rel] at hx hy
  obtain ⟨vs, rfl, _⟩ := hx
  obtain ⟨us, rfl, _⟩ := hy
  split at he
  · rename_i b hb
    cases he
    refine Yl.mk (fun W => ?_) (Rel.valI _)
    rw [Sem.run_bind, run_eqGuard_agg W _ t ox oy _ _ (by simpa using hm), Result.andThen_ok, run_eql_struct, eqD_sound 6 t _ _ b _ _ hx' hy' hb 10000 (by decide) W]
    rfl
  · rename_i b hb
    cases he
    refine Yl.mk (fun W => ?_) (Rel.valI _)
    rw [Sem.run_bind, run_eqGuard_agg W _ t ox oy _ _ (by simpa using hm), Result.andThen_ok, run_neq_struct, eqD_sound 6 t _ _ b _ _ hx' hy' hb 10000 (by decide) W]
    rfl
  · cases he
theorem yl_nil {op : BinOp} {t : TypeId} {a : Option Addr} {n c : Nat} {p : Prop} {d : D} {ox oy : Operand} (he : aNil P op t n = .lit p d) (hp : p) (ha : a = none → n ≤ 0) :
    Yl P I w β (do eqGuard op t ox oy (.slice a n c) (.slice none 0 0); binOp op t (.slice a n c) (.slice none 0 0)) d := by
  unfold aNil at he
  split at he
  · rename_i e hu
    simp only [Eff.lit.injEq] at he
    obtain ⟨rfl, rfl⟩ := he
    have hn : a.isNone = false := by
      cases a with
      | none => have := ha rfl; omega
      | some _ => rfl
    refine Yl.mk (fun W => ?_) (Rel.valI _)
    have hg : (eqGuard .eql t ox oy (.slice a n c) (.slice none 0 0)).run P W = .ok () W := by simp [eqGuard]
    rw [Sem.run_bind, hg]
    have := Lib.run_eql_slice_nil (P := P) W t e a n c 0 0 hu
    rw [hn] at this
    exact this
  · cases he
theorem yl_bin {op : BinOp} {t : TypeId} {x y : D} {u v : Value} {p : Prop} {d : D} (hx : Rel I w β x u) (hy : Rel I w β y v) (he : aBin P op t x y = .lit p d) (hp : p) (ox oy : Operand) :
    Yl P I w β (do eqGuard op t ox oy u v; binOp op t u v) d := by
  unfold aBin at he
  split at he
  · rename_i k x k' y
    simp only [Rel] at hx hy
    subst hx; subst hy
    have hg : ∀ W : World, (eqGuard op t ox oy (.int k x) (.int k' y)).run P W = .ok () W := fun W => by cases op <;> simp [eqGuard]
    have lift : Yl P I w β (binOp op t (.int k x) (.int k' y)) d → Yl P I w β (do eqGuard op t ox oy (.int k x) (.int k' y); binOp op t (.int k x) (.int k' y)) d := by
      rintro ⟨v, h1, h2⟩
      exact ⟨v, fun W => by rw [Sem.run_bind, hg]; exact h1 W, h2⟩
    refine lift ?_
    split at he
    · simp only [Eff.lit.injEq] at he
      obtain ⟨rfl, rfl⟩ := he
      exact Yl.mk (fun W => by simp [binOp, Op.shift, Int.not_lt.2 hp]) (Rel.valI _)
    · simp only [Eff.lit.injEq] at he
      obtain ⟨rfl, rfl⟩ := he
      exact Yl.mk (fun W => by simp [binOp, Op.shift, Int.not_lt.2 hp]) (Rel.valI _)
    · rename_i h1 h2
      split at he
      · subst_vars
        exact yl_int ⟨h1, h2⟩ he hp t
      · cases he
  · simp only [Rel] at hx hy
    subst hx; subst hy
    rename_i x y
    obtain ⟨v, h1, h2⟩ := yl_str (P := P) (I := I) (w := w) (β := β) he hp t
    exact ⟨v, fun W => by rw [Sem.run_bind, show (eqGuard op t ox oy (.string x) (.string y)).run P W = .ok () W by cases op <;> simp [eqGuard]]; exact h1 W, h2⟩
  · simp only [Rel] at hx hy
    subst hx; subst hy
    rename_i x y
    split at he
    · rename_i hu
      simp only [Eff.lit.injEq] at he
      obtain ⟨rfl, rfl⟩ := he
      exact Yl.mk (fun W => by simp only [eqGuard, binOp, Sem.run_bind, run_eqB hu]; rfl) (Rel.valI _)
    · rename_i hu
      simp only [Eff.lit.injEq] at he
      obtain ⟨rfl, rfl⟩ := he
      exact Yl.mk (fun W => by simp only [eqGuard, binOp, Sem.run_bind, run_eqB hu]; rfl) (Rel.valI _)
    · cases he
  · simp only [Rel] at hx hy
    obtain ⟨a, cap, rfl, h1, h2, h3, _⟩ := hx
    subst hy
    exact yl_nil he hp (fun h => by have := h3 h; omega)
  · simp only [Rel] at hx hy
    subst hy
    rcases hx with ⟨rfl, _, rfl⟩ | ⟨rfl, _, _, a, c, rfl, _, _⟩ | ⟨b, c, cap, _, rfl, _⟩
    · exact yl_nil he hp (fun _ => Nat.le_refl _)
    · exact yl_nil he hp (fun _ => Nat.le_refl _)
    · exact yl_nil he hp (fun h => by cases h)
  · exact yl_eqS hx hy he ox oy
  · cases he
theorem yl_field {t : TypeId} {f : Nat} {x : D} {u : Value} {p : Prop} {d : D} (hx : Rel I w β x u) (he : aField P t x f = .lit p d) (hp : p) : Yl P I w β (Instr.field t u f) d := by
  unfold aField at he
  split at he
  · rename_i cs o ft hf
    obtain ⟨fs, fl, h1, h2, rfl, rfl⟩ := field_under hf
    simp only [Rel] at hx
    obtain ⟨vs, rfl, hv⟩ := hx
    split at he
    · rename_i sz hs
      have hpt := yl_part (P := P) fl.offset hs hv
      have lift : Yl P I w β (part fl.type vs.toArray fl.offset) d → Yl P I w β (Instr.field t (.agg vs.toArray) f) d := by
        rintro ⟨v, k1, k2⟩
        refine Yl.mk (v := v) (fun W => ?_) k2
        simp [Instr.field, Sem.run_bind, run_underlying h1, h2, asAgg, k1]
      refine lift ?_
      split at he <;> rename_i hag <;> simp only [Eff.lit.injEq] at he <;> obtain ⟨rfl, rfl⟩ := he
      · exact hpt.1 hag hp
      · exact hpt.2 (by simpa using hag) hp
    · cases he
  · cases he
theorem yl_fieldAddr {t : TypeId} {f : Nat} {x : D} {u : Value} {p : Prop} {d : D} (hx : Rel I w β x u) (he : aFieldAddr P t x f = .lit p d) : Yl P I w β (Instr.fieldAt t u f) d := by
  unfold aFieldAddr at he
  split at he
  · rename_i o ft hf
    obtain ⟨fs, fl, h1, h2, rfl, rfl⟩ := field_under hf
    have key : ∀ b o s (W : World), tySz P fl.type = some (s + 1) → (Instr.fieldAt t (.pointer (some ⟨b, o, none⟩)) f).run P W = .ok (.pointer (some ⟨b, o + fl.offset, none⟩)) W := by
      intro b o s W hs
      simp [Instr.fieldAt, Sem.run_bind, run_underlying h1, h2, Instr.sureAddr, fieldPlace, run_sz hs, Addr.add_mid]
    split at he
    · rename_i hs
      simp only [Rel] at hx
      obtain ⟨b, c, hb, rfl⟩ := hx
      simp only [Eff.lit.injEq] at he
      obtain ⟨rfl, rfl⟩ := he
      exact Yl.mk (key _ _ _ · hs) (by simp only [Rel]; exact ⟨b, c, hb, rfl⟩)
    · rename_i hs
      simp only [Rel] at hx
      obtain ⟨b, o, rfl, hb⟩ := hx
      simp only [Eff.lit.injEq] at he
      obtain ⟨rfl, rfl⟩ := he
      exact Yl.mk (key _ _ _ · hs) (by simp only [Rel]; exact ⟨b, _, rfl, hb.drop _⟩)
    · cases he
  · cases he
theorem yl_index {t : TypeId} {x i : D} {u v : Value} {p : Prop} {d : D} (hx : Rel I w β x u) (hi : Rel I w β i v) (he : aIndex P t x i = .lit p d) (hp : p) : Yl P I w β (Instr.index t u v) d := by
  unfold aIndex at he
  split at he
  · rename_i k i
    simp only [Rel] at hi; subst hi
    split at he
    · rename_i n e cs hu
      simp only [Rel] at hx
      obtain ⟨vs, rfl, hv⟩ := hx
      split at he
      · rename_i sz hs
        have hpt := yl_part (P := P) (i.toNat * sz) hs hv
        have lift : (0 ≤ i ∧ i < n) → Yl P I w β (part e vs.toArray (i.toNat * sz)) d → Yl P I w β (Instr.index t (.agg vs.toArray) (.int k i)) d := by
          rintro hb ⟨v, k1, k2⟩
          refine Yl.mk (v := v) (fun W => ?_) k2
          simp [Instr.index, asIntOf, Sem.run_bind, run_underlying hu, hb, run_sz hs, k1]
        split at he <;> rename_i hag <;> simp only [Eff.lit.injEq] at he <;> obtain ⟨rfl, rfl⟩ := he
        · exact lift ⟨hp.1, hp.2.1⟩ (hpt.1 hag hp.2.2)
        · exact lift ⟨hp.1, hp.2.1⟩ (hpt.2 (by simpa using hag) hp.2.2)
      · cases he
    · rename_i s hu
      simp only [Rel] at hx; subst hx
      simp only [Eff.lit.injEq] at he
      obtain ⟨rfl, rfl⟩ := he
      have hlt : i.toNat < s.data.size := by
        have : s.size = s.data.size := rfl
        omega
      refine Yl.mk (fun W => ?_) (Rel.valI _)
      have h1 : s[i.toNat]? = some (s.data.getD i.toNat 0) := by
        have h2 : i.toNat < s.size := hlt
        rw [getElem?_pos s i.toNat h2]
        simp only [Array.getD]
        rw [dif_pos hlt]
        rfl
      simp [Instr.index, asIntOf, Sem.run_bind, run_underlying hu, hp.1, h1]
    · cases he
  · cases he
theorem yl_indexAddr {t : TypeId} {x i : D} {u v : Value} {p : Prop} {d : D} (hx : Rel I w β x u) (hi : Rel I w β i v) (he : aIndexAddr P t x i = .lit p d) (hp : p) : Yl P I w β (Instr.indexAt t u v) d := by
  unfold aIndexAddr at he
  split at he
  · rename_i k i
    simp only [Rel] at hi; subst hi
    split at he
    · rename_i e hu
      have key : ∀ b o n cap sz (W : World), 0 ≤ i → i < (n : Nat) → tySz P e = some sz → (Instr.indexAt t (.slice (some ⟨b, o, none⟩) n cap) (.int k i)).run P W = .ok (.pointer (some ⟨b, o + i.toNat * sz, none⟩)) W := by
        intro b o n cap sz W h1 h2 hs
        simp [Instr.indexAt, asIntOf, Sem.run_bind, run_underlying hu, h1, h2, run_sz hs, Addr.add_mid]
      split at he
      · rename_i k' off n m wh sz hs
        simp only [Eff.lit.injEq] at he
        obtain ⟨rfl, rfl⟩ := he
        simp only [Rel] at hx
        rcases hx with ⟨rfl, _⟩ | ⟨rfl, _⟩ | ⟨b, c, cap, hb, rfl, _⟩
        · omega
        · omega
        · exact Yl.mk (key _ _ _ _ _ · hp.1 hp.2 hs) (by simp only [Rel]; exact ⟨b, c, hb, rfl⟩)
      · rename_i cs n sz hs
        simp only [Eff.lit.injEq] at he
        obtain ⟨rfl, rfl⟩ := he
        simp only [Rel] at hx
        obtain ⟨ad, cap, rfl, h1, h2, h3, h4 | ⟨b, o, rfl, h4⟩⟩ := hx
        · exact absurd h4 hp.2.2
        · exact Yl.mk (key _ _ _ _ _ · hp.1 hp.2.1 hs) (by simp only [Rel]; exact ⟨b, _, rfl, h4.drop _⟩)
      · cases he
    · rename_i n e hu
      have key : ∀ b o sz (W : World), 0 ≤ i → i < (n : Nat) → tySz P e = some sz → (Instr.indexAt t (.pointer (some ⟨b, o, none⟩)) (.int k i)).run P W = .ok (.pointer (some ⟨b, o + i.toNat * sz, none⟩)) W := by
        intro b o sz W h1 h2 hs
        simp [Instr.indexAt, asIntOf, Sem.run_bind, run_underlying hu, h1, h2, run_sz hs, Addr.add_mid, Instr.sureAddr]
      split at he
      · rename_i k' off sz hs
        simp only [Eff.lit.injEq] at he
        obtain ⟨rfl, rfl⟩ := he
        simp only [Rel] at hx
        obtain ⟨b, c, hb, rfl⟩ := hx
        exact Yl.mk (key _ _ _ · hp.1 hp.2 hs) (by simp only [Rel]; exact ⟨b, c, hb, rfl⟩)
      · rename_i cs sz hs
        simp only [Eff.lit.injEq] at he
        obtain ⟨rfl, rfl⟩ := he
        simp only [Rel] at hx
        obtain ⟨b, o, rfl, hb⟩ := hx
        exact Yl.mk (key _ _ _ · hp.1 hp.2 hs) (by simp only [Rel]; exact ⟨b, _, rfl, hb.drop _⟩)
      · cases he
    · cases he
  · cases he
end
end Go.Proofs.Ytgbhoceamcomfaa

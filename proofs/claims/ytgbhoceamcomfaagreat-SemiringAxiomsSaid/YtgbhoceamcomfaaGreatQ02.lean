/- Texts of this claim, joined: Ab5 Ab6 Ab7 Ab8 Bas2 Ab9 Ab10 -/
import Derived.Test.YtgbhoceamcomfaaGreatQ01
import Derived.Lib.SliceRun
import Derived.Laws.StructEq
import Derived.Laws.MakeOwn
namespace Go.Proofs.YtgbhoceamcomfaaGreat
open Go.RowKit
set_option linter.unusedVariables false
set_option linter.unusedSimpArgs false
section
variable {P : Program} {T : Par} {I : Im} {w : World} {β : Be} {sl : List D} {st : List Bk} {a : Act}
def Yl (P : Program) (I : Im) (w : World) (β : Be) (s : Sem Value) (d : D) : Prop := ∃ v, (∀ W : World, s.run P W = .ok v W) ∧ Rel I w β d v
theorem Yl.mk {s : Sem Value} {d : D} {v : Value} (h : ∀ W : World, s.run P W = .ok v W) (hr : Rel I w β d v) : Yl P I w β s d := ⟨v, h, hr⟩
theorem Rel.valI (v : Value) : Rel I w β (.val v) v := by simp only [Rel]
theorem yl_int {op : BinOp} {k : IntKind} {x y : Int} {p : Prop} {d : D} (hs : op ≠ .shl ∧ op ≠ .shr) (he : aInt op k x y = .lit p d) (hp : p) (t : TypeId) : Yl P I w β (binOp op t (.int k x) (.int k y)) d := by
  cases op <;> simp only [aInt, Eff.lit.injEq, reduceCtorEq, ne_eq, not_true_eq_false, false_and, and_false] at he hs <;> obtain ⟨rfl, rfl⟩ := he <;>
    first
    | (refine Yl.mk (fun W => ?_) (Rel.valI _); simp [binOp, Op.intArith, Op.intBits, Op.intCmp]; done)
    | (refine Yl.mk (fun W => ?_) (Rel.valI _); simp [binOp, Op.intArith, Op.intBits, Op.intCmp]; rfl)
    | (refine Yl.mk (fun W => ?_) (Rel.valI _); simp [binOp, Op.intDiv, hp]; done)
theorem yl_str {op : BinOp} {x y : ByteArray} {p : Prop} {d : D} (he : aStr op x y = .lit p d) (hp : p) (t : TypeId) : Yl P I w β (binOp op t (.string x) (.string y)) d := by
  cases op <;> simp only [aStr, Eff.lit.injEq, reduceCtorEq] at he <;> obtain ⟨rfl, rfl⟩ := he <;>
    first
    | (refine Yl.mk (fun W => ?_) (Rel.valI _)
       have : ¬ (((x.size + y.size : Nat) : Int) > IntKind.i64.max) := by
          have : IntKind.i64.max = 9223372036854775807 := rfl
          omega
       simp only [binOp, Op.stringOp]
       rw [if_neg this]; rfl)
    | (refine Yl.mk (fun W => ?_) (Rel.valI _); simp [binOp, Op.stringOp]; done)
    | (refine Yl.mk (fun W => ?_) (Rel.valI _); simp [binOp, Op.stringOp]; rfl)
theorem run_eqB {t : TypeId} (hu : P.underlying t = some .bool) (x y : Bool) (W : World) : (Op.equal t (.bool x) (.bool y)).run P W = .ok (x == y) W := by
  show (Op.equalIn (9999 + 1) t (.bool x) (.bool y)).run P W = _
  rw [Op.equalIn, Sem.run_bind, run_underlying hu W]
  rfl
theorem yl_un {op : UnOp} {x : D} {u : Value} {p : Prop} {d : D} (hx : Rel I w β x u) (he : aUn op x = .lit p d) : Yl P I w β (Op.unary op u) d := by
  unfold aUn at he
  split at he
  · simp only [Rel] at hx; subst hx
    simp only [Eff.lit.injEq] at he
    obtain ⟨rfl, rfl⟩ := he
    exact Yl.mk (fun W => by simp [Op.unary]) (Rel.valI _)
  · simp only [Rel] at hx; subst hx
    simp only [Eff.lit.injEq] at he
    obtain ⟨rfl, rfl⟩ := he
    exact Yl.mk (fun W => by simp [Op.unary, Op.intArith]) (Rel.valI _)
  · cases he
theorem yl_conv {src dst : TypeId} {x : D} {u : Value} {p : Prop} {d : D} (hx : Rel I w β x u) (he : aConv P src dst x = .lit p d) : Yl P I w β (convert src dst u) d := by
  unfold aConv at he
  split at he
  · rename_i h1 h2
    simp only [Rel] at hx; subst hx
    simp only [Eff.lit.injEq] at he
    obtain ⟨rfl, rfl⟩ := he
    exact Yl.mk (fun W => by simp [convert, Sem.run_bind, run_underlying h1, run_underlying h2, Conv.intToInt]) (Rel.valI _)
  · rename_i h1 h2
    simp only [Rel] at hx; subst hx
    simp only [Eff.lit.injEq] at he
    obtain ⟨rfl, rfl⟩ := he
    exact Yl.mk (fun W => by simp [convert, Sem.run_bind, run_underlying h1, run_underlying h2]) (Rel.valI _)
  · cases he
theorem field_under {t : TypeId} {f o : Nat} {ft : TypeId} (h : fieldOf P t f = some (o, ft)) : ∃ fs fl, P.underlying t = some (.struct fs) ∧ fs[f]? = some fl ∧ fl.offset = o ∧ fl.type = ft := by
  unfold fieldOf at h
  split at h
  · rename_i fs hu
    cases hf : fs[f]? with
    | none => simp [hf] at h
    | some fl => simp [hf] at h; exact ⟨fs, fl, hu, hf, h.1, h.2⟩
  · cases h
theorem RelL.sub {β : Be} {cs : List D} {vs : List Value} (h : RelL I w β cs vs) (o n : Nat) : RelL I w β ((cs.drop o).take n) ((vs.drop o).take n) := by
  refine RelL.of_get (by simp [h.length]) fun j x y hx hy => ?_
  rw [List.getElem?_take] at hx hy
  split at hx
  · rename_i hj
    rw [if_pos hj] at hy
    rw [List.getElem?_drop] at hx hy
    obtain ⟨y', k1, k2, k3⟩ := h.get _ x hx
    rw [hy] at k1; cases k1
    exact ⟨k2, k3⟩
  · cases hx
theorem RelL.getD {β : Be} {cs : List D} {vs : List Value} (h : RelL I w β cs vs) {o : Nat} (ho : o < cs.length) : ∃ v, vs[o]? = some v ∧ v.oneCell' = true ∧ Rel I w β (cs.getD o .unk) v := by
  obtain ⟨v, h1, h2, h3⟩ := h.get o cs[o] (by simp [ho])
  refine ⟨v, h1, h2, ?_⟩
  rw [List.getD_eq_getElem?_getD, List.getElem?_eq_getElem ho]
  exact h3
theorem yl_part {t : TypeId} {s : Nat} {cs : List D} {vs : List Value} (o : Nat) (hs : tySz P t = some s) (h : RelL I w β cs vs) :
    (tyAgg P t = true → o + s ≤ cs.length → Yl P I w β (part t vs.toArray o) (.agg ((cs.drop o).take s))) ∧ (tyAgg P t = false → o < cs.length → Yl P I w β (part t vs.toArray o) (cs.getD o .unk)) := by
  constructor
  · intro ha hl
    refine Yl.mk (v := .agg ((vs.drop o).take s).toArray) (fun W => ?_) ?_
    · simp only [part, Sem.run_bind, run_agg hs, ha, Result.andThen_ok, if_true, run_sz hs, Sem.run_pure]
      congr 2
      apply Array.ext'
      simp
    · simp only [Rel]; exact ⟨_, rfl, h.sub o s⟩
  · intro ha hl
    obtain ⟨v, h1, h2, h3⟩ := h.getD hl
    refine Yl.mk (v := v) (fun W => ?_) h3
    simp [part, Sem.run_bind, run_agg hs, ha, h1]
theorem partD_sound {t : TypeId} {cs : List D} {vs : List Value} {o : Nat} {d : D} (h : RelL I w β cs vs) (hp : partD P t cs o = some d) : Yl P I w β (part t vs.toArray o) d := by
  unfold partD at hp
  split at hp
  · cases hp
  · rename_i s hs
    have hq := yl_part (P := P) (I := I) (w := w) (β := β) o hs h
    split at hp
    · rename_i ha
      split at hp
      · cases hp; exact hq.1 ha (by assumption)
      · cases hp
    · rename_i ha
      split at hp
      · cases hp; exact hq.2 (by simpa using ha) (by assumption)
      · cases hp
theorem eqF_sound {rec : TypeId → D → D → Option Bool} {d : Nat} (ih : ∀ t x y b u v, Rel I w β x u → Rel I w β y v → rec t x y = some b → ∀ W, (Op.equalIn d t u v).run P W = .ok b W) {xs ys : List D} {vs us : List Value} (hx : RelL I w β xs vs) (hy : RelL I w β ys us) :
    ∀ (fs : List Field) (b : Bool), eqF P rec xs ys fs = some b → ∀ W, (Op.eqFields d vs.toArray us.toArray fs).run P W = .ok b W
  | [], b, h, W => by simp only [eqF, Option.some.injEq] at h; subst h; simp [Op.eqFields]
  | f :: fs, b, h, W => by
    simp only [eqF] at h
    split at h
    · cases h
    rename_i hn
    have hn' : f.name ≠ "_" := by simpa using hn
    split at h
    · rename_i a c h1 h2
      split at h
      · rename_i r q h3 h4
        simp only [Option.some.injEq] at h
        subst h
        obtain ⟨v1, r1, k1⟩ := partD_sound hx h1
        obtain ⟨v2, r2, k2⟩ := partD_sound hy h2
        have e := ih _ _ _ _ _ _ k1 k2 h3
        have e2 := eqF_sound ih hx hy fs q h4
        simp only [Op.eqFields, if_pos hn', Sem.run_bind, r1, r2, e, Result.andThen_ok]
        cases r
        · simp
        · simp [e2]
      · cases h
    · cases h
theorem eqD_sound : ∀ (n : Nat) (t : TypeId) (x y : D) (b : Bool) (u v : Value), Rel I w β x u → Rel I w β y v → eqD P n t x y = some b → ∀ d, n ≤ d → ∀ W, (Op.equalIn d t u v).run P W = .ok b W
  | 0, t, x, y, b, u, v, hx, hy, h => by simp [eqD] at h
  | n + 1, t, x, y, b, u, v, hx, hy, h => by
    intro d hd W
    obtain ⟨d, rfl⟩ : ∃ e, d = e + 1 := ⟨d - 1, by omega⟩
    unfold eqD at h
    split at h
    · rename_i hu
      simp only [Rel] at hx hy
      subst hx; subst hy
      cases h
      exact run_equalIn_bool' W d t _ _ hu
    · rename_i hu
      simp only [Rel] at hx hy
      subst hx; subst hy
      split at h
      · subst_vars
        cases h
        exact run_equalIn_int W d t _ _ _ _ hu
      · cases h
    · rename_i hu
      simp only [Rel] at hx hy
      subst hx; subst hy
      cases h
      exact run_equalIn_string W d t _ _ hu
    · rename_i fs xs ys hu
      simp only [Rel] at hx hy
      obtain ⟨vs, rfl, hx⟩ := hx
      obtain ⟨us, rfl, hy⟩ := hy
      split at h
      · cases h
      rename_i hs
      have hf : P.fieldsOf t = fs := by simp [Program.fieldsOf, hu]
      rw [run_equalIn_struct W d t _ _ (by rw [hf]; exact hu) (by simpa using hs), hf]
      exact eqF_sound (fun t x y b u v h1 h2 h3 W => eqD_sound n t x y b u v h1 h2 h3 d (by omega) W) hx hy _ _ h W
    · cases h
theorem yl_eqS {op : BinOp} {t : TypeId} {xs ys : List D} {u v : Value} {p : Prop} {d : D} (hx : Rel I w β (.agg xs) u) (hy : Rel I w β (.agg ys) v) (he : aEqS P op t (.agg xs) (.agg ys) = .lit p d) (ox oy : Operand) :
    Yl P I w β (do eqGuard op t ox oy u v; binOp op t u v) d := by
  unfold aEqS at he
  split at he
  · cases he
  rename_i hm
  have hx' := hx
  have hy' := hy
  simp only [Rel] at hx hy
  obtain ⟨vs, rfl, _⟩ := hx
  obtain ⟨us, rfl, _⟩ := hy
  split at he
  · rename_i b hb
    cases he
    refine Yl.mk (fun W => ?_) (Rel.valI _)
    rw [Sem.run_bind, run_eqGuard_agg W _ t ox oy _ _ (by simpa using hm), Result.andThen_ok, run_eql_struct, eqD_sound 6 t _ _ b _ _ hx' hy' hb 10000 (by decide) W]
    rfl
  · rename_i b hb
    cases he
    refine Yl.mk (fun W => ?_) (Rel.valI _)
    rw [Sem.run_bind, run_eqGuard_agg W _ t ox oy _ _ (by simpa using hm), Result.andThen_ok, run_neq_struct, eqD_sound 6 t _ _ b _ _ hx' hy' hb 10000 (by decide) W]
    rfl
  · cases he
theorem yl_nil {op : BinOp} {t : TypeId} {a : Option Addr} {n c : Nat} {p : Prop} {d : D} {ox oy : Operand} (he : aNil P op t n = .lit p d) (hp : p) (ha : a = none → n ≤ 0) :
    Yl P I w β (do eqGuard op t ox oy (.slice a n c) (.slice none 0 0); binOp op t (.slice a n c) (.slice none 0 0)) d := by
  unfold aNil at he
  split at he
  · rename_i e hu
    simp only [Eff.lit.injEq] at he
    obtain ⟨rfl, rfl⟩ := he
    have hn : a.isNone = false := by
      cases a with
      | none => have := ha rfl; omega
      | some _ => rfl
    refine Yl.mk (fun W => ?_) (Rel.valI _)
    have hg : (eqGuard .eql t ox oy (.slice a n c) (.slice none 0 0)).run P W = .ok () W := by simp [eqGuard]
    rw [Sem.run_bind, hg]
    have := Lib.run_eql_slice_nil (P := P) W t e a n c 0 0 hu
    rw [hn] at this
    exact this
  · cases he
theorem yl_bin {op : BinOp} {t : TypeId} {x y : D} {u v : Value} {p : Prop} {d : D} (hx : Rel I w β x u) (hy : Rel I w β y v) (he : aBin P op t x y = .lit p d) (hp : p) (ox oy : Operand) :
    Yl P I w β (do eqGuard op t ox oy u v; binOp op t u v) d := by
  unfold aBin at he
  split at he
  · rename_i k x k' y
    simp only [Rel] at hx hy
    subst hx; subst hy
    have hg : ∀ W : World, (eqGuard op t ox oy (.int k x) (.int k' y)).run P W = .ok () W := fun W => by cases op <;> simp [eqGuard]
    have lift : Yl P I w β (binOp op t (.int k x) (.int k' y)) d → Yl P I w β (do eqGuard op t ox oy (.int k x) (.int k' y); binOp op t (.int k x) (.int k' y)) d := by
      rintro ⟨v, h1, h2⟩
      exact ⟨v, fun W => by rw [Sem.run_bind, hg]; exact h1 W, h2⟩
    refine lift ?_
    split at he
    · simp only [Eff.lit.injEq] at he
      obtain ⟨rfl, rfl⟩ := he
      exact Yl.mk (fun W => by simp [binOp, Op.shift, Int.not_lt.2 hp]) (Rel.valI _)
    · simp only [Eff.lit.injEq] at he
      obtain ⟨rfl, rfl⟩ := he
      exact Yl.mk (fun W => by simp [binOp, Op.shift, Int.not_lt.2 hp]) (Rel.valI _)
    · rename_i h1 h2
      split at he
      · subst_vars
        exact yl_int ⟨h1, h2⟩ he hp t
      · cases he
  · simp only [Rel] at hx hy
    subst hx; subst hy
    rename_i x y
    obtain ⟨v, h1, h2⟩ := yl_str (P := P) (I := I) (w := w) (β := β) he hp t
    exact ⟨v, fun W => by rw [Sem.run_bind, show (eqGuard op t ox oy (.string x) (.string y)).run P W = .ok () W by cases op <;> simp [eqGuard]]; exact h1 W, h2⟩
  · simp only [Rel] at hx hy
    subst hx; subst hy
    rename_i x y
    split at he
    · rename_i hu
      simp only [Eff.lit.injEq] at he
      obtain ⟨rfl, rfl⟩ := he
      exact Yl.mk (fun W => by simp only [eqGuard, binOp, Sem.run_bind, run_eqB hu]; rfl) (Rel.valI _)
    · rename_i hu
      simp only [Eff.lit.injEq] at he
      obtain ⟨rfl, rfl⟩ := he
      exact Yl.mk (fun W => by simp only [eqGuard, binOp, Sem.run_bind, run_eqB hu]; rfl) (Rel.valI _)
    · cases he
  · simp only [Rel] at hx hy
    obtain ⟨a, cap, rfl, h1, h2, h3, _⟩ := hx
    subst hy
    exact yl_nil he hp (fun h => by have := h3 h; omega)
  · simp only [Rel] at hx hy
    subst hy
    rcases hx with ⟨rfl, _, rfl⟩ | ⟨rfl, _, _, a, c, rfl, _, _⟩ | ⟨b, c, cap, _, rfl, _⟩
    · exact yl_nil he hp (fun _ => Nat.le_refl _)
    · exact yl_nil he hp (fun _ => Nat.le_refl _)
    · exact yl_nil he hp (fun h => by cases h)
  · exact yl_eqS hx hy he ox oy
  · cases he
theorem yl_field {t : TypeId} {f : Nat} {x : D} {u : Value} {p : Prop} {d : D} (hx : Rel I w β x u) (he : aField P t x f = .lit p d) (hp : p) : Yl P I w β (Instr.field t u f) d := by
  unfold aField at he
  split at he
  · rename_i cs o ft hf
    obtain ⟨fs, fl, h1, h2, rfl, rfl⟩ := field_under hf
    simp only [Rel] at hx
    obtain ⟨vs, rfl, hv⟩ := hx
    split at he
    · rename_i sz hs
      have hpt := yl_part (P := P) fl.offset hs hv
      have lift : Yl P I w β (part fl.type vs.toArray fl.offset) d → Yl P I w β (Instr.field t (.agg vs.toArray) f) d := by
        rintro ⟨v, k1, k2⟩
        refine Yl.mk (v := v) (fun W => ?_) k2
        simp [Instr.field, Sem.run_bind, run_underlying h1, h2, asAgg, k1]
      refine lift ?_
      split at he <;> rename_i hag <;> simp only [Eff.lit.injEq] at he <;> obtain ⟨rfl, rfl⟩ := he
      · exact hpt.1 hag hp
      · exact hpt.2 (by simpa using hag) hp
    · cases he
  · cases he
theorem yl_fieldAddr {t : TypeId} {f : Nat} {x : D} {u : Value} {p : Prop} {d : D} (hx : Rel I w β x u) (he : aFieldAddr P t x f = .lit p d) : Yl P I w β (Instr.fieldAt t u f) d := by
  unfold aFieldAddr at he
  split at he
  · rename_i o ft hf
    obtain ⟨fs, fl, h1, h2, rfl, rfl⟩ := field_under hf
    have key : ∀ b o s (W : World), tySz P fl.type = some (s + 1) → (Instr.fieldAt t (.pointer (some ⟨b, o, none⟩)) f).run P W = .ok (.pointer (some ⟨b, o + fl.offset, none⟩)) W := by
      intro b o s W hs
      simp [Instr.fieldAt, Sem.run_bind, run_underlying h1, h2, Instr.sureAddr, fieldPlace, run_sz hs, Addr.add_mid]
    split at he
    · rename_i hs
      simp only [Rel] at hx
      obtain ⟨b, c, hb, rfl⟩ := hx
      simp only [Eff.lit.injEq] at he
      obtain ⟨rfl, rfl⟩ := he
      exact Yl.mk (key _ _ _ · hs) (by simp only [Rel]; exact ⟨b, c, hb, rfl⟩)
    · rename_i hs
      simp only [Rel] at hx
      obtain ⟨b, o, rfl, hb⟩ := hx
      simp only [Eff.lit.injEq] at he
      obtain ⟨rfl, rfl⟩ := he
      exact Yl.mk (key _ _ _ · hs) (by simp only [Rel]; exact ⟨b, _, rfl, hb.drop _⟩)
    · cases he
  · cases he
theorem yl_index {t : TypeId} {x i : D} {u v : Value} {p : Prop} {d : D} (hx : Rel I w β x u) (hi : Rel I w β i v) (he : aIndex P t x i = .lit p d) (hp : p) : Yl P I w β (Instr.index t u v) d := by
  unfold aIndex at he
  split at he
  · rename_i k i
    simp only [Rel] at hi; subst hi
    split at he
    · rename_i n e cs hu
      simp only [Rel] at hx
      obtain ⟨vs, rfl, hv⟩ := hx
      split at he
      · rename_i sz hs
        have hpt := yl_part (P := P) (i.toNat * sz) hs hv
        have lift : (0 ≤ i ∧ i < n) → Yl P I w β (part e vs.toArray (i.toNat * sz)) d → Yl P I w β (Instr.index t (.agg vs.toArray) (.int k i)) d := by
          rintro hb ⟨v, k1, k2⟩
          refine Yl.mk (v := v) (fun W => ?_) k2
          simp [Instr.index, asIntOf, Sem.run_bind, run_underlying hu, hb, run_sz hs, k1]
        split at he <;> rename_i hag <;> simp only [Eff.lit.injEq] at he <;> obtain ⟨rfl, rfl⟩ := he
        · exact lift ⟨hp.1, hp.2.1⟩ (hpt.1 hag hp.2.2)
        · exact lift ⟨hp.1, hp.2.1⟩ (hpt.2 (by simpa using hag) hp.2.2)
      · cases he
    · rename_i s hu
      simp only [Rel] at hx; subst hx
      simp only [Eff.lit.injEq] at he
      obtain ⟨rfl, rfl⟩ := he
      have hlt : i.toNat < s.data.size := by
        have : s.size = s.data.size := rfl
        omega
      refine Yl.mk (fun W => ?_) (Rel.valI _)
      have h1 : s[i.toNat]? = some (s.data.getD i.toNat 0) := by
        have h2 : i.toNat < s.size := hlt
        rw [getElem?_pos s i.toNat h2]
        simp only [Array.getD]
        rw [dif_pos hlt]
        rfl
      simp [Instr.index, asIntOf, Sem.run_bind, run_underlying hu, hp.1, h1]
    · cases he
  · cases he
theorem yl_indexAddr {t : TypeId} {x i : D} {u v : Value} {p : Prop} {d : D} (hx : Rel I w β x u) (hi : Rel I w β i v) (he : aIndexAddr P t x i = .lit p d) (hp : p) : Yl P I w β (Instr.indexAt t u v) d := by
  unfold aIndexAddr at he
  split at he
  · rename_i k i
    simp only [Rel] at hi; subst hi
    split at he
    · rename_i e hu
      have key : ∀ b o n cap sz (W : World), 0 ≤ i → i < (n : Nat) → tySz P e = some sz → (Instr.indexAt t (.slice (some ⟨b, o, none⟩) n cap) (.int k i)).run P W = .ok (.pointer (some ⟨b, o + i.toNat * sz, none⟩)) W := by
        intro b o n cap sz W h1 h2 hs
        simp [Instr.indexAt, asIntOf, Sem.run_bind, run_underlying hu, h1, h2, run_sz hs, Addr.add_mid]
      split at he
      · rename_i k' off n m wh sz hs
        simp only [Eff.lit.injEq] at he
        obtain ⟨rfl, rfl⟩ := he
        simp only [Rel] at hx
        rcases hx with ⟨rfl, _⟩ | ⟨rfl, _⟩ | ⟨b, c, cap, hb, rfl, _⟩
        · omega
        · omega
        · exact Yl.mk (key _ _ _ _ _ · hp.1 hp.2 hs) (by simp only [Rel]; exact ⟨b, c, hb, rfl⟩)
      · rename_i cs n sz hs
        simp only [Eff.lit.injEq] at he
        obtain ⟨rfl, rfl⟩ := he
        simp only [Rel] at hx
        obtain ⟨ad, cap, rfl, h1, h2, h3, h4 | ⟨b, o, rfl, h4⟩⟩ := hx
        · exact absurd h4 hp.2.2
        · exact Yl.mk (key _ _ _ _ _ · hp.1 hp.2.1 hs) (by simp only [Rel]; exact ⟨b, _, rfl, h4.drop _⟩)
      · cases he
    · rename_i n e hu
      have key : ∀ b o sz (W : World), 0 ≤ i → i < (n : Nat) → tySz P e = some sz → (Instr.indexAt t (.pointer (some ⟨b, o, none⟩)) (.int k i)).run P W = .ok (.pointer (some ⟨b, o + i.toNat * sz, none⟩)) W := by
        intro b o sz W h1 h2 hs
        simp [Instr.indexAt, asIntOf, Sem.run_bind, run_underlying hu, h1, h2, run_sz hs, Addr.add_mid, Instr.sureAddr]
      split at he
      · rename_i k' off sz hs
        simp only [Eff.lit.injEq] at he
        obtain ⟨rfl, rfl⟩ := he
        simp only [Rel] at hx
        obtain ⟨b, c, hb, rfl⟩ := hx
        exact Yl.mk (key _ _ _ · hp.1 hp.2 hs) (by simp only [Rel]; exact ⟨b, c, hb, rfl⟩)
      · rename_i cs sz hs
        simp only [Eff.lit.injEq] at he
        obtain ⟨rfl, rfl⟩ := he
        simp only [Rel] at hx
        obtain ⟨b, o, rfl, hb⟩ := hx
        exact Yl.mk (key _ _ _ · hp.1 hp.2 hs) (by simp only [Rel]; exact ⟨b, _, rfl, hb.drop _⟩)
      · cases he
    · cases he
  · cases he
end
end Go.Proofs.YtgbhoceamcomfaaGreat
namespace Go.Proofs.YtgbhoceamcomfaaGreat
open Go.RowKit
set_option linter.unusedVariables false
set_option linter.unusedSimpArgs false
section
variable {P : Program} {T : Par} {I : Im} {w : World} {β : Be} {sl : List D} {st : List Bk} {a : Act}
theorem run_bound {v : Value} {k : IntKind} {i : Int} (hv : v = .int k i) {y : Nat} (h0 : 0 ≤ i) (h1 : i.toNat ≤ y) (code : BoundsCode) (W : World) : (Instr.sliceBound v y code).run P W = .ok i.toNat W := by
  subst hv
  have : i ≤ (y : Int) := by omega
  simp [Instr.sliceBound, asIntOf, Sem.run_bind, h0, this]
theorem bound_rel {x : Option D} {u : Option Value} {y : Nat} {p : Prop} {n : Nat} (hn : x.isSome = u.isSome) (hx : ∀ d v, x = some d → u = some v → Rel I w β d v) (h : aBound x y = some (p, n)) (hp : p) :
    (x = none ∧ u = none ∧ n = y) ∨ ∃ k i, u = some (.int k i) ∧ 0 ≤ i ∧ n = i.toNat := by
  unfold aBound at h
  split at h
  · cases u with
    | none => cases h; exact .inl ⟨rfl, rfl, rfl⟩
    | some v => simp at hn
  · rename_i k i
    cases u with
    | none => simp at hn
    | some v =>
      have := hx _ _ rfl rfl
      simp only [Rel] at this
      cases h
      subst this
      exact .inr ⟨k, i, rfl, hp, rfl⟩
  · cases h
theorem run_bounds {b : Bool} {len cap l h c : Nat} {lo hi mx : Option Value} (hlo : (lo = none ∧ l = 0) ∨ ∃ k i, lo = some (.int k i) ∧ 0 ≤ i ∧ l = i.toNat)
    (hhi : (hi = none ∧ h = len ∧ mx = none) ∨ ∃ k i, hi = some (.int k i) ∧ 0 ≤ i ∧ h = i.toNat)
    (hmx : (mx = none ∧ c = cap) ∨ ∃ k i, mx = some (.int k i) ∧ 0 ≤ i ∧ h = i.toNat ∧ c = h) (h1 : l ≤ h) (h2 : h ≤ cap) (W : World) :
    (Instr.sliceBounds b len cap lo hi mx).run P W = .ok (l, h, c) W := by
  rcases hmx with ⟨rfl, rfl⟩ | ⟨km, im, rfl, hm1, hm2, rfl⟩
  · rcases hhi with ⟨rfl, rfl, _⟩ | ⟨kh, ih, rfl, hh1, rfl⟩
    · rcases hlo with ⟨rfl, rfl⟩ | ⟨kl, il, rfl, hl1, rfl⟩
      · simp [Instr.sliceBounds]
      · simp [Instr.sliceBounds, Sem.run_bind, run_bound rfl hl1 h1]
    · rcases hlo with ⟨rfl, rfl⟩ | ⟨kl, il, rfl, hl1, rfl⟩
      · simp [Instr.sliceBounds, Sem.run_bind, run_bound rfl hh1 h2]
      · simp [Instr.sliceBounds, Sem.run_bind, run_bound rfl hh1 h2, run_bound rfl hl1 h1]
  · rcases hhi with ⟨_, _, h3⟩ | ⟨kh, ih, rfl, hh1, rfl⟩
    · cases h3
    · have e1 := fun W => run_bound (P := P) (v := .int km im) rfl hm1 (y := cap) (by omega) (if b then .slice3Acap else .slice3Alen) W
      have e2 := fun W => run_bound (P := P) (v := .int kh ih) rfl hh1 (y := im.toNat) (by omega) .slice3B W
      rcases hlo with ⟨rfl, rfl⟩ | ⟨kl, il, rfl, hl1, rfl⟩
      · simp [Instr.sliceBounds, Sem.run_bind, e1, e2, hm2]
      · have e3 := fun W => run_bound (P := P) (v := .int kl il) rfl hl1 (y := im.toNat) (by omega) .slice3C W
        simp [Instr.sliceBounds, Sem.run_bind, e1, e2, e3, hm2]
theorem yl_slice {t : TypeId} {x : D} {u : Value} {lo hi mx : Option D} {lv hv mv : Option Value} {p : Prop} {d : D} (hx : Rel I w β x u)
    (n1 : lo.isSome = lv.isSome) (n2 : hi.isSome = hv.isSome) (n3 : mx.isSome = mv.isSome)
    (r1 : ∀ d v, lo = some d → lv = some v → Rel I w β d v) (r2 : ∀ d v, hi = some d → hv = some v → Rel I w β d v) (r3 : ∀ d v, mx = some d → mv = some v → Rel I w β d v)
    (hnm : mx.isSome = true → hi.isSome = true) (he : aSlice P t x lo hi mx = .lit p d) (hp : p) : Yl P I w β (Instr.sliceAt t u lv hv mv) d := by
  unfold aSlice at he
  split at he
  · cases he
  · rename_i pl l hlo
    have L := fun hpl => bound_rel n1 r1 hlo hpl
    have L' : pl → (lv = none ∧ l = 0) ∨ ∃ k i, lv = some (.int k i) ∧ 0 ≤ i ∧ l = i.toNat := fun hpl => (L hpl).imp (fun h => ⟨h.2.1, h.2.2⟩) id
    split at he
    · rename_i s hu
      simp only [Rel] at hx; subst hx
      split at he
      · rename_i ph h hhi
        simp only [Eff.lit.injEq] at he
        obtain ⟨rfl, rfl⟩ := he
        obtain ⟨hp1, hp2, hp3, hp4⟩ := hp
        have hm : mv = none := by cases mv <;> simp_all
        subst hm
        have H := bound_rel n2 r2 hhi hp2
        have H' : (hv = none ∧ h = s.size ∧ (none : Option Value) = none) ∨ ∃ k i, hv = some (.int k i) ∧ 0 ≤ i ∧ h = i.toNat := H.imp (fun h => ⟨h.2.1, h.2.2, rfl⟩) id
        refine Yl.mk (fun W => ?_) (Rel.valI _)
        have hb := run_bounds (P := P) (b := false) (cap := s.size) (L' hp1) H' (.inl ⟨rfl, rfl⟩) hp3 hp4 W
        simp [Instr.sliceAt, Instr.slice, Sem.run_bind, run_underlying hu, hb]
      · cases he
    · rename_i e k off n m wh hu
      split at he
      · rename_i ph h sz hhi hs
        split at he
        · rename_i pm c hmx
          simp only [Eff.lit.injEq] at he
          obtain ⟨rfl, rfl⟩ := he
          obtain ⟨hp1, hp2, hp3, hp4, hp5, hp6, rfl⟩ := hp
          have H := bound_rel n2 r2 hhi hp2
          have M := bound_rel n3 r3 hmx hp3
          have key : ∀ (ad : Option Addr) (cap : Nat) (W : World), n ≤ cap → ∃ c', (Instr.sliceAt t (.slice ad n cap) lv hv mv).run P W = .ok (.slice (if c' = l then ad else ad.map (·.add (l * sz))) (c - l) (c' - l)) W ∧ c ≤ c' ∧ c' ≤ cap ∧ (mx = none → c' = cap) := by
            intro ad cap W hcap
            have H' : (hv = none ∧ c = n ∧ mv = none) ∨ ∃ k i, hv = some (.int k i) ∧ 0 ≤ i ∧ c = i.toNat := by
              rcases H with ⟨h1, h2, h3⟩ | h
              · left
                refine ⟨h2, h3, ?_⟩
                cases hm : mx with
                | none => rw [hm] at n3; cases mv <;> simp_all
                | some z => have := hnm (by rw [hm]; rfl); rw [h1] at this; simp at this
              · exact .inr h
            rcases M with ⟨m1, m2, m3⟩ | ⟨km, im, m1, m2, m3⟩
            · have hb := run_bounds (P := P) (b := true) (cap := cap) (c := cap) (L' hp1) H' (.inl ⟨m2, rfl⟩) hp5 (by omega) W
              exact ⟨cap, by simp [Instr.sliceAt, Instr.slice, Sem.run_bind, run_underlying hu, hb, run_sz hs], by omega, by omega, fun _ => rfl⟩
            · have hb := run_bounds (P := P) (b := true) (cap := cap) (c := c) (L' hp1) H' (.inr ⟨km, im, m1, m2, m3, rfl⟩) hp5 (by omega) W
              refine ⟨c, by simp [Instr.sliceAt, Instr.slice, Sem.run_bind, run_underlying hu, hb, run_sz hs], by omega, by omega, fun hm => ?_⟩
              rw [hm, m1] at n3; simp at n3
          have key2 : ∀ (ad : Option Addr) (cap : Nat), n ≤ cap → ∃ c', (∀ W, (Instr.sliceAt t (.slice ad n cap) lv hv mv).run P W = .ok (.slice (if c' = l then ad else ad.map (·.add (l * sz))) (c - l) (c' - l)) W) ∧ c ≤ c' ∧ c' ≤ cap ∧ (mx = none → c' = cap) := by
            intro ad cap hcap
            obtain ⟨c1, _, h2, h3, h4⟩ := key ad cap w hcap
            rcases M with ⟨m1, m2, m3⟩ | ⟨km, im, m1, m2, m3⟩
            · refine ⟨cap, fun W => ?_, by omega, by omega, fun _ => rfl⟩
              obtain ⟨c2, k1, _, _, k4⟩ := key ad cap W hcap
              rw [k1, k4 m1]
            · refine ⟨c, fun W => ?_, by omega, by omega, fun hm => ?_⟩
              · have H' : (hv = none ∧ c = n ∧ mv = none) ∨ ∃ k i, hv = some (.int k i) ∧ 0 ≤ i ∧ c = i.toNat := by
                  rcases H with ⟨h1, h2, h3⟩ | h
                  · have := hnm (by rw [n3, m1]; rfl); rw [h1] at this; simp at this
                  · exact .inr h
                have hb := run_bounds (P := P) (b := true) (cap := cap) (c := c) (L' hp1) H' (.inr ⟨km, im, m1, m2, m3, rfl⟩) hp5 (by omega) W
                simp [Instr.sliceAt, Instr.slice, Sem.run_bind, run_underlying hu, hb, run_sz hs]
              · rw [hm, m1] at n3; simp at n3
          simp only [Rel] at hx
          rcases hx with ⟨rfl, _, rfl⟩ | ⟨rfl, _, rfl, ad, cc, rfl, hc1, hc2⟩ | ⟨b, c0, cap, hb, rfl, h1, h2, h3⟩
          · obtain ⟨c', k1, k2, k3, k4⟩ := key2 none 0 (by omega)
            have e1 : c = 0 := by omega
            have e2 : l = 0 := by omega
            have e3 : c' = 0 := by omega
            subst e1; subst e2; subst e3
            exact Yl.mk k1 (by simp only [Rel]; exact .inl (by simp))
          · obtain ⟨c', k1, k2, k3, k4⟩ := key2 ad cc (by omega)
            have e1 : c = 0 := by omega
            have e2 : l = 0 := by omega
            subst e1; subst e2
            refine Yl.mk k1 ?_
            simp only [Rel]
            refine .inr (.inl ⟨by simp, by simp, by simp, _, _, rfl, by omega, fun h => ?_⟩)
            rcases Nat.eq_zero_or_pos c' with h0 | h0
            · omega
            · rw [if_neg (by omega)] at h
              cases ad with
              | none => have := hc2 rfl; omega
              | some _ => simp at h
          · obtain ⟨c', k1, k2, k3, k4⟩ := key2 (some ⟨b, off, none⟩) cap h1
            refine Yl.mk k1 ?_
            simp only [Rel]
            by_cases hcl : c' = l
            · have e1 : c = l := by omega
              rw [if_pos hcl]
              by_cases hwh : (wh && mx.isNone && lo.isNone) = true
              · simp only [Bool.and_eq_true, Option.isNone_iff_eq_none] at hwh
                obtain ⟨⟨w1, w2⟩, w3⟩ := hwh
                obtain ⟨rfl, rfl⟩ := h3 w1
                have e2 : l = 0 := by
                  rcases L hp1 with ⟨_, _, h⟩ | ⟨k, i, h, _⟩
                  · exact h
                  · rw [w3, h] at n1; simp at n1
                refine .inr (.inr ⟨b, cap, c' - l, hb, by simp [e2], by omega, by omega, fun _ => ⟨by simp [e2], ?_⟩⟩)
                have := k4 w2
                omega
              · refine .inr (.inl ⟨by omega, by rw [show c - l = 0 by omega]; simp, by cases hz : (wh && mx.isNone && lo.isNone) <;> simp_all, some ⟨b, off, none⟩, c' - l, ?_, by omega, fun h => by cases h⟩)
                rw [show c - l = 0 by omega]
            · rw [if_neg hcl]
              refine .inr (.inr ⟨b, c0, c' - l, hb, by simp [Addr.add_mid], by omega, by omega, fun hwh => ?_⟩)
              simp only [Bool.and_eq_true, Option.isNone_iff_eq_none] at hwh
              obtain ⟨⟨w1, w2⟩, w3⟩ := hwh
              obtain ⟨rfl, rfl⟩ := h3 w1
              have e2 : l = 0 := by
                rcases L hp1 with ⟨_, _, h⟩ | ⟨k, i, h, _⟩
                · exact h
                · rw [w3, h] at n1; simp at n1
              have := k4 w2
              exact ⟨by simp [e2], by omega⟩
        · cases he
      · cases he
    · rename_i e x hu hnos
      split at he
      · rename_i cs n sz hrow hs
        split at he
        · rename_i ph h hhi
          split at he
          · rename_i pm c hmx
            simp only [Eff.lit.injEq] at he
            obtain ⟨rfl, rfl⟩ := he
            obtain ⟨hp1, hp2, hp3, hp4, hp5, hp6, rfl⟩ := hp
            have H := bound_rel n2 r2 hhi hp2
            have M := bound_rel n3 r3 hmx hp3
            have hx' : ∃ ad cap, u = .slice ad n cap ∧ n ≤ cap ∧ cap ≤ maxLen ∧ (ad = none → cap = 0) ∧ (cs = [] ∨ ∃ b o, ad = some ⟨b, o, none⟩ ∧ RelC I w cs b o) := by
              unfold asRow at hrow
              split at hrow
              · cases hrow; simpa only [Rel] using hx
              · cases hrow
                simp only [Rel] at hx
                subst hx
                exact ⟨none, 0, rfl, by omega, by simp [maxLen], fun _ => rfl, .inl rfl⟩
              · cases hrow
            obtain ⟨ad, cap, rfl, h1, h2, h3, h4⟩ := hx'
            have H' : (hv = none ∧ c = n ∧ mv = none) ∨ ∃ k i, hv = some (.int k i) ∧ 0 ≤ i ∧ c = i.toNat := by
              rcases H with ⟨h1, h2, h3⟩ | h
              · left
                refine ⟨h2, h3, ?_⟩
                cases hm : mx with
                | none => rw [hm] at n3; cases mv <;> simp_all
                | some z => have := hnm (by rw [hm]; rfl); rw [h1] at this; simp at this
              · exact .inr h
            have fin : ∀ c', c ≤ c' → c' ≤ cap → Rel I w β (.row ((cs.drop (l * sz)).take ((c - l) * sz)) (c - l)) (.slice (if c' = l then ad else ad.map (·.add (l * sz))) (c - l) (c' - l)) := by
              intro c' k2 k3
              simp only [Rel]
              refine ⟨_, _, rfl, by omega, by omega, fun h => ?_, ?_⟩
              · by_cases hcl : c' = l
                · omega
                · rw [if_neg hcl] at h
                  cases ad with
                  | none => have := h3 rfl; omega
                  | some _ => simp at h
              · by_cases hcl : c' = l
                · left
                  have : c - l = 0 := by omega
                  simp [this]
                · rw [if_neg hcl]
                  rcases h4 with h4 | ⟨b, o, rfl, h4⟩
                  · left; simp [h4]
                  · exact .inr ⟨b, o + l * sz, by simp [Addr.add_mid], (h4.drop _).take _⟩
            rcases M with ⟨m1, m2, m3⟩ | ⟨km, im, m1, m2, m3⟩
            · refine Yl.mk (fun W => ?_) (fin cap (by omega) (Nat.le_refl _))
              have hb := run_bounds (P := P) (b := true) (cap := cap) (c := cap) (L' hp1) H' (.inl ⟨m2, rfl⟩) hp5 (by omega) W
              simp [Instr.sliceAt, Instr.slice, Sem.run_bind, run_underlying hu, hb, run_sz hs]
            · refine Yl.mk (fun W => ?_) (fin c (Nat.le_refl _) (by omega))
              have hb := run_bounds (P := P) (b := true) (cap := cap) (c := c) (L' hp1) H' (.inr ⟨km, im, m1, m2, m3, rfl⟩) hp5 (by omega) W
              simp [Instr.sliceAt, Instr.slice, Sem.run_bind, run_underlying hu, hb, run_sz hs]
          · cases he
        · cases he
      · cases he
    · cases he
end
end Go.Proofs.YtgbhoceamcomfaaGreat
namespace Go.Proofs.YtgbhoceamcomfaaGreat
open Go.RowKit
set_option linter.unusedVariables false
set_option linter.unusedSimpArgs false
section
variable {P : Program} {T : Par} {I : Im} {w : World} {β : Be} {sl : List D} {st : List Bk} {a : Act}
theorem yl_len {t ty : TypeId} {x : D} {u : Value} {ts : Array TypeId} {us : Array Value} {p : Prop} {d : D} (hx : Rel I w β x u) (ht : ts[0]? = some t) (hu : us[0]? = some u) (he : aLen P t x = .lit p d) : Yl P I w β (Builtin.len_ ts ty us) d := by
  unfold aLen at he
  split at he
  · rename_i h1
    simp only [Rel] at hx
    obtain ⟨ad, cap, rfl, _⟩ := hx
    simp only [Eff.lit.injEq] at he
    obtain ⟨rfl, rfl⟩ := he
    exact Yl.mk (fun W => by simp [Builtin.len_, ht, hu, Sem.run_bind, run_underlying h1, goInt]) (Rel.valI _)
  · rename_i h1
    simp only [Eff.lit.injEq] at he
    obtain ⟨rfl, rfl⟩ := he
    simp only [Rel] at hx
    rcases hx with ⟨rfl, _, rfl⟩ | ⟨rfl, _, _, _, _, rfl, _⟩ | ⟨_, _, _, _, rfl, _⟩ <;>
    exact Yl.mk (fun W => by simp [Builtin.len_, ht, hu, Sem.run_bind, run_underlying h1, goInt]) (Rel.valI _)
  · rename_i h1
    simp only [Rel] at hx; subst hx
    simp only [Eff.lit.injEq] at he
    obtain ⟨rfl, rfl⟩ := he
    exact Yl.mk (fun W => by simp [Builtin.len_, ht, hu, Sem.run_bind, run_underlying h1, goInt]) (Rel.valI _)
  · rename_i h1
    simp only [Rel] at hx; subst hx
    simp only [Eff.lit.injEq] at he
    obtain ⟨rfl, rfl⟩ := he
    exact Yl.mk (fun W => by simp [Builtin.len_, ht, hu, Sem.run_bind, run_underlying h1, goInt]) (Rel.valI _)
  · rename_i h1
    simp only [Eff.lit.injEq] at he
    obtain ⟨rfl, rfl⟩ := he
    exact Yl.mk (fun W => by simp [Builtin.len_, ht, hu, Sem.run_bind, run_underlying h1, goInt]) (Rel.valI _)
  · cases he
theorem zeroD_rel {t : TypeId} {z : List D} (h : zeroD P t = some z) : ∃ i v, P.info? t = some i ∧ i.zero = some v ∧ RelL I w β z v.cells.toList ∧ z = v.cells.toList.map .val ∧ ∀ u ∈ v.cells.toList, u.oneCell' = true := by
  unfold zeroD at h
  split at h
  · cases h
  · rename_i i hi
    split at h
    · cases h
    · rename_i v hz
      split at h
      · rename_i hall
        cases h
        have h1 : ∀ u ∈ v.cells.toList, u.oneCell' = true := fun u hu => List.all_eq_true.1 hall u hu
        refine ⟨i, v, hi, hz, ?_, rfl, h1⟩
        generalize v.cells.toList = l at h1
        induction l with
        | nil => simp only [List.map_nil, RelL]
        | cons u l ih => simp only [List.map_cons, RelL]; exact ⟨u, l, rfl, h1 u (List.mem_cons_self ..), Rel.valI u, ih (fun x hx => h1 x (List.mem_cons_of_mem _ hx))⟩
      · cases h
theorem run_zero {t : TypeId} {i : TypeInfo} {v : Value} (h1 : P.info? t = some i) (h2 : i.zero = some v) (W : World) : (zeroValue t).run P W = .ok v W := by
  simp [zeroValue, typeInfo, h1, h2]
theorem parts_rel (h : RelT I w β sl a.tmps.toList) (ps : List (Nat × Operand)) : ∀ (j : Nat) i d i' v, (ps.map fun p => (p.1, evD sl p.2))[j]? = some (i, d) → (ps.map fun p => (p.1, a.eval p.2))[j]? = some (i', v) → i' = i ∧ Rel I w β d v := by
  intro j i d i' v h1 h2
  rw [List.getElem?_map] at h1 h2
  cases hp : ps[j]? with
  | none => simp [hp] at h1
  | some p =>
    simp [hp] at h1 h2
    obtain ⟨rfl, rfl⟩ := h1
    obtain ⟨rfl, rfl⟩ := h2
    exact ⟨rfl, ev_rel h p.2⟩
theorem mapM_sizes {fs : List Field} (h : fs.all (fun f => (tySz P f.type).isSome) = true) (W : World) : ∃ l : List (Nat × Nat), (fs.mapM (m := Sem) fun f => do pure (f.offset, ← sizeOf f.type)).run P W = .ok l W ∧ l.length = fs.length ∧
    ∀ (i : Nat) f s, fs[i]? = some f → tySz P f.type = some s → l[i]? = some (f.offset, s) := by
  induction fs with
  | nil => exact ⟨[], by simp, rfl, by simp⟩
  | cons f fs ih =>
    simp only [List.all_cons, Bool.and_eq_true, Option.isSome_iff_exists] at h
    obtain ⟨⟨s, hs⟩, h2⟩ := h
    obtain ⟨l, k1, k2, k3⟩ := ih (by simpa using h2)
    refine ⟨(f.offset, s) :: l, ?_, by simp [k2], fun i g s' hg hs' => ?_⟩
    · have : (do pure (f.offset, ← sizeOf f.type) : Sem (Nat × Nat)).run P W = .ok (f.offset, s) W := by simp [Sem.run_bind, run_sz hs]
      rw [List.mapM_cons, Sem.run_bind, this]
      simp only [Result.andThen_ok, Sem.run_bind, k1, Sem.run_pure]
    · cases i with
      | zero => simp at hg; subst hg; rw [hs] at hs'; cases hs'; rfl
      | succ i => simpa using k3 i g s' (by simpa using hg) hs'
theorem run_mapM_toArray {α γ : Type} (fs : Array α) (g : α → Sem γ) (l : List γ) (W : World) (h : (fs.toList.mapM g).run P W = .ok l W) : (fs.mapM g).run P W = .ok l.toArray W := by
  rw [Array.mapM_eq_mapM_toList]
  show ((fs.toList.mapM g) >>= fun x => pure x.toArray).run P W = _
  rw [Sem.run_bind, h]; rfl
theorem yl_build (h : RelT I w β sl a.tmps.toList) {t : TypeId} {parts : Array (Nat × Operand)} {p : Prop} {d : D} (he : aBuild P t (parts.toList.map fun p => (p.1, evD sl p.2)) = .lit p d) (hp : p) :
    Yl P I w β (Instr.build t (parts.map fun (i, x) => (i, a.eval x))) d := by
  have hlist : (parts.map fun (i, x) => (i, a.eval x)).toList = parts.toList.map fun p => (p.1, a.eval p.2) := by simp
  unfold aBuild at he
  split at he
  · rename_i z fs hz hu
    obtain ⟨i, v, h1, h2, h3, h4, h5⟩ := zeroD_rel (I := I) (w := w) (β := β) hz
    split at he
    · rename_i q cs hf
      simp only [Eff.lit.injEq] at he
      obtain ⟨rfl, rfl⟩ := he
      have hfin : ∀ W : World, ∃ ys, RelL I w β cs ys ∧ (Instr.build t (parts.map fun (i, x) => (i, a.eval x))).run P W = .ok (.agg ys.toArray) W ∧ ∀ W' : World, (Instr.build t (parts.map fun (i, x) => (i, a.eval x))).run P W' = .ok (.agg ys.toArray) W' := by
        intro W
        have key : ∀ W : World, ∃ l : List (Nat × Nat), (fs.mapM (m := Sem) fun f => do pure (f.offset, ← sizeOf f.type)).run P W = .ok l.toArray W ∧ ∀ (i : Nat) f s, fs[i]? = some f → tySz P f.type = some s → l[i]? = some (f.offset, s) := by
          intro W
          obtain ⟨l, k1, _, k3⟩ := mapM_sizes (P := P) (fs := fs.toList) (by simpa using hp.2) W
          refine ⟨l, ?_, fun i f s hf hs => k3 i f s (by simpa using hf) hs⟩
          exact run_mapM_toArray fs _ l W k1
        obtain ⟨l, l1, l2⟩ := key W
        obtain ⟨ys, k1, k2⟩ := fill_sound (I := I) (w := w) (β := β) (place' := fun i => l.toArray[i]?) (fun i x hx => by
          cases hfi : fs[i]? with
          | none => simp [hfi] at hx
          | some f =>
            simp only [hfi, Option.bind_some] at hx
            cases hs : tySz P f.type with
            | none => simp [hs] at hx
            | some s => simp [hs] at hx; subst hx; simpa using l2 i f s hfi hs) _ (parts.toList.map fun p => (p.1, a.eval p.2)) z v.cells.toList q cs (by simp) (parts_rel h parts.toList) h3 hf hp.1
        have all : ∀ W', (fs.mapM (m := Sem) fun f => do pure (f.offset, ← sizeOf f.type)).run P W' = .ok l.toArray W' := by
          intro W'
          obtain ⟨l', l1', l2'⟩ := key W'
          have : l' = l := by
            obtain ⟨m, m1, m2, m3⟩ := mapM_sizes (P := P) (fs := fs.toList) (by simpa using hp.2) W
            obtain ⟨m', m1', m2', m3'⟩ := mapM_sizes (P := P) (fs := fs.toList) (by simpa using hp.2) W'
            have e1 : l = m := by
              have : (fs.mapM (m := Sem) fun f => do pure (f.offset, ← sizeOf f.type)).run P W = .ok m.toArray W := by
                exact run_mapM_toArray fs _ m W m1
              rw [l1] at this
              simpa using this
            have e2 : l' = m' := by
              have : (fs.mapM (m := Sem) fun f => do pure (f.offset, ← sizeOf f.type)).run P W' = .ok m'.toArray W' := by
                exact run_mapM_toArray fs _ m' W' m1'
              rw [l1'] at this
              simpa using this
            rw [e1, e2]
            apply List.ext_getElem (by rw [m2, m2'])
            intro i hi hi'
            have hil : i < fs.toList.length := by omega
            have hsm : (tySz P fs.toList[i].type).isSome = true := by
              have := hp.2
              rw [← Array.all_toList] at this
              exact List.all_eq_true.1 this _ (List.getElem_mem hil)
            obtain ⟨s, hs⟩ := Option.isSome_iff_exists.1 hsm
            have a1 := m3 i _ s (List.getElem?_eq_getElem hil) hs
            have a2 := m3' i _ s (List.getElem?_eq_getElem hil) hs
            rw [List.getElem?_eq_getElem hi'] at a1
            rw [List.getElem?_eq_getElem hi] at a2
            rw [Option.some.inj a1, Option.some.inj a2]
          rw [l1', this]
        have run : ∀ W' : World, (Instr.build t (parts.map fun (i, x) => (i, a.eval x))).run P W' = .ok (.agg ys.toArray) W' := by
          intro W'
          simp only [Instr.build, Sem.run_bind, run_zero h1 h2, Result.andThen_ok, run_underlying hu, all W', hlist]
          have : v.cells = v.cells.toList.toArray := by simp
          rw [this, k1]
          rfl
        exact ⟨ys, k2, run W, run⟩
      obtain ⟨ys, k1, _, k3⟩ := hfin w
      exact Yl.mk k3 (by simp only [Rel]; exact ⟨ys, rfl, k1⟩)
    · cases he
  · rename_i z n e hz hu
    obtain ⟨i, v, h1, h2, h3, h4, h5⟩ := zeroD_rel (I := I) (w := w) (β := β) hz
    split at he
    · rename_i sz hs
      split at he
      · rename_i q cs hf
        simp only [Eff.lit.injEq] at he
        obtain ⟨rfl, rfl⟩ := he
        obtain ⟨ys, k1, k2⟩ := fill_sound (I := I) (w := w) (β := β) (place' := fun i => some (i * sz, sz)) (fun i x hx => hx) _ (parts.toList.map fun p => (p.1, a.eval p.2)) z v.cells.toList q cs (by simp) (parts_rel h parts.toList) h3 hf hp
        refine Yl.mk (v := .agg ys.toArray) (fun W' => ?_) (by simp only [Rel]; exact ⟨ys, rfl, k2⟩)
        simp only [Instr.build, Sem.run_bind, run_zero h1 h2, Result.andThen_ok, run_underlying hu, run_sz hs, hlist]
        have : v.cells = v.cells.toList.toArray := by simp
        rw [this, k1]
        rfl
      · cases he
    · cases he
  · cases he
theorem lit_sound (h : RelT I w β sl a.tmps.toList) (o : Oper) (hl : isLight o.op = true) {p : Prop} {d : D} (he : aeff P T o.op o.type (evD sl) st = .lit p d) (hp : p) :
    ∃ v, (∀ W : World, (execOp a.eval o).run P W = .ok (.value v) W) ∧ Rel I w β d v := by
  have up : ∀ s : Sem Value, Yl P I w β s d → ∃ v, (∀ W : World, (do pure (.value (← s)) : Sem Next).run P W = .ok (.value v) W) ∧ Rel I w β d v := by
    rintro s ⟨v, h1, h2⟩
    exact ⟨v, fun W => by rw [Sem.run_bind, h1 W]; rfl, h2⟩
  unfold execOp
  generalize ho : o.op = op at hl he
  cases op with
  | move x => simp only [aeff, Eff.lit.injEq] at he; obtain ⟨rfl, rfl⟩ := he; exact ⟨a.eval x, fun W => rfl, ev_rel h x⟩
  | assign x => simp only [aeff, Eff.lit.injEq] at he; obtain ⟨rfl, rfl⟩ := he; exact ⟨a.eval x, fun W => rfl, ev_rel h x⟩
  | pick c x y =>
    simp only [aeff] at he
    split at he
    · rename_i t ht
      have hc := ev_rel h c
      rw [ht] at hc
      simp only [Rel] at hc
      simp only [Eff.lit.injEq] at he
      obtain ⟨rfl, rfl⟩ := he
      refine ⟨if t then a.eval x else a.eval y, fun W => by simp [hc, asBool], ?_⟩
      cases t
      · exact ev_rel h y
      · exact ev_rel h x
    · cases he
  | build t parts => exact up _ (yl_build h he hp)
  | nilCheck x =>
    simp only [aeff] at he
    have hx := ev_rel h x
    split at he
    · rename_i cs hc
      rw [hc] at hx
      have hx' := hx
      simp only [Rel] at hx
      obtain ⟨b, o, hv, _⟩ := hx
      simp only [Eff.lit.injEq] at he
      obtain ⟨rfl, rfl⟩ := he
      exact ⟨_, fun W => by simp only [hv]; rfl, hv ▸ hx'⟩
    · rename_i hc
      rw [hc] at hx
      have hx' := hx
      simp only [Rel] at hx
      obtain ⟨b, o, _, hv⟩ := hx
      simp only [Eff.lit.injEq] at he
      obtain ⟨rfl, rfl⟩ := he
      exact ⟨_, fun W => by simp only [hv]; rfl, hv ▸ hx'⟩
    · rename_i hc
      rw [hc] at hx
      have hx' := hx
      simp only [Rel] at hx
      obtain ⟨u, hv, _⟩ := hx
      simp only [Eff.lit.injEq] at he
      obtain ⟨rfl, rfl⟩ := he
      exact ⟨_, fun W => by simp only [hv]; rfl, hv ▸ hx'⟩
    · rename_i hc
      rw [hc] at hx
      have hx' := hx
      simp only [Rel] at hx
      obtain ⟨u, u', hv, _⟩ := hx
      simp only [Eff.lit.injEq] at he
      obtain ⟨rfl, rfl⟩ := he
      exact ⟨_, fun W => by simp only [hv]; rfl, hv ▸ hx'⟩
    · rename_i nm ty dd xs ys hc
      rw [hc] at hx
      have hx' := hx
      simp only [Rel, RelT] at hx
      obtain ⟨vs, us, hv, ⟨v0, vs', rfl, ⟨u0, rfl, _⟩, _⟩, _⟩ := hx
      split at he
      · rename_i hm
        obtain ⟨ff, hm⟩ := Option.isSome_iff_exists.1 hm
        simp only [Eff.lit.injEq] at he
        obtain ⟨rfl, rfl⟩ := he
        obtain ⟨n, hn⟩ : ∃ n, P.types.size + Made.depth = n + 1 := ⟨P.types.size + Made.depth - 1, by have : Made.depth = 100 := rfl; omega⟩
        refine ⟨_, fun W => ?_, hv ▸ hx'⟩
        simp only [hv]
        have h0 : ((Value.iface ty u0 :: vs').toArray)[0]? = some (.iface ty u0) := by simp
        simp only [h0, Sem.run_bind]
        rw [show (program : Sem Program).run P W = .ok P W from rfl]
        simp only [Result.andThen_ok, hn, nilAhead_run hm n u0 W]
        simp
      · cases he
    · cases he
  | binOp op t x y t' => exact up _ (yl_bin (ev_rel h x) (ev_rel h y) he hp x y)
  | unOp op t x => exact up _ (yl_un (ev_rel h x) he)
  | convert s t x => exact up _ (yl_conv (ev_rel h x) he)
  | makeInterface t x =>
    simp only [aeff] at he
    split at he
    · cases he
    · rename_i ds hu hds
      simp only [Eff.lit.injEq] at he
      obtain ⟨rfl, rfl⟩ := he
      refine up _ (Yl.mk (v := .iface t (a.eval x)) (fun W => ?_) (by simp only [Rel]; exact ⟨_, rfl, ev_rel h x⟩))
      simp only [Instr.makeInterface, Sem.run_bind, run_underlying hds, Result.andThen_ok]
      rfl
    · cases he
  | makeFunc fn x y =>
    simp only [aeff, Eff.lit.injEq] at he
    obtain ⟨rfl, rfl⟩ := he
    refine up _ (Yl.mk (v := .func fn (x.map a.eval) (y.map a.eval)) (fun W => rfl) ?_)
    simp only [Rel]
    refine ⟨x.toList.map a.eval, y.toList.map a.eval, ?_, ev_relT h _, ev_relT h _⟩
    rw [← Array.toList_map, ← Array.toList_map]
  | slice t x lo hi mx =>
    simp only [aeff] at he
    split at he
    · cases he
    rename_i hmx
    refine up _ (yl_slice (ev_rel h x) (by simp) (by simp) (by simp) ?_ ?_ ?_ (by cases hi <;> cases mx <;> simp_all) he hp)
    all_goals
      intro d v h1 h2
      simp only [Option.map_eq_some_iff] at h1 h2
      obtain ⟨y, hy, rfl⟩ := h1
      obtain ⟨y', hy', rfl⟩ := h2
      rw [hy] at hy'; cases hy'
      exact ev_rel h y
  | fieldAddr t x f => exact up _ (yl_fieldAddr (ev_rel h x) he)
  | field t x f => exact up _ (yl_field (ev_rel h x) he hp)
  | indexAddr t x i => exact up _ (yl_indexAddr (ev_rel h x) (ev_rel h i) he hp)
  | index t x i => exact up _ (yl_index (ev_rel h x) (ev_rel h i) he hp)
  | extract x i =>
    simp only [aeff] at he
    split at he
    · rename_i cs hc
      have hx := ev_rel h x
      rw [hc] at hx
      simp only [Rel] at hx
      obtain ⟨vs, hv, hr⟩ := hx
      simp only [Eff.lit.injEq] at he
      obtain ⟨rfl, rfl⟩ := he
      obtain ⟨v, h1, h2⟩ := hr.get i cs[i] (by simp [hp])
      refine up _ (Yl.mk (v := v) (fun W => by simp [Instr.extract, hv, h1]) ?_)
      rw [List.getD_eq_getElem?_getD, List.getElem?_eq_getElem hp]
      exact h2
    · cases he
  | call c =>
    obtain ⟨callee, args, ts⟩ := c
    cases callee with
    | value f => simp [isLight] at hl
    | invoke r n => simp [isLight] at hl
    | builtin b =>
      cases b <;> simp only [isLight, Bool.false_eq_true] at hl
      · simp only [aeff] at he
        split at he
        · rename_i t _ x _ h1 h2
          obtain ⟨v, k1, k2⟩ := yl_len (P := P) (ty := o.type) (ts := ts) (us := args.map a.eval) (ev_rel h x) (by rw [← Array.getElem?_toList, h1]; rfl) (by rw [← Array.getElem?_toList, Array.toList_map, h2]; rfl) he
          exact ⟨v, fun W => by simp only [resolve, Sem.run_bind, Sem.run_pure, Result.andThen_ok, invoke, builtin, k1], k2⟩
        · cases he
      · simp only [aeff] at he
        split at he
        · rename_i k x k' y hm
          have hr := ev_relT h args.toList
          rw [hm] at hr
          simp only [RelT, Rel] at hr
          obtain ⟨_, _, e1, rfl, _, _, rfl, rfl, rfl⟩ := hr
          simp only [Eff.lit.injEq] at he
          obtain ⟨rfl, rfl⟩ := he
          refine ⟨_, fun W => ?_, Rel.valI _⟩
          simp [resolve, Sem.run_bind, invoke, builtin, Builtin.max_, e1, Builtin.max2]
        · cases he
      · simp only [aeff] at he
        split at he
        · rename_i k x k' y hm
          have hr := ev_relT h args.toList
          rw [hm] at hr
          simp only [RelT, Rel] at hr
          obtain ⟨_, _, e1, rfl, _, _, rfl, rfl, rfl⟩ := hr
          simp only [Eff.lit.injEq] at he
          obtain ⟨rfl, rfl⟩ := he
          refine ⟨_, fun W => ?_, Rel.valI _⟩
          simp [resolve, Sem.run_bind, invoke, builtin, Builtin.min_, e1, Builtin.min2]
        · cases he
  | _ => simp [isLight] at hl
end
end Go.Proofs.YtgbhoceamcomfaaGreat
namespace Go.Proofs.YtgbhoceamcomfaaGreat
open Go.RowKit
set_option linter.unusedVariables false
set_option linter.unusedSimpArgs false
section
variable {P : Program} {T : Par} {I I' : Im} {w w' : World} {β β' : Be} {sl : List D} {st : List Bk} {a : Act}
theorem Fix.ext (h : Ext w w') (hi : ∀ b o, I b o → I' b o) : Fix I w I' w' := fun b o h1 => ⟨hi b o h1, fun v hv => h.cell hv⟩
theorem OwnRel.cells_get {b c : Nat} {e : Bk} (h : OwnRel I w β b c e) {j : Nat} {d : D} (hd : e.cells[j]? = some d) : ∃ v, w.cell? ⟨b, j, none⟩ = some v ∧ v.oneCell' = true ∧ Rel I w (if e.arr then noB else β) d v := by
  obtain ⟨cur, h1, h2, h3, _⟩ := h
  obtain ⟨v, k1, k2, k3⟩ := h3.get j d hd
  rw [List.getElem?_take] at k1
  split at k1
  · exact ⟨v, by rw [cell_of_row w b j cur.toArray e.ty (0, 0) h1]; simpa using k1, k2, k3⟩
  · cases k1
theorem OwnRel.mono {b c : Nat} {e : Bk} (h : OwnRel I w β b c e) (hh : w'.heap[b]? = w.heap[b]?) (hf : Fix I w I' w') (hb : BeLe β β') : OwnRel I' w' β' b c e := by
  obtain ⟨cur, h1, h2, h3, h4⟩ := h
  refine ⟨cur, hh.trans h1, h2, ?_, h4⟩
  cases ha : e.arr <;> simp only [ha, if_true, if_false, Bool.false_eq_true] at h3 ⊢
  · exact RelL.mono hf β β' hb _ _ h3
  · exact RelL.mono hf noB noB (BeLe.refl _) _ _ h3
theorem OwnRel.lt {b c : Nat} {e : Bk} (h : OwnRel I w β b c e) : b < w.heap.size := by
  obtain ⟨cur, h1, _⟩ := h
  exact lt_of_block h1
def SRw (β : Be) (I : Im) (w : World) (st : List Bk) : Prop := ∀ k b c (e : Bk), β k = some (b, c) → st[k]? = some e → OwnRel I w β b c e
theorem SR.weak (h : SR β I w st) : SRw β I w st := fun k b c e hk he => by
  obtain ⟨e', h1, h2⟩ := h k b c hk
  rw [he] at h1; cases h1; exact h2
def fixI (I : Im) (β : Be) (st : List Bk) (ks : List Nat) : Im := fun b o => I b o ∨ ∃ k ∈ ks, ∃ c e, β k = some (b, c) ∧ st[k]? = some e ∧ o < e.cells.length
theorem fixI_le (ks : List Nat) : Fix I w (fixI I β st ks) w := fun b o h => ⟨.inl h, fun v hv => hv⟩
theorem fixI_sub {ks ls : List Nat} (h : ∀ k ∈ ks, k ∈ ls) : Fix (fixI I β st ks) w (fixI I β st ls) w := fun b o hi => ⟨hi.imp id (fun ⟨k, hk, x⟩ => ⟨k, h k hk, x⟩), fun v hv => hv⟩
theorem mapF_sound {f : D → Option (D × List Nat)} {R : List Nat → D → Value → Prop} (hm : ∀ ks ls d v, (∀ k ∈ ks, k ∈ ls) → R ks d v → R ls d v) :
    ∀ (ds xs : List D) (ks : List Nat), mapF f ds = some (xs, ks) → xs.length = ds.length ∧ ∀ (i : Nat) d x, ds[i]? = some d → xs[i]? = some x → ∃ js, f d = some (x, js) ∧ ∀ k ∈ js, k ∈ ks
  | [], xs, ks, h => by simp only [mapF, Option.some.injEq, Prod.mk.injEq] at h; obtain ⟨rfl, rfl⟩ := h; exact ⟨rfl, by simp⟩
  | d :: ds, xs, ks, h => by
    simp only [mapF] at h
    split at h
    · cases h
    · rename_i x js hx
      split at h
      · cases h
      · rename_i ys ls hy
        simp only [Option.some.injEq, Prod.mk.injEq] at h
        obtain ⟨rfl, rfl⟩ := h
        obtain ⟨h1, h2⟩ := mapF_sound hm ds ys ls hy
        refine ⟨by simp [h1], fun i d' x' hd hx' => ?_⟩
        cases i with
        | zero => simp at hd hx'; subst hd; subst hx'; exact ⟨js, hx, fun k hk => by simp [hk]⟩
        | succ i =>
          obtain ⟨js', k1, k2⟩ := h2 i d' x' (by simpa using hd) (by simpa using hx')
          exact ⟨js', k1, fun k hk => by simp [k2 k hk]⟩
theorem frz_sound {kn : Bool} (hs : SRw β I w st) : ∀ (n : Nat) (d x : D) (ks : List Nat) (v : Value), frz kn st n d = some (x, ks) → Rel I w β d v → Rel (fixI I β st ks) w noB x v
  | 0, d, x, ks, v, h, hr => by
    simp only [frz, Option.some.injEq, Prod.mk.injEq] at h
    obtain ⟨rfl, rfl⟩ := h
    simp only [Rel]
  | n + 1, d, x, ks, v, h, hr => by
    have ih := frz_sound (kn := kn) hs n
    have many : ∀ (ds xs : List D) (ks : List Nat), mapF (frz kn st n) ds = some (xs, ks) → xs.length = ds.length ∧ ∀ (i : Nat) d x v, ds[i]? = some d → xs[i]? = some x → Rel I w β d v → Rel (fixI I β st ks) w noB x v := by
      intro ds xs ks hm
      obtain ⟨h1, h2⟩ := mapF_sound (R := fun _ _ _ => True) (fun _ _ _ _ _ h => h) ds xs ks hm
      refine ⟨h1, fun i d x v hd hx hr => ?_⟩
      obtain ⟨js, k1, k2⟩ := h2 i d x hd hx
      exact Rel.mono (fixI_sub k2) noB noB (BeLe.refl _) _ _ (ih d x js v k1 hr)
    have manyL : ∀ (ds xs : List D) (ks : List Nat) (vs : List Value), mapF (frz kn st n) ds = some (xs, ks) → RelL I w β ds vs → RelL (fixI I β st ks) w noB xs vs := by
      intro ds xs ks vs hm hv
      obtain ⟨h1, h2⟩ := many ds xs ks hm
      refine RelL.of_get (by rw [h1, hv.length]) fun i x v hx hv' => ?_
      have hi : i < ds.length := by rw [← h1]; exact (List.getElem?_eq_some_iff.1 hx).1
      obtain ⟨v', k1, k2, k3⟩ := hv.get i ds[i] (List.getElem?_eq_getElem hi)
      rw [hv'] at k1; cases k1
      exact ⟨k2, h2 i _ x v (List.getElem?_eq_getElem hi) hx k3⟩
    have manyT : ∀ (ds xs : List D) (ks : List Nat) (vs : List Value), mapF (frz kn st n) ds = some (xs, ks) → RelT I w β ds vs → RelT (fixI I β st ks) w noB xs vs := by
      intro ds xs ks vs hm hv
      obtain ⟨h1, h2⟩ := many ds xs ks hm
      refine RelT.of_get (by rw [h1, hv.length]) fun i x v hx hv' => ?_
      have hi : i < ds.length := by rw [← h1]; exact (List.getElem?_eq_some_iff.1 hx).1
      obtain ⟨v', k1, k3⟩ := hv.get i ds[i] (List.getElem?_eq_getElem hi)
      rw [hv'] at k1; cases k1
      exact h2 i _ x v (List.getElem?_eq_getElem hi) hx k3
    unfold frz at h
    split at h
    · rename_i u
      simp only [Rel] at hr
      split at h
      · split at h
        · cases h; simp only [Rel]; exact hr
        · cases h
          subst hr
          simp only [Rel]
          exact ⟨none, 0, rfl, by omega, by simp [maxLen], fun _ => rfl, .inl trivial⟩
      · cases h; simp only [Rel]; exact hr
    · cases h; simp only [Rel]
    · cases h; simp only [Rel] at hr ⊢; obtain ⟨ad, cap, h1, h2, h3, h4, h5⟩ := hr; exact ⟨ad, cap, h1, h2, h3, h4, h5.imp id (fun ⟨b, o, h, k⟩ => ⟨b, o, h, RelC.mono (fixI_le _) _ _ _ k⟩)⟩
    · cases h; simp only [Rel] at hr ⊢; obtain ⟨b, o, h1, h2⟩ := hr; exact ⟨b, o, h1, RelC.mono (fixI_le _) _ _ _ h2⟩
    · rename_i cs
      cases hm : mapF (frz kn st n) cs with
      | none => simp [hm] at h
      | some y =>
        simp only [hm, Option.map_some, Option.some.injEq, Prod.mk.injEq] at h
        obtain ⟨rfl, rfl⟩ := h
        simp only [Rel] at hr ⊢
        obtain ⟨vs, rfl, hv⟩ := hr
        exact ⟨vs, rfl, manyL cs y.1 y.2 vs hm hv⟩
    · rename_i cs
      cases hm : mapF (frz kn st n) cs with
      | none => simp [hm] at h
      | some y =>
        simp only [hm, Option.map_some, Option.some.injEq, Prod.mk.injEq] at h
        obtain ⟨rfl, rfl⟩ := h
        simp only [Rel] at hr ⊢
        obtain ⟨vs, rfl, hv⟩ := hr
        exact ⟨vs, rfl, manyT cs y.1 y.2 vs hm hv⟩
    · rename_i f p q
      split at h
      · cases h
      · rename_i y js hy
        cases hm : mapF (frz kn st n) q with
        | none => simp [hm] at h
        | some z =>
          simp only [hm, Option.map_some, Option.some.injEq, Prod.mk.injEq] at h
          obtain ⟨rfl, rfl⟩ := h
          simp only [Rel] at hr ⊢
          obtain ⟨vs, us, rfl, hv, hu⟩ := hr
          refine ⟨vs, us, rfl, RelT.mono (fixI_sub ?_) noB noB (BeLe.refl _) _ _ (manyT p y js vs hy hv), RelT.mono (fixI_sub ?_) noB noB (BeLe.refl _) _ _ (manyT q z.1 z.2 us hm hu)⟩
          · intro k hk; simp [hk]
          · intro k hk; simp [hk]
    · rename_i t d
      cases hm : frz kn st n d with
      | none => simp [hm] at h
      | some y =>
        simp only [hm, Option.map_some, Option.some.injEq, Prod.mk.injEq] at h
        obtain ⟨rfl, rfl⟩ := h
        simp only [Rel] at hr ⊢
        obtain ⟨u, rfl, hu⟩ := hr
        exact ⟨u, rfl, ih d y.1 y.2 u hm hu⟩
    · rename_i k off
      split at h
      · cases h
      · rename_i e he
        simp only [Rel] at hr
        obtain ⟨b, c, hb, rfl⟩ := hr
        have ho := hs k b c e hb he
        split at h
        · rename_i harr
          cases h
          simp only [Rel]
          have : RelC (fixI I β st [k]) w e.cells b 0 := RelC.of_get fun i d hd => by
            obtain ⟨v, k1, k2, k3⟩ := ho.cells_get hd
            rw [harr] at k3
            rw [Nat.zero_add]
            exact ⟨.inr ⟨k, by simp, c, e, hb, he, (List.getElem?_eq_some_iff.1 hd).1⟩, v, k1, k2, Rel.mono (fixI_le _) noB noB (BeLe.refl _) _ _ k3⟩
          exact ⟨b, off, rfl, by simpa using this.drop off⟩
        · rename_i harr
          have harr : e.arr = false := by simpa using harr
          cases hm : mapF (frz kn st n) e.cells with
          | none => simp [hm] at h
          | some y =>
            simp only [hm, Option.map_some, Option.some.injEq, Prod.mk.injEq] at h
            obtain ⟨rfl, rfl⟩ := h
            obtain ⟨h1, h2⟩ := many e.cells y.1 y.2 hm
            simp only [Rel]
            have : RelC (fixI I β st (k :: y.2)) w y.1 b 0 := RelC.of_get fun i d hd => by
              have hi : i < e.cells.length := by rw [← h1]; exact (List.getElem?_eq_some_iff.1 hd).1
              obtain ⟨v, k1, k2, k3⟩ := ho.cells_get (List.getElem?_eq_getElem hi)
              rw [harr] at k3
              rw [Nat.zero_add]
              exact ⟨.inr ⟨k, by simp, c, e, hb, he, hi⟩, v, k1, k2, Rel.mono (fixI_sub (fun k hk => by simp [hk])) noB noB (BeLe.refl _) _ _ (h2 i _ d v (List.getElem?_eq_getElem hi) hd k3)⟩
            exact ⟨b, off, rfl, by simpa using this.drop off⟩
    · rename_i k off l m wh
      split at h
      · cases h
      · rename_i e he
        split at h
        · rename_i harr
          cases h
          simp only [Rel] at hr ⊢
          rcases hr with ⟨rfl, rfl, rfl⟩ | ⟨rfl, rfl, _, ad, c, rfl, hc1, hc2⟩ | ⟨b, c, cap, hb, rfl, h1, h2, h3⟩
          · exact ⟨none, 0, rfl, Nat.le_refl _, by simp [maxLen], fun _ => rfl, .inl (by simp)⟩
          · exact ⟨ad, c, rfl, Nat.zero_le _, hc1, hc2, .inl (by simp)⟩
          · have ho := hs k b c e hb he
            refine ⟨some ⟨b, off, none⟩, cap, rfl, h1, h2, ?_, Or.inr ⟨b, off, rfl, ?_⟩⟩
            · intro h; cases h
            have : RelC (fixI I β st [k]) w e.cells b 0 := RelC.of_get fun i d hd => by
              obtain ⟨v, k1, k2, k3⟩ := ho.cells_get hd
              rw [harr] at k3
              rw [Nat.zero_add]
              exact ⟨.inr ⟨k, by simp, c, e, hb, he, (List.getElem?_eq_some_iff.1 hd).1⟩, v, k1, k2, Rel.mono (fixI_le _) noB noB (BeLe.refl _) _ _ k3⟩
            simpa using (this.drop off).take m
        · cases h
end
end Go.Proofs.YtgbhoceamcomfaaGreat
namespace Go.Proofs.YtgbhoceamcomfaaGreat
open Go.RowKit
set_option linter.unusedVariables false
set_option linter.unusedSimpArgs false
variable {S : Nat → Prop}
theorem append_types {P : Program} {w : World} {t t2 e e2 ty : TypeId} {b : Option Addr} {n c : Nat} {x : Value} {i : TypeInfo} (ht : P.underlying t = some (.slice e)) (ht2 : P.underlying t2 = some (.slice e2)) (hi : P.info? e = some i) :
    (Builtin.append_ #[t, t2] ty #[.slice b n c, x]).run P w = (Builtin.append_ #[t, t] ty #[.slice b n c, x]).run P w := by
  simp only [Builtin.append_, sizeOf, typeInfo, hi, Sem.run_bind, run_underlying ht, run_underlying ht2, Result.andThen, List.getElem?_toArray, List.getElem?_cons_zero, List.getElem?_cons_succ]
end Go.Proofs.YtgbhoceamcomfaaGreat
namespace Go.Proofs.YtgbhoceamcomfaaGreat
open Go.RowKit
set_option linter.unusedVariables false
set_option linter.unusedSimpArgs false
section
variable {P : Program} {T : Par} {I I' : Im} {w w' : World} {β β' : Be} {sl : List D} {st : List Bk} {a : Act}
theorem frzT_sound {kn : Bool} (hs : SRw β I w st) (n : Nat) (ds xs : List D) (ks : List Nat) (vs : List Value) (hm : mapF (frz kn st n) ds = some (xs, ks)) (hv : RelT I w β ds vs) : RelT (fixI I β st ks) w noB xs vs := by
  obtain ⟨h1, h2⟩ := mapF_sound (R := fun _ _ _ => True) (fun _ _ _ _ _ h => h) ds xs ks hm
  refine RelT.of_get (by rw [h1, hv.length]) fun i x v hx hv' => ?_
  have hi : i < ds.length := by rw [← h1]; exact (List.getElem?_eq_some_iff.1 hx).1
  obtain ⟨v', k1, k3⟩ := hv.get i ds[i] (List.getElem?_eq_getElem hi)
  rw [hv'] at k1; cases k1
  obtain ⟨js, j1, j2⟩ := h2 i _ x (List.getElem?_eq_getElem hi) hx
  exact Rel.mono (fixI_sub j2) noB noB (BeLe.refl _) _ _ (frz_sound hs n _ x js v j1 k3)
structure OutN (β : Be) (I : Im) (w : World) (st news : List Bk) (fz : List Nat) (β' : Be) (I' : Im) (w' : World) : Prop where
  ext : Ext w w'
  fix : Fix I w I' w'
  be : ∀ k, (k < st.length ∨ st.length + news.length ≤ k) → β' k = β k
  nb : ∀ k b c, st.length ≤ k → k < st.length + news.length → β' k = some (b, c) → w.heap.size ≤ b ∧ ∃ e, news[k - st.length]? = some e ∧ OwnRel I' w' β' b c e ∧ ∀ j, I' b j → e.fz = true ∧ j < e.cells.length
  inj : ∀ k k' b c c', st.length ≤ k → k < st.length + news.length → st.length ≤ k' → k' < st.length + news.length → β' k = some (b, c) → β' k' = some (b, c') → k = k'
  im : ∀ b o, I' b o → fixI I β st fz b o ∨ w.heap.size ≤ b
  imb : ImB I w → ImB I' w'
theorem OutN.stay (β : Be) (I : Im) (w : World) (st : List Bk) : OutN β I w st [] [] β I w :=
  ⟨Ext.refl w, Fix.refl I w, fun _ _ => rfl, fun k b c h1 h2 => by simp at h2; omega, fun k k' b c c' h1 h2 => by simp at h2; omega, fun b o h => .inl (.inl h), fun h => h⟩
theorem ldP_sound {t : TypeId} {ds : List D} {b o : Nat} {p : Prop} {d : D} (hc : ∀ (j : Nat) x, ds[j]? = some x → ∃ v, w.cell? ⟨b, o + j, none⟩ = some v ∧ v.oneCell' = true ∧ Rel I w β x v) (he : ldP P t ds .get = .get p d) (hp : p) :
    ∃ v, (Instr.loadAt t (.pointer (some ⟨b, o, none⟩))).run P w = .ok v w ∧ Rel I w β d v := by
  unfold ldP at he
  split at he
  · cases he
  · rename_i s hs
    obtain ⟨i, ds', hi1, hi2, hi3⟩ := tySz_info hs
    split at he
    · rename_i hag
      simp only [Eff.get.injEq] at he
      obtain ⟨rfl, rfl⟩ := he
      have hex : ∀ n, n ≤ ds.length → ∃ vs : List Value, vs.length = n ∧ w.rangeAt b o vs ∧ RelL I w β (ds.take n) vs := by
        intro n
        induction n with
        | zero => intro _; exact ⟨[], rfl, fun j v hv => by simp at hv, by simp only [List.take_zero, RelL]⟩
        | succ n ih =>
          intro hn
          obtain ⟨vs, k1, k2, k3⟩ := ih (by omega)
          obtain ⟨v, v1, v2, v3⟩ := hc n ds[n] (by simp [hn])
          refine ⟨vs ++ [v], by simp [k1], fun j u hu => ?_, ?_⟩
          · rw [List.getElem?_append] at hu
            split at hu
            · exact k2 j u hu
            · rename_i hj
              have : j = n := by
                have := (List.getElem?_eq_some_iff.1 hu).1
                simp at this; omega
              subst this
              simp [k1] at hu
              subst hu; exact v1
          · refine RelL.of_get (by simp [k1]; omega) fun j x u hx hu => ?_
            rw [List.getElem?_take] at hx
            split at hx
            · rw [List.getElem?_append] at hu
              split at hu
              · rename_i hj hj2
                obtain ⟨u', m1, m2, m3⟩ := k3.get j x (by rw [List.getElem?_take, if_pos (by omega)]; exact hx)
                rw [hu] at m1; cases m1
                exact ⟨m2, m3⟩
              · rename_i hj hj2
                have : j = n := by omega
                subst this
                simp [k1] at hu
                subst hu
                rw [List.getElem?_eq_getElem (by omega)] at hx
                cases hx
                exact ⟨v2, v3⟩
            · cases hx
      obtain ⟨vs, k1, k2, k3⟩ := hex s hp
      refine ⟨.agg vs.toArray, ?_, by simp only [Rel]; exact ⟨vs, rfl, k3⟩⟩
      refine run_loadAt_mid w b o t vs ds' k2 hi3 ?_ (by simp [hi1, hi2, k1])
      unfold tyAgg at hag
      rw [hi3] at hag
      revert hag
      cases ds' <;> simp [TypeDesc.isRow]
    · rename_i hag
      simp only [Eff.get.injEq] at he
      obtain ⟨rfl, rfl⟩ := he
      cases ds with
      | nil => simp at hp
      | cons x ds =>
        obtain ⟨v, v1, v2, v3⟩ := hc 0 x rfl
        refine ⟨v, ?_, v3⟩
        simp only [Nat.add_zero] at v1
        simp [Instr.loadAt, Instr.sureAddr, loadVar, Sem.run_bind, run_agg hs, hag, v1]
theorem ldP_get {t : TypeId} {ds : List D} {e : Eff} (h : ldP P t ds .get = e) : e = .bad ∨ ∃ p d, e = .get p d := by
  unfold ldP at h
  split at h
  · exact .inl h.symm
  · split at h
    · exact .inr ⟨_, _, h.symm⟩
    · exact .inr ⟨_, _, h.symm⟩
theorem call_not {f : FuncId} {args : List D} {im : FuncId → Bool} {e : Eff} (h : aCallFn P im f args st = e) : e = .bad ∨ (∃ xs ks, e = .call f xs ks ∧ im f = false ∧ mapF (frz true st frzDepth) args = some (xs, ks) ∧ ∃ fn c, P.funcs[f]? = some fn ∧ (fn.name == "runtime.NumGoroutine") = false ∧ fn.body = some c) ∨
    (e = .act f args ∧ im f = true ∧ ∃ fn c, P.funcs[f]? = some fn ∧ (fn.name == "runtime.NumGoroutine") = false ∧ fn.body = some c) := by
  unfold aCallFn at h
  split at h
  · exact .inl h.symm
  · rename_i fn hf
    split at h
    · exact .inl h.symm
    · rename_i hb
      simp only [Bool.or_eq_true, not_or, Bool.not_eq_true] at hb
      obtain ⟨hb1, hb2⟩ := hb
      obtain ⟨c, hc⟩ : ∃ c, fn.body = some c := by cases hx : fn.body <;> simp_all
      split at h
      · rename_i him
        exact .inr (.inr ⟨h.symm, him, fn, c, hf, hb1, hc⟩)
      · rename_i him
        split at h
        · exact .inl h.symm
        · rename_i xs ks hm
          exact .inr (.inl ⟨xs, ks, h.symm, by simpa using him, hm, fn, c, hf, hb1, hc⟩)
theorem app_kind {t u : TypeId} {s x : D} {e : Eff} (h : aAppend P t u s x st = e) : e = .bad ∨ (∃ p b d fz, e = .new p b d fz) ∨ ∃ p k b d, e = .app p k b d := by
  unfold aAppend at h
  split at h
  · split at h
    · split at h
      · exact .inr (.inl ⟨_, _, _, _, h.symm⟩)
      · split at h
        · exact .inr (.inr ⟨_, _, _, _, h.symm⟩)
        · exact .inl h.symm
      · exact .inl h.symm
    · exact .inl h.symm
  · exact .inl h.symm
theorem clear_kind {t : TypeId} {x : D} {e : Eff} (h : aClear P t x st = e) : e = .bad ∨ ∃ p k b fz, e = .put p k b fz := by
  unfold aClear at h
  split at h
  · split at h
    · exact .inr ⟨_, _, _, _, h.symm⟩
    · exact .inl h.symm
  · exact .inl h.symm
theorem get_sound (h : RelT I w β sl a.tmps.toList) (hs : SRw β I w st) (o : Oper) (hl : isLight o.op = false) {p : Prop} {d : D} (he : aeff P T o.op o.type (evD sl) st = .get p d) (hp : p) :
    ∃ v, (execOp a.eval o).run P w = .ok (.value v) w ∧ Rel I w β d v := by
  unfold execOp
  generalize ho : o.op = op at hl he
  cases op <;> simp only [isLight, Bool.true_eq_false] at hl <;> simp only [aeff, reduceCtorEq] at he
  case alloc => split at he <;> cases he
  case box => split at he <;> cases he
  case buildSlice =>
    unfold aBuildSlice at he
    split at he
    · split at he
      · split at he <;> cases he
      · cases he
    · cases he
  case makeSlice =>
    unfold aMakeSlice at he
    split at he
    · split at he <;> cases he
    · cases he
  case store =>
    split at he
    · split at he
      · cases he
      · split at he
        · split at he <;> cases he
        · cases he
    · cases he
  case call c =>
    exfalso
    split at he
    · split at he
      · obtain ⟨callee, args, ts⟩ := c; simp_all [isLight]
      · cases he
    · obtain ⟨callee, args, ts⟩ := c; simp_all [isLight]
    · obtain ⟨callee, args, ts⟩ := c; simp_all [isLight]
    · split at he
      · rcases app_kind he with h | ⟨_, _, _, _, h⟩ | ⟨_, _, _, _, h⟩ <;> cases h
      · cases he
    · split at he
      · rcases clear_kind he with h | ⟨_, _, _, _, h⟩ <;> cases h
      · cases he
    · cases he
    · split at he
      · rcases call_not he with h | ⟨_, _, h, _⟩ | ⟨h, _⟩ <;> cases h
      · cases he
    · split at he
      · split at he
        · rcases call_not he with h | ⟨_, _, h, _⟩ | ⟨h, _⟩ <;> cases h
        · cases he
      · cases he
  case load t x =>
    have hx := ev_rel h x
    split at he
    · rename_i cs hc
      rw [hc] at hx
      simp only [Rel] at hx
      obtain ⟨b, o', hv, hr⟩ := hx
      obtain ⟨v, h1, h2⟩ := ldP_sound (I := I) (w := w) (β := β) (b := b) (o := o') (fun j x hx => by
        obtain ⟨_, v, k1, k2, k3⟩ := hr.get j x hx
        exact ⟨v, k1, k2, k3.no⟩) he hp
      exact ⟨v, by simp only [hv, Sem.run_bind, h1]; rfl, h2⟩
    · rename_i k off hc
      rw [hc] at hx
      simp only [Rel] at hx
      obtain ⟨b, c, hb, hv⟩ := hx
      split at he
      · rename_i e hk
        have ho' := hs k b c e hb hk
        obtain ⟨v, h1, h2⟩ := ldP_sound (I := I) (w := w) (β := β) (b := b) (o := off) (fun j x hx => by
          rw [List.getElem?_drop] at hx
          obtain ⟨v, k1, k2, k3⟩ := ho'.cells_get hx
          refine ⟨v, k1, k2, ?_⟩
          cases ha : e.arr <;> simp only [ha, if_true, if_false, Bool.false_eq_true] at k3
          · exact k3
          · exact k3.no) he hp
        exact ⟨v, by simp only [hv, Sem.run_bind, h1]; rfl, h2⟩
      · cases he
    · cases he
end
end Go.Proofs.YtgbhoceamcomfaaGreat
namespace Go.Proofs.YtgbhoceamcomfaaGreat
open Go.RowKit
set_option linter.unusedVariables false
set_option linter.unusedSimpArgs false
section
variable {P : Program} {T : Par} {I I' : Im} {w w' : World} {β β' : Be} {sl : List D} {st : List Bk} {a : Act}
def addB (β : Be) (k : Nat) (x : Option (Nat × Nat)) : Be := fun j => if j = k then x else β j
theorem addB_same (k : Nat) (x : Option (Nat × Nat)) : addB β k x k = x := by simp [addB]
theorem addB_ne {k j : Nat} (x : Option (Nat × Nat)) (h : j ≠ k) : addB β k x j = β j := by simp [addB, h]
theorem addB_le {k : Nat} (x : Option (Nat × Nat)) (h : β k = none) : BeLe β (addB β k x) := fun j y hy => by
  rw [addB_ne x (fun e => by rw [e, h] at hy; cases hy)]; exact hy
theorem fixI_lt (hs : SRw β I w st) (hi : ImB I w) (ks : List Nat) : ImB (fixI I β st ks) w := by
  rintro b o (h | ⟨k, _, c, e, h1, h2, _⟩)
  · exact hi b o h
  · exact (hs k b c e h1 h2).lt
theorem OutN.one (hs : SRw β I w st) (hi : ImB I w) (hn : β st.length = none) (fz : List Nat) {e : Bk} {g cap : Nat} {cur : List Value} (hx : Ext w w') (hg : w.heap.size ≤ g) (hb : w'.heap[g]? = some (.cells cur.toArray e.ty (0, 0)))
    (h1 : e.cells.length ≤ cur.length) (h2 : RelL (fixI I β st fz) w' (if e.arr then noB else addB β st.length (some (g, cap))) e.cells (cur.take e.cells.length)) (h3 : e.arr = true → cur.length = cap * e.sz) (h4 : cap ≤ maxLen) :
    OutN β I w st [e] fz (addB β st.length (some (g, cap))) (fixI I β st fz) w' := by
  refine ⟨hx, (fixI_le fz).trans (Fix.ext hx fun _ _ h => h), fun k hk => addB_ne _ (by simp at hk; omega), fun k b c k1 k2 hk => ?_, fun k k' b c c' k1 k2 k3 k4 _ _ => by simp at k2 k4; omega, fun b o h => .inl h, fun _ b o h => ?_⟩
  · have : k = st.length := by simp at k2; omega
    subst this
    rw [addB_same] at hk
    cases hk
    refine ⟨hg, e, by simp, ⟨cur, hb, h1, h2, h3, h4⟩, fun j hj => ?_⟩
    have := fixI_lt hs hi fz _ j hj
    omega
  · exact Nat.lt_of_lt_of_le (fixI_lt hs hi fz b o h) hx.size
theorem OutN.none' (hx : Ext w w') (hn : β st.length = none) (e : Bk) : OutN β I w st [e] [] β I w' :=
 by
  refine ⟨hx, Fix.ext hx fun _ _ h => h, fun _ _ => rfl, fun k b c k1 k2 hk => ?_, fun k k' b c c' k1 k2 k3 k4 _ _ => ?_, fun b o h => .inl (.inl h), fun h b o hb => Nat.lt_of_lt_of_le (h b o hb) hx.size⟩
  · have : k = st.length := by simp at k2; omega
    subst this
    rw [hn] at hk
    cases hk
  · simp at k2 k4
    omega
theorem repL_length (n : Nat) (z : List D) : (repL n z).length = n * z.length := by
  induction n with
  | zero => simp [repL]
  | succ n ih =>
    have : repL (n + 1) z = z ++ repL n z := by simp [repL, List.replicate_succ]
    rw [this, List.length_append, ih, Nat.succ_mul, Nat.add_comm]
theorem repL_get (n : Nat) (z : List D) : ∀ j, j < n * z.length → (repL n z)[j]? = z[j % z.length]? := by
  induction n with
  | zero => intro j h; simp at h
  | succ n ih =>
    intro j h
    have e : repL (n + 1) z = z ++ repL n z := by simp [repL, List.replicate_succ]
    rw [e, List.getElem?_append]
    split
    · rename_i hj; rw [Nat.mod_eq_of_lt hj]
    · rename_i hj
      rw [Nat.succ_mul] at h
      rw [ih (j - z.length) (by omega), Nat.mod_eq_sub_mod (a := j) (by omega)]
theorem made_rel {z : List D} {v : Value} (hz : z = v.cells.toList.map .val) (h1 : ∀ u ∈ v.cells.toList, u.oneCell' = true) (hpos : 0 < z.length) {n m : Nat} (hnm : n * z.length ≤ m) : RelL I w β (repL n z) ((madeCells v.cells m).toList.take (n * z.length)) := by
  have hzl : z.length = v.cells.size := by simp [hz]
  refine RelL.of_get (by simp [repL_length, size_madeCells]; omega) fun j d u hd hu => ?_
  have hj : j < n * z.length := by
    have := (List.getElem?_eq_some_iff.1 hd).1
    rwa [repL_length] at this
  rw [repL_get n z j hj, hz, List.getElem?_map] at hd
  rw [List.getElem?_take, if_pos hj] at hu
  have hlt : j % z.length < v.cells.size := by rw [← hzl]; exact Nat.mod_lt _ hpos
  have hg : v.cells.toList[j % (v.cells.toList.map D.val).length]? = some v.cells[j % z.length] := by
    have : (v.cells.toList.map D.val).length = z.length := by rw [hz]
    rw [this]; simp [hlt]
  rw [hg] at hd
  simp only [Option.map_some, Option.some.injEq] at hd
  subst hd
  have hu' : u = v.cells[j % z.length] := by
    have : (madeCells v.cells m).toList[j]? = some v.cells[j % z.length] := by
      simp only [madeCells, Array.toList_map, List.getElem?_map, Array.toList_range]
      rw [List.getElem?_range (by omega)]
      simp only [Option.map_some, Option.some.injEq, ← hzl]
      rw [getElem!_pos v.cells (j % z.length) hlt]
    rw [this] at hu
    cases hu; rfl
  subst hu'
  exact ⟨h1 _ (by simp), by simp only [Rel]⟩
theorem frzParts_sound (hs : SRw β I w st) : ∀ (ps qs : List (Nat × D)) (ks : List Nat), frzParts st ps = some (qs, ks) → qs.length = ps.length ∧ ∀ (j : Nat) i d i' x v, ps[j]? = some (i, d) → qs[j]? = some (i', x) → Rel I w β d v → i' = i ∧ Rel (fixI I β st ks) w noB x v
  | [], qs, ks, h => by simp only [frzParts, Option.some.injEq, Prod.mk.injEq] at h; obtain ⟨rfl, rfl⟩ := h; exact ⟨rfl, by simp⟩
  | (i, d) :: ps, qs, ks, h => by
    simp only [frzParts] at h
    split at h
    · cases h
    · rename_i x js hx
      split at h
      · cases h
      · rename_i ys ls hy
        simp only [Option.some.injEq, Prod.mk.injEq] at h
        obtain ⟨rfl, rfl⟩ := h
        obtain ⟨h1, h2⟩ := frzParts_sound hs ps ys ls hy
        refine ⟨by simp [h1], fun j i0 d0 i' x' v hd hx' hr => ?_⟩
        cases j with
        | zero =>
          simp at hd hx'
          obtain ⟨rfl, rfl⟩ := hd
          obtain ⟨rfl, rfl⟩ := hx'
          exact ⟨rfl, Rel.mono (fixI_sub (fun k hk => by simp [hk])) noB noB (BeLe.refl _) _ _ (frz_sound hs _ _ _ _ _ hx hr)⟩
        | succ j =>
          obtain ⟨k1, k2⟩ := h2 j i0 d0 i' x' v (by simpa using hd) (by simpa using hx') hr
          exact ⟨k1, Rel.mono (fixI_sub (fun k hk => by simp [hk])) noB noB (BeLe.refl _) _ _ k2⟩
theorem src_sound (hs : SRw β I w st) {x : D} {u : Value} {xs : List D} {m : Nat} (hx : Rel I w β x u) (h : srcCells st x = some (xs, m)) :
    ∃ ad c vs, u = .slice ad m c ∧ (ad = none → c = 0) ∧ RelL I w noB xs vs ∧ (vs = [] ∨ ∃ b o, ad = some ⟨b, o, none⟩ ∧ w.rangeAt b o vs) := by
  unfold srcCells at h
  split at h
  · rename_i k off n mm wh
    split at h
    · rename_i e he
      split at h
      · rename_i harr
        simp only [Option.some.injEq, Prod.mk.injEq] at h
        obtain ⟨rfl, rfl⟩ := h
        simp only [Rel] at hx
        rcases hx with ⟨rfl, rfl, rfl⟩ | ⟨rfl, rfl, _, ad, c, rfl, h1, h2⟩ | ⟨b, c, cap, hb, rfl, h1, h2, h3⟩
        · exact ⟨none, 0, [], rfl, fun _ => rfl, by simp only [List.take_zero, RelL], .inl rfl⟩
        · exact ⟨ad, c, [], rfl, h2, by simp only [List.take_zero, RelL], .inl rfl⟩
        · obtain ⟨cur, k1, k2, k3, _⟩ := hs k b c e hb he
          simp only [harr, if_true] at k3
          refine ⟨_, cap, ((cur.take e.cells.length).drop off).take mm, rfl, (fun h => by cases h), k3.sub off mm, .inr ⟨b, off, rfl, fun j v hv => ?_⟩⟩
          rw [List.getElem?_take] at hv
          split at hv
          · rw [List.getElem?_drop, List.getElem?_take] at hv
            split at hv
            · rw [cell_of_row w b (off + j) cur.toArray e.ty (0, 0) k1]
              simpa using hv
            · cases hv
          · cases hv
      · cases h
    · cases h
  · unfold asRow at h
    split at h
    · cases h
      simp only [Rel] at hx
      obtain ⟨ad, cap, rfl, _, _, h3, h4⟩ := hx
      rcases h4 with rfl | ⟨b, o, rfl, h4⟩
      · exact ⟨ad, cap, [], rfl, h3, by simp only [RelL], .inl rfl⟩
      · obtain ⟨vs, k1, k2, k3⟩ := h4.list
        exact ⟨_, cap, vs, rfl, h3, k2, .inr ⟨b, o, rfl, k1⟩⟩
    · cases h
      simp only [Rel] at hx
      subst hx
      exact ⟨none, 0, [], rfl, fun _ => rfl, by simp only [RelL], .inl rfl⟩
    · cases h
theorem append_run {o : Oper} {s x : Operand} {ts : Array TypeId} {t u e e' : TypeId} {i : TypeInfo} {z : Value} (ho : o.op = .call { callee := .builtin .append, args := #[s, x], argTypes := ts }) (hts : ts = #[t, u])
    (ht : P.underlying t = some (.slice e)) (hu : P.underlying u = some (.slice e')) (hi : P.info? e = some i) (hz : i.zero = some z) (hzs : z.cells.size = i.size) (hsz : 0 < i.size) (hby : 0 < i.bytes)
    {base n m c : Nat} {v : Value} {xs vs : List Value} (hs : a.eval s = v) (hown : w.ownsRow base e i.size v n xs) (hbase : base ≤ w.heap.size) {ad : Option Addr} (hx : a.eval x = .slice ad m c) (hc : ad = none → c = 0) (hl : vs.length = m * i.size)
    (hvs : vs = [] ∨ ∃ b o, ad = some ⟨b, o, none⟩ ∧ w.rangeAt b o vs) (h1 : ∀ u ∈ vs, u.oneCell' = true) (hb : (n + m) * i.bytes ≤ 140737488355328) :
    ∃ v' w', (execOp a.eval o).run P w = .ok (.value v') w' ∧ w'.ownsRow base e i.size v' (n + m) (xs ++ vs) ∧ w.grownBy w' v.ownBlock := by
  subst hts
  have hform : ∃ b n' c', v = .slice b n' c' := by
    obtain ⟨h1, ⟨rfl, rfl⟩ | ⟨g, cap, cur, rfl, _⟩⟩ := hown
    · exact ⟨_, _, _, rfl⟩
    · exact ⟨_, _, _, rfl⟩
  have hm : n + m ≤ maxLen := by
    have h2 : n + m ≤ (n + m) * i.bytes := Nat.le_mul_of_pos_right _ hby
    unfold maxLen; omega
  have up : ∀ v' w', (Builtin.append_ #[t, t] o.type #[v, .slice ad m c]).run P w = .ok v' w' → (execOp a.eval o).run P w = .ok (.value v') w' := by
    intro v' w' hr
    obtain ⟨vb, vn, vc, rfl⟩ := hform
    have := append_types (w := w) (ty := o.type) (b := vb) (n := vn) (c := vc) (x := .slice ad m c) ht hu hi
    simp [execOp, ho, resolve, invoke, builtin, hs, hx, this, hr]
  by_cases hm0 : ad = none
  · subst hm0
    obtain rfl := hc rfl
    have hv0 : vs = [] := by rcases hvs with h | ⟨b, o, h, _⟩; exact h; cases h
    subst hv0
    have : m = 0 := by
      have := hl.symm
      rcases Nat.mul_eq_zero.1 this with h2 | h2 <;> omega
    subst this
    have hr := run_append_owned_none (P := P) (w := w) base t o.type e i i.size ht hi _ n xs hown
    exact ⟨v, w, up _ _ hr, by simpa using hown, ⟨rfl, rfl, rfl, Nat.le_refl _, fun _ _ _ => rfl⟩⟩
  · obtain ⟨ad', rfl⟩ := Option.ne_none_iff_exists'.1 hm0
    obtain ⟨v', w', k1, k2, k3, _⟩ := run_append_own (P := P) w base t o.type e i z i.size i.bytes ht hi hz rfl rfl hzs hsz v n xs hown ad' m c vs hl (fun j y hj => by
      rcases hvs with rfl | ⟨b, o, h, hr⟩
      · simp at hj
      · cases h
        rw [Addr.add_mid]; exact hr j y hj) h1 hm hb hbase
    exact ⟨v', w', up _ _ k1, k2, k3⟩
end
end Go.Proofs.YtgbhoceamcomfaaGreat

/- The arguments of a statement as data, and from a contract on data to the statement's call. -/
import Derived.Test.YtgbhoceamcomfaaRd
namespace Go.Proofs.Ytgbhoceamcomfaa
open Go.ChangeShapes Go.WideShapes Go.ChangeAt Go.RowKit
set_option linter.unusedVariables false
set_option linter.unusedSimpArgs false
/-- plain types, none deeper than n -/
def okS (P : Program) : Nat → TypeId → Bool
  | 0, _ => false
  | n + 1, t => match P.underlying t with
    | some .bool | some (.int _) | some .string => true
    | some (.slice e) => decide (0 < P.cellsOf e) && okS P n e
    | some (.struct fs) => covers P (P.cellsOf t) fs.toList 0 && fs.toList.all (fun f => okS P n f.type)
    | some (.array m e) => P.cellsOf t == m * P.cellsOf e && okS P n e
    | _ => false
theorem okS_all {P : Program} : ∀ {k : Nat} {t : TypeId}, okS P k t = true → ∀ n, okT P n t = true
  | 0, t, h, n => by cases h
  | k + 1, t, h, 0 => rfl
  | k + 1, t, h, n + 1 => by
    simp only [okS] at h
    simp only [okT]
    split at h <;> rename_i hu <;> simp only [hu] <;> try trivial
    · simp only [Bool.and_eq_true] at h ⊢
      exact ⟨h.1, okS_all h.2 n⟩
    · simp only [Bool.and_eq_true, List.all_eq_true] at h ⊢
      exact ⟨h.1, fun f hf => okS_all (h.2 f hf) n⟩
    · simp only [Bool.and_eq_true] at h ⊢
      exact ⟨h.1, okS_all h.2 n⟩
section
variable {P : Program} {n : Nat} {t : TypeId} {ds : List D}
theorem shp_bool (hu : P.underlying t = some .bool) (h : Shp P n t ds) : ∃ b, ds = [.val (.bool b)] := by
  cases n with
  | zero => exact h.elim
  | succ n => simpa only [Shp, hu] using h
theorem shp_int {k : IntKind} (hu : P.underlying t = some (.int k)) (h : Shp P n t ds) : ∃ z, ds = [.val (.int k z)] ∧ inK k z := by
  cases n with
  | zero => exact h.elim
  | succ n =>
    simp only [Shp, hu] at h
    obtain ⟨z, h1, h2⟩ := h
    refine ⟨z, h1, ?_⟩
    cases k <;> simpa [Lit.wf, IntKind.min, IntKind.max, IntKind.signed, IntKind.bits, inK] using h2
theorem shp_string (hu : P.underlying t = some .string) (h : Shp P n t ds) : ∃ s, ds = [.val (.string s)] ∧ s.size ≤ maxLen := by
  cases n with
  | zero => exact h.elim
  | succ n => simpa only [Shp, hu] using h
theorem shp_slice {e : TypeId} (hu : P.underlying t = some (.slice e)) (h : Shp P n t ds) : ∃ m, ∃ ls : List (List D), ds = [.row ls.flatten ls.length] ∧ (∀ x ∈ ls, Shp P m e x) ∧ ls.length ≤ maxLen := by
  cases n with
  | zero => exact h.elim
  | succ n =>
    simp only [Shp, hu] at h
    obtain ⟨ls, h1, h2, h3⟩ := h
    exact ⟨n, ls, h1, fun x hx => (h2 x hx).1, h3⟩
theorem shp_struct {fs : Array Field} (hu : P.underlying t = some (.struct fs)) (h : Shp P n t ds) : ds.length = P.cellsOf t ∧ ∃ m, ∀ f ∈ fs.toList, Shp P m f.type ((ds.drop f.offset).take (P.cellsOf f.type)) := by
  cases n with
  | zero => exact h.elim
  | succ n =>
    simp only [Shp, hu] at h
    exact ⟨h.1, n, h.2⟩
theorem shp_array {k : Nat} {e : TypeId} (hu : P.underlying t = some (.array k e)) (h : Shp P n t ds) : ds.length = P.cellsOf t ∧ ∃ m, ∀ i, i < k → Shp P m e ((ds.drop (i * P.cellsOf e)).take (P.cellsOf e)) := by
  cases n with
  | zero => exact h.elim
  | succ n =>
    simp only [Shp, hu] at h
    exact ⟨h.1, n, h.2⟩
/-- rows out of elements -/
theorem lift_rows {β : Type} {g : β → D} {Q : β → Prop} : ∀ {ls : List (List D)}, (∀ x ∈ ls, ∃ b, x = [g b] ∧ Q b) → ∃ bs : List β, ls.flatten = bs.map g ∧ bs.length = ls.length ∧ ∀ b ∈ bs, Q b
  | [], h => ⟨[], rfl, rfl, by simp⟩
  | x :: ls, h => by
    obtain ⟨b, rfl, hb⟩ := h x (List.mem_cons_self ..)
    obtain ⟨bs, h1, h2, h3⟩ := lift_rows fun y hy => h y (List.mem_cons_of_mem _ hy)
    refine ⟨b :: bs, by simp [h1], by simp [h2], fun c hc => ?_⟩
    rcases List.mem_cons.1 hc with rfl | hc
    · exact hb
    · exact h3 c hc
/-- rows out of elements of several cells -/
theorem lift_flat {β : Type} {g : β → List D} {Q : β → Prop} : ∀ {ls : List (List D)}, (∀ x ∈ ls, ∃ b, x = g b ∧ Q b) → ∃ bs : List β, ls.flatten = (bs.map g).flatten ∧ bs.length = ls.length ∧ ∀ b ∈ bs, Q b
  | [], h => ⟨[], rfl, rfl, by simp⟩
  | x :: ls, h => by
    obtain ⟨b, rfl, hb⟩ := h x (List.mem_cons_self ..)
    obtain ⟨bs, h1, h2, h3⟩ := lift_flat fun y hy => h y (List.mem_cons_of_mem _ hy)
    refine ⟨b :: bs, by simp [h1], by simp [h2], fun c hc => ?_⟩
    rcases List.mem_cons.1 hc with rfl | hc
    · exact hb
    · exact h3 c hc
end
theorem okWide_array {P : Program} {w : World} {r : Reach} {base : Nat} {t : TypeId} {v : Value} {k : Nat} {e : TypeId} (ht : P.underlying t = some (.array k e)) (h : Value.okWide P w r base t v) : ∃ cs, v = .agg cs ∧ cs.size = P.cellsOf t := by
  simp only [Value.okWide, ht] at h
  obtain ⟨cs, h1, h2, _⟩ := h
  exact ⟨cs, h1, h2⟩
/-- an argument -/
def ArgD (P : Program) (t : TypeId) (d : D) : Prop := ∃ n, if tyAgg P t then ∃ ds, d = .agg ds ∧ Shp P n t ds else Shp P n t [d]
section
variable {H : Type} {enc : TypeId × Value → H} {P : Program} {W : World}
theorem arg_rel {r : Reach} {b : Nat} {t : TypeId} {v : Value} {d : DataW H} {ps : List MemPlace} (hval : Value.okWide P W r b t v) (h : DataW.Trod enc P W 0 (fun _ => true) true t v d ps) {k : Nat} (hk : okS P k t = true) :
    ∃ x, Rel (allI W) W noB x v ∧ ArgD P t x := by
  obtain ⟨fuel, hf⟩ := h
  obtain ⟨ds, k1, k2⟩ := trod_shp fuel t _ _ _ hf (okS_all hk fuel)
  have one : v.cells = #[v] → tyAgg P t = false → ∃ x, Rel (allI W) W noB x v ∧ ArgD P t x := by
    intro hc ha
    rw [hc] at k1
    have hl := k1.length
    match ds, hl with
    | [x], _ =>
      simp only [RelL] at k1
      obtain ⟨u, us, e, _, k3, k4⟩ := k1
      simp only [List.cons.injEq] at e
      obtain ⟨rfl, rfl⟩ := e
      exact ⟨x, k3, fuel, by rw [if_neg (by simp [ha])]; exact k2⟩
  have many : (∃ cs, v = .agg cs) → tyAgg P t = true → ∃ x, Rel (allI W) W noB x v ∧ ArgD P t x := by
    rintro ⟨cs, rfl⟩ ha
    refine ⟨.agg ds, ?_, fuel, by rw [if_pos ha]; exact ⟨ds, rfl, k2⟩⟩
    simp only [Rel]
    exact ⟨cs.toList, by simp, by simpa [Value.cells] using k1⟩
  cases k with
  | zero => cases hk
  | succ k =>
    simp only [okS] at hk
    split at hk <;> rename_i hu
    · obtain ⟨b, rfl⟩ := okWide_bool hu hval
      exact one rfl (by simp [tyAgg, hu])
    · obtain ⟨b, rfl⟩ := okWide_int hu hval
      exact one rfl (by simp [tyAgg, hu])
    · obtain ⟨b, rfl⟩ := okWide_string hu hval
      exact one rfl (by simp [tyAgg, hu])
    · obtain ⟨a, l, c, rfl⟩ := okWide_slice hu hval
      exact one rfl (by simp [tyAgg, hu])
    · obtain ⟨cs, rfl, _⟩ := okWide_struct hu hval
      exact many ⟨cs, rfl⟩ (by simp [tyAgg, hu])
    · obtain ⟨cs, rfl, _⟩ := okWide_array hu hval
      exact many ⟨cs, rfl⟩ (by simp [tyAgg, hu])
    · cases hk
inductive ArgsD (P : Program) : List TypeId → List D → Prop
  | nil : ArgsD P [] []
  | cons {t : TypeId} {ts : List TypeId} {d : D} {ds : List D} : ArgD P t d → ArgsD P ts ds → ArgsD P (t :: ts) (d :: ds)
theorem args_rel {r : Reach} {b k : Nat} : ∀ {ts : List TypeId} {vs : List Value} {ds : List (DataW H)} {ps : List MemPlace}, (∀ (j : Nat) t v, ts[j]? = some t → vs[j]? = some v → Value.okWide P W r b t v) → DataW.TrodAll enc P W 0 (fun _ => true) true ts vs ds ps → ts.all (okS P k) = true →
    ∃ xs, RelT (allI W) W noB xs vs ∧ ArgsD P ts xs
  | [], vs, ds, ps, hv, h, hk => by
    obtain ⟨rfl, _, _⟩ := trodAll_nil h
    exact ⟨[], by simp only [RelT], .nil⟩
  | t :: ts, vs, ds, ps, hv, h, hk => by
    obtain ⟨v, vs, d, ds, p, q, rfl, rfl, rfl, h1, h2⟩ := trodAll_cons h
    simp only [List.all_cons, Bool.and_eq_true] at hk
    obtain ⟨x, k1, k2⟩ := arg_rel (hv 0 t v rfl rfl) h1 hk.1
    obtain ⟨xs, k3, k4⟩ := args_rel (fun j t v h1 h2 => hv (j + 1) t v (by simpa using h1) (by simpa using h2)) h2 hk.2
    exact ⟨x :: xs, by simp only [RelT]; exact ⟨v, vs, rfl, k1, k3⟩, .cons k2 k4⟩
theorem ArgsD.one {t : TypeId} {xs : List D} (h : ArgsD P [t] xs) : ∃ d, xs = [d] ∧ ArgD P t d := by
  cases h with | cons h1 h2 => cases h2; exact ⟨_, rfl, h1⟩
theorem ArgsD.more {t : TypeId} {ts : List TypeId} {xs : List D} (h : ArgsD P (t :: ts) xs) : ∃ d ds, xs = d :: ds ∧ ArgD P t d ∧ ArgsD P ts ds := by
  cases h with | cons h1 h2 => exact ⟨_, _, rfl, h1, h2⟩
theorem ArgsD.none {xs : List D} (h : ArgsD P [] xs) : xs = [] := by cases h; rfl
theorem ArgD.agg {t : TypeId} {d : D} (h : ArgD P t d) (ha : tyAgg P t = true) : ∃ n ds, d = .agg ds ∧ Shp P n t ds := by
  obtain ⟨n, h⟩ := h
  rw [if_pos ha] at h
  exact ⟨n, h⟩
theorem ArgD.cell {t : TypeId} {d : D} (h : ArgD P t d) (ha : tyAgg P t = false) : ∃ n, Shp P n t [d] := by
  obtain ⟨n, h⟩ := h
  rw [if_neg (by simp [ha])] at h
  exact ⟨n, h⟩
theorem trodAll_len : ∀ {ts : List TypeId} {vs : List Value} {ds : List (DataW H)} {ps : List MemPlace}, DataW.TrodAll enc P W 0 (fun _ => true) true ts vs ds ps → ds.length = ts.length
  | [], vs, ds, ps, h => by
    obtain ⟨_, rfl, _⟩ := trodAll_nil h
    rfl
  | t :: ts, vs, ds, ps, h => by
    obtain ⟨v, vs, d, ds, p, q, rfl, rfl, rfl, h1, h2⟩ := trodAll_cons h
    rw [List.length_cons, List.length_cons, trodAll_len h2]
/-- THE STATEMENT's CALL out of a contract: at whatever data the arguments are, the law returns true. -/
theorem law_call {fn : Func} {s : ChangeSpec} {f : FuncId} {bt : TypeId} {args : Array Value} {ds gs : List (DataW H)} {before : List MemPlace} {base : Nat} (k : Nat)
    (hl : laidOutB P = true) (hv : s.vars = []) (hrt : fn.resultTypes = #[bt]) (hbt : P.underlying bt = some .bool)
    (hr : fn.params.toList.all (fun t => P.readableRec t && decide (t < P.types.size)) = true) (hfn : ∀ ds, ds.length = fn.params.toList.length → s.fn H ds = { results := [.lit (.bool true)], args := ds })
    (hk : fn.params.toList.all (okS P k) = true)
    (hval : ∀ (j : Nat) t v, fn.params[j]? = some t → args[j]? = some v → Value.okWide P W .any base t v)
    (hW : DataW.Whole enc P fn.params.toList s.vars false W args.toList ds gs before)
    (main : ∀ xs, ArgsD P fn.params.toList xs → Pure P f xs [] (.val (.bool true))) :
    Calls P f args W fun e W' => ∃ v, e = .returned v ∧ s.post enc P fn false true false false W args v W' := by
  have hW' := hW
  obtain ⟨p, q, hA0, hV, rfl, hfz, hnd⟩ := hW
  rw [hv] at hV
  obtain ⟨rfl, rfl⟩ := trodVars_none hV
  have hA : DataW.TrodAll enc P W 0 (fun _ => true) true fn.params.toList args.toList ds p := hA0
  obtain ⟨xs, h1, h2⟩ := args_rel (k := k) (r := .any) (b := base) (fun j t v k1 k2 => hval j t v (by simpa using k1) (by simpa using k2)) hA hk
  refine (main xs h2 (allI W) W args.toList h1 (fun b o h => h)).mono ?_
  rintro e W' ⟨v, I', γ, rfl, hx, _, _, _, _, _, _, _, _, hr', _⟩
  simp only [Rel] at hr'
  subst hr'
  exact ⟨_, rfl, post_true (bt := bt) hl hv hrt hbt hr (hfn ds (trodAll_len hA)) hW' hx⟩
end
end Go.Proofs.Ytgbhoceamcomfaa

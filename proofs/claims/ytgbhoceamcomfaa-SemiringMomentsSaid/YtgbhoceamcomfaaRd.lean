/- Reading what came in as data: the cells of a readable value, by its type. -/
import Derived.Test.YtgbhoceamcomfaaDp
import Derived.Test.YtgbhoceamcomfaaEnd
namespace Go.Proofs.Ytgbhoceamcomfaa
open Go.ChangeShapes Go.WideShapes Go.ChangeAt Go.RowKit
set_option linter.unusedVariables false
set_option linter.unusedSimpArgs false
/-- all that lies in the world -/
def allI (w : World) : Im := fun b _ => b < w.heap.size
/-- the data of a value of type t, cell by cell; fuel as the reading's -/
def Shp (P : Program) : Nat → TypeId → List D → Prop
  | 0, _, _ => False
  | n + 1, t, ds => match P.underlying t with
    | some .bool => ∃ b, ds = [.val (.bool b)]
    | some (.int k) => ∃ z, ds = [.val (.int k z)] ∧ (Lit.int k z).wf = true
    | some .string => ∃ s, ds = [.val (.string s)] ∧ s.size ≤ maxLen
    | some (.slice e) => ∃ ls : List (List D), ds = [.row ls.flatten ls.length] ∧ (∀ x ∈ ls, Shp P n e x ∧ x.length = P.cellsOf e) ∧ ls.length ≤ maxLen
    | some (.struct fs) => ds.length = P.cellsOf t ∧ ∀ f ∈ fs.toList, Shp P n f.type ((ds.drop f.offset).take (P.cellsOf f.type))
    | some (.array m e) => ds.length = P.cellsOf t ∧ ∀ i, i < m → Shp P n e ((ds.drop (i * P.cellsOf e)).take (P.cellsOf e))
    | _ => False
section
variable {H : Type} {enc : TypeId × Value → H} {P : Program} {w : World}
theorem mapM_some {α β : Type} {f : α → Option β} : ∀ {l : List α} {r : List β}, l.mapM f = some r → r.length = l.length ∧ ∀ (i : Nat) x, l[i]? = some x → ∃ y, f x = some y
  | [], r, h => by simp at h; subst h; exact ⟨rfl, by simp⟩
  | a :: l, r, h => by
    rw [List.mapM_cons] at h
    cases ha : f a with
    | none => simp [ha] at h
    | some b =>
      cases hl : l.mapM f with
      | none => simp [ha, hl] at h
      | some bs =>
        simp [ha, hl] at h
        subst h
        obtain ⟨h1, h2⟩ := mapM_some hl
        refine ⟨by simp [h1], fun i x hx => ?_⟩
        cases i with
        | zero => simp at hx; subst hx; exact ⟨b, ha⟩
        | succ i => exact h2 i x (by simpa using hx)
theorem RelC.append {I : Im} {b : Nat} : ∀ {x y : List D} {o : Nat}, RelC I w x b o → RelC I w y b (o + x.length) → RelC I w (x ++ y) b o
  | [], y, o, h, k => by simpa using k
  | d :: x, y, o, h, k => by
    simp only [List.cons_append, RelC] at h ⊢
    refine ⟨h.1, h.2.append ?_⟩
    rw [show o + 1 + x.length = o + (d :: x).length by simp; omega]; exact k
theorem relC_flatten {I : Im} {b sz : Nat} : ∀ (ls : List (List D)) (o : Nat), (∀ j x, ls[j]? = some x → RelC I w x b (o + j * sz) ∧ x.length = sz) → RelC I w ls.flatten b o
  | [], o, h => by simp only [List.flatten_nil, RelC]
  | x :: ls, o, h => by
    rw [List.flatten_cons]
    have h0 := h 0 x rfl
    refine RelC.append (by simpa using h0.1) (relC_flatten (sz := sz) ls _ fun j y hy => ?_)
    have := h (j + 1) y (by simpa using hy)
    rw [h0.2]
    refine ⟨?_, this.2⟩
    rw [show o + sz + j * sz = o + (j + 1) * sz by rw [Nat.succ_mul]; omega]; exact this.1
theorem relC_of_cells {b o n : Nat} {cs : List Value} {ds : List D} (h : RelL (allI w) w noB ds cs) (hc : ∀ j v, cs[j]? = some v → w.cell? ⟨b, o + j, none⟩ = some v) : RelC (allI w) w ds b o :=
  RelC.of_get fun i d hd => by
    obtain ⟨v, k1, k2, k3⟩ := h.get i d hd
    have hv := hc i v k1
    exact ⟨World.block_lt_of_cell? w _ hv, v, hv, k2, k3⟩
/-- fields one behind the other, to the end -/
def covers (P : Program) (total : Nat) : List Field → Nat → Bool
  | [], off => off == total
  | f :: r, off => f.offset == off && covers P total r (off + P.cellsOf f.type)
theorem covers_le {total : Nat} : ∀ {fs : List Field} {off : Nat}, covers P total fs off = true → off ≤ total
  | [], off, h => by simp [covers] at h; omega
  | f :: r, off, h => by
    simp only [covers, Bool.and_eq_true, beq_iff_eq] at h
    have := covers_le h.2
    omega
theorem covers_ge {total : Nat} : ∀ {fs : List Field} {off : Nat}, covers P total fs off = true → ∀ f ∈ fs, off ≤ f.offset
  | [], off, h, f, hf => by cases hf
  | g :: r, off, h, f, hf => by
    simp only [covers, Bool.and_eq_true, beq_iff_eq] at h
    rcases List.mem_cons.1 hf with rfl | hf
    · omega
    · have := covers_ge h.2 f hf; omega
theorem fields_rel {total : Nat} {cs : List Value} (hl : cs.length = total) {S : TypeId → List D → Prop} : ∀ (fs : List Field) (off : Nat), covers P total fs off = true → (∀ f ∈ fs, ∃ ds, RelL (allI w) w noB ds ((cs.drop f.offset).take (P.cellsOf f.type)) ∧ S f.type ds) →
    ∃ ds, RelL (allI w) w noB ds (cs.drop off) ∧ ∀ f ∈ fs, S f.type ((ds.drop (f.offset - off)).take (P.cellsOf f.type))
  | [], off, hc, h => by
    simp only [covers, beq_iff_eq] at hc
    exact ⟨[], by rw [List.drop_of_length_le (by omega)]; simp only [RelL], by simp⟩
  | f :: r, off, hc, h => by
    simp only [covers, Bool.and_eq_true, beq_iff_eq] at hc
    obtain ⟨df, h1, h2⟩ := h f (List.mem_cons_self ..)
    obtain ⟨dr, h3, h4⟩ := fields_rel hl r _ hc.2 (fun g hg => h g (List.mem_cons_of_mem _ hg))
    have hle := covers_le hc.2
    have hlen : df.length = P.cellsOf f.type := by
      rw [h1.length, List.length_take, List.length_drop, hc.1]; omega
    refine ⟨df ++ dr, ?_, fun g hg => ?_⟩
    · have := h1.append h3
      rw [hc.1] at this
      rwa [show (cs.drop off).take (P.cellsOf f.type) ++ cs.drop (off + P.cellsOf f.type) = cs.drop off by rw [← List.drop_drop]; exact List.take_append_drop _ _] at this
    · rcases List.mem_cons.1 hg with rfl | hg
      · rw [hc.1, Nat.sub_self, List.drop_zero, List.take_append_of_le_length (by omega), List.take_of_length_le (by omega)]
        exact h2
      · have hge := covers_ge hc.2 g hg
        have := h4 g hg
        rw [List.drop_append, List.drop_of_length_le (l := df) (by omega), List.nil_append, show g.offset - off - df.length = g.offset - (off + P.cellsOf f.type) by omega]
        exact this
theorem items_rel {sz : Nat} {S : List D → Prop} : ∀ (m : Nat) (cs : List Value), cs.length = m * sz → (∀ i, i < m → ∃ ds, RelL (allI w) w noB ds ((cs.drop (i * sz)).take sz) ∧ S ds) →
    ∃ ds, RelL (allI w) w noB ds cs ∧ ∀ i, i < m → S ((ds.drop (i * sz)).take sz)
  | 0, cs, hl, h => by
    obtain rfl : cs = [] := List.eq_nil_of_length_eq_zero (by simpa using hl)
    exact ⟨[], by simp only [RelL], by simp⟩
  | m + 1, cs, hl, h => by
    obtain ⟨d0, h1, h2⟩ := h 0 (by omega)
    rw [Nat.zero_mul, List.drop_zero] at h1
    rw [Nat.succ_mul] at hl
    have hlen : d0.length = sz := by rw [h1.length, List.length_take]; omega
    obtain ⟨dr, h3, h4⟩ := items_rel (sz := sz) (S := S) m (cs.drop sz) (by rw [List.length_drop]; omega) (fun i hi => by
      obtain ⟨ds, k1, k2⟩ := h (i + 1) (by omega)
      refine ⟨ds, ?_, k2⟩
      rw [List.drop_drop, show sz + i * sz = (i + 1) * sz by rw [Nat.succ_mul]; omega]
      exact k1)
    refine ⟨d0 ++ dr, ?_, fun i hi => ?_⟩
    · have := h1.append h3
      rwa [List.take_append_drop] at this
    · cases i with
      | zero =>
        rw [Nat.zero_mul, List.drop_zero, List.take_append_of_le_length (by omega), List.take_of_length_le (by omega)]
        exact h2
      | succ i =>
        have := h4 i (by omega)
        rw [Nat.succ_mul, List.drop_append, List.drop_of_length_le (l := d0) (by omega), List.nil_append, show i * sz + sz - d0.length = i * sz by omega]
        exact this
/-- plain types: numbers, truth values, strings, and slices, structs and arrays of such -/
def okT (P : Program) : Nat → TypeId → Bool
  | 0, _ => true
  | n + 1, t => match P.underlying t with
    | some .bool | some (.int _) | some .string => true
    | some (.slice e) => decide (0 < P.cellsOf e) && okT P n e
    | some (.struct fs) => covers P (P.cellsOf t) fs.toList 0 && fs.toList.all (fun f => okT P n f.type)
    | some (.array m e) => P.cellsOf t == m * P.cellsOf e && okT P n e
    | _ => false
theorem trod_shp : ∀ (fuel : Nat) (t : TypeId) (cs : List Value) (d : DataW H) (ps : List MemPlace), DataW.trod enc P w 0 (fun _ => true) true fuel t cs = some (d, ps) → okT P fuel t = true → ∃ ds, RelL (allI w) w noB ds cs ∧ Shp P fuel t ds
  | 0, t, cs, d, ps, h, hk => by cases h
  | n + 1, t, cs, d, ps, h, hk => by
    have ih := trod_shp n
    simp only [DataW.trod] at h
    split at h
    case h_1 =>
      rename_i b hu
      exact ⟨[.val (.bool b)], by simp only [RelL, Rel]; exact ⟨_, _, rfl, rfl, rfl, rfl⟩, by simp [Shp, hu]⟩
    case h_2 =>
      rename_i k k' z hu
      split at h
      · rename_i hc
        obtain ⟨rfl, hw⟩ := hc
        exact ⟨[.val (.int k' z)], by simp only [RelL, Rel]; exact ⟨_, _, rfl, rfl, rfl, rfl⟩, by simp [Shp, hu, hw]⟩
      · cases h
    case h_4 =>
      rename_i z hu
      split at h
      · rename_i hc
        exact ⟨[.val (.string z)], by simp only [RelL, Rel]; exact ⟨_, _, rfl, rfl, rfl, rfl⟩, by simp [Shp, hu, hc]⟩
      · cases h
    case h_7 =>
      rename_i e hu
      exact ⟨[.row [] 0], by simp only [RelL, Rel]; exact ⟨_, _, rfl, rfl, ⟨none, 0, rfl, Nat.le_refl _, by decide, fun _ => rfl, .inl trivial⟩, rfl⟩, by simp only [Shp, hu]; exact ⟨[], rfl, by simp, by decide⟩⟩
    case h_8 =>
      rename_i e a len cap hu
      simp only [okT, hu, Bool.and_eq_true, decide_eq_true_eq] at hk
      split at h
      · rename_i hc
        cases hm : (List.range len).mapM (fun i => (w.cells? 0 (a.add (i * P.cellsOf e)) (P.cellsOf e)).bind (DataW.trod enc P w 0 (fun _ => true) true n e)) with
        | none => simp [hm] at h
        | some es =>
          obtain ⟨_, h2⟩ := mapM_some hm
          have key : ∀ i, i < len → ∃ ds cs, RelL (allI w) w noB ds cs ∧ Shp P n e ds ∧ w.cells? 0 (a.add (i * P.cellsOf e)) (P.cellsOf e) = some cs := by
            intro i hi
            obtain ⟨y, hy⟩ := h2 i i (List.getElem?_range hi)
            rw [Option.bind_eq_some_iff] at hy
            obtain ⟨cs, k1, k2⟩ := hy
            obtain ⟨ds, k3, k4⟩ := ih e cs y.1 y.2 k2 hk.2
            exact ⟨ds, cs, k3, k4, k1⟩
          have hsp : 0 < len → a.spot = none := by
            intro h0
            obtain ⟨ds, cs, k1, k2, k3⟩ := key 0 h0
            obtain ⟨_, hl, hcell⟩ := World.cells?_some k3
            have := hcell 0 (by omega)
            have h5 : ∃ v, w.cell? ((a.add (0 * P.cellsOf e)).add 0) = some v := by
              rw [this]; exact ⟨cs[0]'(by omega), by simp⟩
            obtain ⟨v, hv⟩ := h5
            have := World.cell?_spot hv
            simpa [Addr.add] using this
          have hls : ∃ ls : List (List D), ls.length = len ∧ ∀ j x, ls[j]? = some x → ∃ cs, RelL (allI w) w noB x cs ∧ Shp P n e x ∧ w.cells? 0 (a.add (j * P.cellsOf e)) (P.cellsOf e) = some cs := by
            refine ⟨(List.range len).map (fun i => if hi : i < len then Classical.choose (key i hi) else []), by simp, fun j x hx => ?_⟩
            rw [List.getElem?_map, Option.map_eq_some_iff] at hx
            obtain ⟨j', hj, rfl⟩ := hx
            have hjl : j < len := by have := (List.getElem?_eq_some_iff.1 hj).1; simpa using this
            rw [List.getElem?_range hjl] at hj
            cases hj
            rw [dif_pos hjl]
            exact Classical.choose_spec (key j hjl)
          obtain ⟨ls, hl1, hl2⟩ := hls
          have hlen : ∀ (j : Nat) (x : List D), ls[j]? = some x → x.length = P.cellsOf e := by
            intro j x hx
            obtain ⟨cs, k1, k2, k3⟩ := hl2 j x hx
            rw [k1.length]; exact (World.cells?_some k3).2.1
          refine ⟨[.row ls.flatten ls.length], ?_, ?_⟩
          · simp only [RelL, Rel]
            refine ⟨_, _, rfl, rfl, ⟨some a, cap, by rw [hl1], by omega, hc.2.2, (fun h => by cases h), ?_⟩, rfl⟩
            rcases Nat.eq_zero_or_pos len with h0 | h0
            · left
              obtain rfl : ls = [] := List.eq_nil_of_length_eq_zero (by omega)
              rfl
            · right
              obtain ⟨b, o, sp⟩ := a
              obtain rfl : sp = none := hsp h0
              refine ⟨b, o, rfl, relC_flatten (sz := P.cellsOf e) ls o fun j x hx => ⟨?_, hlen j x hx⟩⟩
              obtain ⟨cs, k1, k2, k3⟩ := hl2 j x hx
              obtain ⟨_, k4, k5⟩ := World.cells?_some k3
              refine relC_of_cells (n := 0) k1 fun i v hv => ?_
              have hi : i < P.cellsOf e := by have := (List.getElem?_eq_some_iff.1 hv).1; omega
              have := k5 i hi
              rw [hv] at this
              rw [add_plain, add_plain] at this
              exact this
          · simp only [Shp, hu]
            refine ⟨ls, rfl, fun x hx => ?_, by omega⟩
            obtain ⟨j, hj⟩ := List.getElem?_of_mem hx
            obtain ⟨cs, k1, k2, k3⟩ := hl2 j x hj
            exact ⟨k2, hlen j x hj⟩
      · cases h
    case h_9 =>
      rename_i fs hu
      simp only [okT, hu, Bool.and_eq_true] at hk
      split at h
      · rename_i hl
        rw [Option.map_eq_some_iff] at h
        obtain ⟨xs, hm, _⟩ := h
        obtain ⟨_, h2⟩ := mapM_some hm
        obtain ⟨ds, k1, k2⟩ := fields_rel (P := P) (S := Shp P n) hl fs.toList 0 hk.1 (fun f hf => by
          obtain ⟨j, hj⟩ := List.getElem?_of_mem hf
          obtain ⟨y, hy⟩ := h2 j f hj
          exact ih _ _ y.1 y.2 hy (List.all_eq_true.1 hk.2 f hf))
        rw [List.drop_zero] at k1
        exact ⟨ds, k1, by simp only [Shp, hu]; exact ⟨by rw [k1.length]; exact hl, fun f hf => by simpa using k2 f hf⟩⟩
      · cases h
    case h_10 =>
      rename_i m e hu
      simp only [okT, hu, Bool.and_eq_true, beq_iff_eq] at hk
      split at h
      · rename_i hl
        rw [Option.map_eq_some_iff] at h
        obtain ⟨xs, hm, _⟩ := h
        obtain ⟨_, h2⟩ := mapM_some hm
        obtain ⟨ds, k1, k2⟩ := items_rel (sz := P.cellsOf e) (S := Shp P n e) m _ (by rw [hl, hk.1]) (fun i hi => by
          obtain ⟨y, hy⟩ := h2 i i (List.getElem?_range hi)
          exact ih _ _ y.1 y.2 hy hk.2)
        exact ⟨ds, k1, by simp only [Shp, hu]; exact ⟨by rw [k1.length]; exact hl, k2⟩⟩
      · cases h
    all_goals (exfalso; simp_all [okT])
end
end Go.Proofs.Ytgbhoceamcomfaa

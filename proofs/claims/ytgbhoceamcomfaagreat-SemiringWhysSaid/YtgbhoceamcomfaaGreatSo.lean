/- Sorting by reference: an own array that a call puts into order. -/
import Derived.Test.YtgbhoceamcomfaaGreatAc
import Derived.Test.YtgbhoceamcomfaaGreatSc
import Derived.Test.YtgbhoceamcomfaaGreatDy
import Derived.Lib.RowBridge
import Derived.Sort.AssemblyPlain
namespace Go.Proofs.YtgbhoceamcomfaaGreat
open Go.RowKit Go.Sort Go.Lib Go.Shelf
set_option linter.unusedVariables false
set_option linter.unusedSimpArgs false
section
variable {P : Program} {I : Im} {w : World} {β : Be} {sl : List D} {st : List Bk} {tm : List Value}
theorem grow_heap (w : World) (os : Array Obj) {b : Nat} (h : b < w.heap.size) : (grow w os).heap[b]? = w.heap[b]? := by
  simp [grow, Array.getElem?_append_left h]
theorem Fix.grow (hi : ImB I w) (os : Array Obj) : Fix I w I (grow w os) := fun b o h => ⟨h, fun v hv => by
  simp only [World.cell?] at hv ⊢
  rw [grow_heap w os (hi b o h)]; exact hv⟩
theorem Sim.grow (h : Sim β I w sl st tm) (os : Array Obj) : Sim β I (grow w os) sl st tm := by
  have hf := Fix.grow h.imb os
  refine ⟨RelT.mono hf β β (BeLe.refl _) _ _ h.rel, fun k b c hk => ?_, h.inj, h.fz, h.dom, fun b o hb => ?_⟩
  · obtain ⟨e, h1, h2⟩ := h.sr k b c hk
    exact ⟨e, h1, h2.mono (grow_heap w os h2.lt) hf (BeLe.refl _)⟩
  · have := h.imb b o hb
    simp [Go.Sort.grow]; omega
theorem Stp.grow (hi : ImB I w) (β : Be) (os : Array Obj) : Stp β I w β I (grow w os) := ⟨Fix.grow hi os, by simp [Go.Sort.grow], fun b hb _ => grow_heap w os hb, rfl, rfl, rfl, fun k b c h => .inl ⟨k, c, h⟩, fun _ _ h => .inl h⟩
theorem setAt_all : ∀ (xs ys pre : List D), xs.length = ys.length → setAt (pre ++ xs) pre.length ys = pre ++ ys
  | xs, [], pre, hl => by
    obtain rfl : xs = [] := List.eq_nil_of_length_eq_zero (by simpa using hl)
    rfl
  | [], y :: ys, pre, hl => by simp at hl
  | x :: xs, y :: ys, pre, hl => by
    simp only [setAt]
    have e1 : (pre ++ x :: xs).set pre.length y = (pre ++ [y]) ++ xs := by simp
    rw [e1]
    have := setAt_all xs ys (pre ++ [y]) (by simpa using hl)
    simp only [List.length_append, List.length_cons, List.length_nil] at this
    rw [this]; simp
/-- What a call by reference makes of an array's elements, and nothing else. -/
theorem acts_rowG {f : FuncId} {k n : Nat} {e : Bk} {wh : Bool} {ds' : List D} {margs : List D} {more : List Value} (hmore : ∀ I w β vs, RelT I w β margs vs → vs = more) (he : st[k]? = some e) (ha : e.arr = true) (hf : e.fz = false) (hlen : e.cells.length = n) (hl' : ds'.length = n) (hpos : 0 < n)
    (h : ∀ (I : Im) b c w us, ImB I w → (∀ j, ¬ I b j) → RelL I w noB e.cells us → (∃ cur t, w.heap[b]? = some (.cells cur t (0, 0))) → (∀ j, j < n → w.cell? ⟨b, 0 + j, none⟩ = some (us.getD j undef)) → (∀ j, j < n → w.frozen? ⟨b, 0 + j, none⟩ = false) → n ≤ c → Calls P f (#[.slice (some ⟨b, 0, none⟩) n c] ++ more.toArray) w fun x w' => x = .returned (.tuple #[]) ∧ ∃ vs q os, w' = grow ((w.drewN q).setCells b 0 vs) os ∧ RelL I w noB ds' vs) :
    Acts P f (.osl k 0 n n wh :: margs) st [] (.val (.tuple #[])) (st.set k { e with cells := ds' }) := by
  intro β I w xs hr hsr hinj hfz hdom hi
  simp only [RelT] at hr
  obtain ⟨v, ys, rfl, hr, hys⟩ := hr
  obtain rfl := hmore _ _ _ _ hys
  simp only [Rel] at hr
  rcases hr with ⟨e0, _, rfl⟩ | ⟨e0, _, _, a, c, rfl, _⟩ | ⟨b, c, cap, hb, rfl, k1, k2, k3⟩
  · omega
  · omega
  have hs0 : Sim β I w ([] : List D) st ({ tmps := #[], defers := [] } : Act).tmps.toList := ⟨by simp only [RelT], hsr, hinj, hfz, hdom, hi⟩
  obtain ⟨e', he', cur, c1, c2, c3, c4⟩ := hsr k b c hb
  rw [he] at he'; cases he'
  rw [ha] at c3
  simp only [if_true] at c3
  have hno : ∀ j, ¬ I b j := fun j hij => by
    have := (hfz k b c j e hb he hij).1
    rw [hf] at this; cases this
  have hpre := (hs0.put (off := 0) (cs := e.cells) (vs := cur.take e.cells.length) (ks := []) hb he hf (by simp) (by rw [ha]; simp only [if_true]; exact RelL.mono (fixI_le _) _ _ (BeLe.refl _) _ _ c3) (by simp) none undef).2.2
  have hlc : (cur.take e.cells.length).length = n := by rw [← c3.length]; exact hlen
  have e1 : (#[Value.slice (some ⟨b, 0, none⟩) n cap] ++ ys.toArray) = (Value.slice (some ⟨b, 0, none⟩) n cap :: ys).toArray := by apply Array.ext'; simp
  rw [← e1]
  refine (h I b cap w (cur.take e.cells.length) hi hno c3 ⟨_, _, c1⟩ (fun j hj => ?_) (fun j hj => (hpre j (by omega)).2) k1).mono ?_
  · have hlt : j < cur.length := by rw [List.length_take] at hlc; omega
    rw [List.getD_eq_getElem?_getD, List.getElem?_take, if_pos (by omega), List.getElem?_eq_getElem hlt]
    simp [World.cell?, c1, hlt]
  · rintro x w' ⟨rfl, vs, q, os, rfl, hvs⟩
    have hvs' : RelL (fixI I β st []) (w.drewN q) (if e.arr then noB else β) ds' vs := by
      rw [ha]; simp only [if_true]
      exact RelL.mono ((Fix.drew I w q).trans (fixI_le [])) _ _ (BeLe.refl _) _ _ hvs
    obtain ⟨s1, s2, s3⟩ := (hs0.drew q).put (off := 0) (cs := ds') (vs := vs) (ks := []) hb he hf (by simp) hvs' (by omega) none undef
    have hset2 : setAt e.cells 0 ds' = ds' := setAt_all e.cells ds' [] (by omega)
    rw [hset2] at s1
    have s4 := s1.grow os
    exact ⟨_, β, _, rfl, s4.imb, (Stp.drew β I w q).trans (s2.trans (Stp.grow s1.imb β os)), fun _ _ _ h => h, s4.sr, s4.inj, s4.fz, s4.dom, by simp only [Rel]⟩
/-- .. of no elements -/
theorem acts_row0 {f : FuncId} {k : Nat} {wh : Bool} (h0 : ∀ a c w, Calls P f #[.slice a 0 c] w fun x w' => x = .returned (.tuple #[]) ∧ w' = w) : Acts P f [.osl k 0 0 0 wh] st [] (.val (.tuple #[])) st := by
  intro β I w xs hr hsr hinj hfz hdom hi
  simp only [RelT] at hr
  obtain ⟨v, ys, rfl, hr, rfl⟩ := hr
  have : ∃ a c, v = .slice a 0 c := by
    simp only [Rel] at hr
    rcases hr with ⟨_, _, rfl⟩ | ⟨_, _, _, a, c, rfl, _⟩ | ⟨b, c, cap, hb, rfl, _⟩
    · exact ⟨none, 0, rfl⟩
    · exact ⟨a, c, rfl⟩
    · exact ⟨_, _, rfl⟩
  obtain ⟨a, c, rfl⟩ := this
  refine (h0 a c w).mono ?_
  rintro x w' ⟨rfl, rfl⟩
  exact ⟨_, β, I, rfl, hi, Stp.refl _ _ _, fun _ _ _ h => h, hsr, hinj, hfz, hdom, by simp only [Rel]⟩
end
def sortC {α : Type} (c : α → α → Int) (l : List α) : List α := l.mergeSort fun a b => decide (c a b ≤ 0)
section
variable {α : Type} {c : α → α → Int}
theorem sortC_perm (l : List α) : (sortC c l).Perm l := List.mergeSort_perm _ _
theorem Cm.le_tr (hc : Cm c) {a b d : α} (h : c a b ≤ 0) (k : c b d ≤ 0) : c a d ≤ 0 := by
  by_cases e1 : c a b = 0
  · rw [(hc.eq a b).1 e1]; exact k
  · by_cases e2 : c b d = 0
    · rw [← (hc.eq b d).1 e2]; exact h
    · have := hc.tr a b d (by omega) (by omega); omega
theorem sortC_sorted (hc : Cm c) (l : List α) : (sortC c l).Pairwise fun a b => ¬ c b a < 0 := by
  have := List.pairwise_mergeSort (le := fun a b => decide (c a b ≤ 0)) (fun a b d h k => by
    simp only [decide_eq_true_eq] at *; exact hc.le_tr h k) (fun a b => by
    have := hc.neg a b
    simp only [Bool.or_eq_true, decide_eq_true_eq]; omega) l
  refine this.imp fun {a b} h => ?_
  have := hc.neg a b
  simp only [decide_eq_true_eq] at h
  omega
theorem sortC_uniq (hc : Cm c) {l m : List α} (hp : m.Perm l) (hs : m.Pairwise fun a b => ¬ c b a < 0) : m = sortC c l := by
  refine List.Perm.eq_of_pairwise (le := fun a b => ¬ c b a < 0) (fun a b _ _ h k => ?_) hs (sortC_sorted hc l) (hp.trans (sortC_perm l).symm)
  have := hc.neg a b
  exact (hc.eq a b).1 (by omega)
theorem ddG_sort [DecidableEq α] (hc : Cm c) (l : List α) : ddG (sortC c l) = setG c l := by
  rw [ddG_sorted hc (sortC_sorted hc l)]
  exact setG_congr hc fun z => (sortC_perm l).mem_iff
end
theorem sortC_int (l : List Int) : sortC icmp l = l.mergeSort fun x y => decide (x ≤ y) := by
  unfold sortC
  congr 1
  funext a b
  unfold icmp
  (repeat' split) <;> simp <;> omega
theorem ints_vals (zs : List Int) : zs.map intD = (zs.map (Value.int .i64)).map .val := by simp
theorem sort_ints {st : List Bk} {k n : Nat} {e : Bk} {wh : Bool} {zs : List Int} (he : st[k]? = some e) (ha : e.arr = true) (hf : e.fz = false) (hc : e.cells = zs.map intD) (hn : zs.length = n) (hb : n ≤ 1000000) :
    Acts Tryz.prog 108 [.osl k 0 n n wh] st [] (.val (.tuple #[])) (st.set k { e with cells := (sortC icmp zs).map intD }) := by
  have hsl : (sortC icmp zs).length = n := by rw [(sortC_perm zs).length_eq, hn]
  rcases Nat.eq_zero_or_pos n with h0 | hpos
  · subst h0
    obtain rfl : zs = [] := List.eq_nil_of_length_eq_zero hn
    have e1 : ({ e with cells := (sortC icmp []).map intD } : Bk) = e := by
      rw [show (sortC icmp ([] : List Int)) = [] by rw [sortC_int]; simp, ← hc]
    rw [e1]
    have e2 : st.set k e = st := by
      apply List.ext_getElem?
      intro j
      rw [List.getElem?_set]
      split
      · rename_i ej; subst ej
        rw [he, if_pos (List.getElem?_eq_some_iff.1 he).1]
      · rfl
    rw [e2]
    exact acts_row0 fun a c w => Tryz.slices_Sort_int_none a c w
  · refine acts_rowG (margs := []) (more := []) (fun _ _ _ _ h => by simpa only [RelT] using h) he ha hf (by rw [hc, List.length_map, hn]) (by rw [List.length_map, hsl]) hpos ?_
    intro I b c w us hi hno hr hcur hcell hfr hcap
    rw [hc, ints_vals] at hr
    obtain rfl := relL_vals hr
    have hH : Holds (Value.int .i64) w b 0 zs.toArray := fun j hj => by
      have hj' : j < n := by simpa [hn] using hj
      refine ⟨?_, hfr j hj'⟩
      rw [hcell j hj']
      simp [List.getD, hn, hj']
    have hblk : b < w.heap.size := by
      obtain ⟨cur, t, h⟩ := hcur
      rw [Array.getElem?_eq_some_iff] at h
      exact h.1
    have := Tryz.slices_Sort_int b 0 c zs w hH hblk (by omega)
    rw [hn] at this
    refine this.mono ?_
    rintro x w' ⟨rfl, q, os, rfl⟩
    refine ⟨rfl, (sortC icmp zs).map (Value.int .i64), q, os, ?_, ?_⟩
    · rw [← sortC_int, putRow_eq_setCells (Value.int .i64) w b 0 zs.toArray (sortC icmp zs) q hH (by simp [hsl, hn])]
    · rw [ints_vals]
      exact relL_of_vals fun v hv => by obtain ⟨z, _, rfl⟩ := List.mem_map.1 hv; rfl
/-- rows of numbers with their values -/
structure El2 (I : Im) (w : World) where
  l : List Int
  v : Value
  rel : Rel I w noB (intsD l) v
  one : v.oneCell' = true
  len : l.length ≤ 1000000
theorem pairs2 {I : Im} {w : World} : ∀ {l : List (List Int)} {us : List Value}, RelL I w noB (l.map intsD) us → Short 1000000 l → ∃ xs : List (El2 I w), xs.map (·.l) = l ∧ xs.map (·.v) = us
  | [], us, h, _ => by
    simp only [List.map_nil, RelL] at h
    exact ⟨[], rfl, by simp [h]⟩
  | s :: l, us, h, hs => by
    simp only [List.map_cons, RelL] at h
    obtain ⟨v, us, rfl, h1, h2, h3⟩ := h
    obtain ⟨xs, k1, k2⟩ := pairs2 h3 (fun t ht => hs t (List.mem_cons_of_mem _ ht))
    exact ⟨⟨s, v, h2, h1, hs s (List.mem_cons_self ..)⟩ :: xs, by simp [k1], by simp [k2]⟩
theorem rel2 {I : Im} {w : World} : ∀ (xs : List (El2 I w)), RelL I w noB ((xs.map (·.l)).map intsD) (xs.map (·.v))
  | [] => by simp only [List.map_nil, RelL]
  | x :: xs => by
    simp only [List.map_cons, RelL]
    exact ⟨_, _, rfl, x.one, x.rel, rel2 xs⟩
theorem swo2 {I : Im} {w : World} : SWO (ltOf fun x y : El2 I w => lcmp x.l y.l) := by
  refine ⟨fun x => ?_, fun x y z h k => ?_, fun x y z h k => ?_⟩
  · simp [ltOf, (lcmp_eq x.l x.l).2 rfl]
  · simp only [ltOf, decide_eq_true_eq] at *
    exact lcmp_tr _ _ _ h k
  · simp only [ltOf, decide_eq_false_iff_not] at *
    have h1 := lcmp_neg x.l y.l
    have h2 := lcmp_neg y.l z.l
    have h3 := lcmp_neg x.l z.l
    have := lcmp_cm.le_tr (a := z.l) (b := y.l) (d := x.l) (by omega) (by omega)
    omega
theorem row_of_rel {I : Im} {w : World} {s : List Int} {v : Value} (h : Rel I w noB (intsD s) v) : ∃ p c, v = .slice p s.length c ∧ RowAt (fun _ => True) w p (s.map (Value.int .i64)) := by
  simp only [Rel] at h
  obtain ⟨a, cap, rfl, h1, h2, h3, h4⟩ := h
  refine ⟨a, cap, rfl, ?_⟩
  rcases h4 with h4 | ⟨b, o, rfl, h4⟩
  · rw [List.map_eq_nil_iff] at h4; exact .inl (by rw [h4]; rfl)
  · refine .inr ⟨b, o, rfl, trivial, fun i hi => ?_⟩
    rw [List.length_map] at hi
    obtain ⟨_, v, k1, k2, k3⟩ := h4.get i (intD s[i]) (by simp [hi])
    simp only [Rel] at k3
    rw [k1, k3]
    simp [List.getD, hi]
theorem pdq_why {st : List Bk} {k n lim : Nat} {e : Bk} {wh : Bool} {l : List (List Int)} (he : st[k]? = some e) (ha : e.arr = true) (hf : e.fz = false) (hc : e.cells = l.map intsD) (hn : l.length = n) (hb : n ≤ 1000000) (hpos : 0 < n) (hlim : lim < 4611686018427387904) (hs : Short 1000000 l) :
    Acts Tryz.prog 127 [.osl k 0 n n wh, .val (.int .i64 (0 : Nat)), .val (.int .i64 n), .val (.int .i64 lim), .clo (.func 111) [] []] st [] (.val (.tuple #[])) (st.set k { e with cells := (sortC lcmp l).map intsD }) := by
  have hsl : (sortC lcmp l).length = n := by rw [(sortC_perm l).length_eq, hn]
  refine acts_rowG (margs := [.val (.int .i64 (0 : Nat)), .val (.int .i64 n), .val (.int .i64 lim), .clo (.func 111) [] []]) (more := [.int .i64 (0 : Nat), .int .i64 n, .int .i64 lim, .func (.func 111) #[] #[]]) (fun I w β vs h => ?_) he ha hf (by rw [hc, List.length_map, hn]) (by rw [List.length_map, hsl]) hpos ?_
  · simp only [RelT, Rel] at h
    obtain ⟨_, _, rfl, rfl, _, _, rfl, rfl, _, _, rfl, rfl, _, _, rfl, ⟨vs, us, rfl, rfl, rfl⟩, rfl⟩ := h
    rfl
  intro I b c w us hi hno hr hcur hcell hfr hcap
  rw [hc] at hr
  obtain ⟨xs, x1, x2⟩ := pairs2 hr hs
  have hxl : xs.length = n := by rw [← hn, ← x1, List.length_map]
  obtain ⟨x0, hx0⟩ : ∃ x0, xs[0]? = some x0 := ⟨xs[0]'(by omega), List.getElem?_eq_getElem (by omega)⟩
  haveI : Inhabited (El2 I w) := ⟨x0⟩
  have hH : Holds (fun x : El2 I w => x.v) w b 0 xs.toArray := fun j hj => by
    have hj' : j < n := by simpa [hxl] using hj
    refine ⟨?_, hfr j hj'⟩
    rw [hcell j hj', ← x2]
    simp [List.getD, hxl, hj']
  obtain ⟨cur, t, hcur⟩ := hcur
  have hblk : b < w.heap.size := by
    rw [Array.getElem?_eq_some_iff] at hcur
    exact hcur.1
  have hone : OneCell fun x : El2 I w => x.v := fun x => x.one
  have hworld : ∀ (m : Nat) (os : Array Obj) (ys : List (El2 I w)), ys.length = n → sortWorld (fun x : El2 I w => x.v) w b 0 m ys.toArray os = grow ((w.drewN m).setCells b 0 (ys.map (·.v))) os := fun m os ys hy => by
    unfold sortWorld
    rw [putRow_eq_setCells (fun x : El2 I w => x.v) w b 0 xs.toArray ys m hH (by simp [hy, hxl])]
  have hfix : ∀ (m : Nat) (os : Array Obj) (dk : Array (El2 I w)), dk.size = n → Fix I w I (sortWorld (fun x : El2 I w => x.v) w b 0 m dk os) := fun m os dk hd => by
    have e1 := hworld m os dk.toList (by simpa using hd)
    simp only [Array.toArray_toList] at e1
    rw [e1]
    obtain ⟨s1, s2, s3, s4, s5, s6⟩ := setCells_heap b t (dk.toList.map (·.v)) 0 (w.drewN m) cur.toList (by simpa using hcur)
    intro b' o' hb'
    refine ⟨hb', fun v hv => ?_⟩
    have hne : b' ≠ b := fun e => hno o' (e ▸ hb')
    have hlt := hi b' o' hb'
    simp only [World.cell?] at hv ⊢
    rw [grow_heap _ os (by rw [s3]; exact hlt), s2 b' hne]
    exact hv
  have hcmp : CmpLays1 Tryz.prog 111 #[] (fun x : El2 I w => x.v) (fun x y => lcmp x.l y.l) b 0 xs.toArray.size w := by
    intro m os dk hd x y
    have hd' : dk.size = n := by simpa [hxl] using hd
    obtain ⟨p, c1, ex, rx⟩ := row_of_rel (Rel.mono (hfix m os dk hd') noB noB (BeLe.refl _) _ _ x.rel)
    obtain ⟨q, c2, ey, ry⟩ := row_of_rel (Rel.mono (hfix m os dk hd') noB noB (BeLe.refl _) _ _ y.rel)
    have lx := x.len
    have ly := y.len
    have := scompare_walk x.l y.l p q c1 c2 _ rx ry (by omega) (by omega)
    rw [← ex, ← ey] at this
    refine this.mono ?_
    rintro e' w' ⟨rfl, rfl⟩
    exact ⟨rfl, 0, #[], by rw [grow_empty]; rfl⟩
  have hsz : xs.toArray.size = n := by simp [hxl]
  have main := Tryz.pdqsortCmpFunc_all (fun x : El2 I w => x.v) (fun x y => lcmp x.l y.l) 111 #[] swo2 b 0 c xs.toArray w (enters_of Tryz.func111 (by kernel_rfl) rfl) hcmp ⟨hone, hH, hblk⟩ (n + 1) 0 n lim xs.toArray w (by omega) rfl (SW.start hH) (Nat.zero_le _) (by omega) (by omega) hlim (.inl rfl)
  rw [hsz] at main
  refine main.mono ?_
  rintro x w' ⟨rfl, q, os, rfl⟩
  obtain ⟨hp, hso⟩ := pdq_sorts (ltOf fun x y : El2 I w => lcmp x.l y.l) swo2 xs.toArray 0 n lim true true (Nat.zero_le _) (by omega) (.inl rfl)
  generalize pdq (ltOf fun x y : El2 I w => lcmp x.l y.l) xs.toArray 0 n lim true true = d' at *
  have hd' : d'.size = n := by rw [hp.1, hsz]
  have hperm : d'.toList.Perm xs := by
    have := hp.2.2
    rw [show d'.extract 0 n = d' by rw [← hd']; exact Array.extract_size, show xs.toArray.extract 0 n = xs.toArray by rw [← hsz]; exact Array.extract_size] at this
    simpa using this
  have hl2 : d'.toList.map (·.l) = sortC lcmp l := by
    refine sortC_uniq lcmp_cm ?_ ?_
    · rw [← x1]; exact hperm.map _
    · rw [List.pairwise_map]
      rw [List.pairwise_iff_getElem]
      intro i j hi' hj' hij
      have hi2 : i < d'.size := by simpa using hi'
      have hj2 : j < d'.size := by simpa using hj'
      have := hso i j (Nat.zero_le _) hij (by omega)
      rw [getElem!_pos d' j hj2, getElem!_pos d' i hi2] at this
      simpa [ltOf] using this
  refine ⟨rfl, d'.toList.map (·.v), q, os, ?_, ?_⟩
  · have := hworld q os d'.toList (by simpa using hd')
    simp only [Array.toArray_toList] at this
    rw [this]
  · rw [← hl2]; exact rel2 _
end Go.Proofs.YtgbhoceamcomfaaGreat

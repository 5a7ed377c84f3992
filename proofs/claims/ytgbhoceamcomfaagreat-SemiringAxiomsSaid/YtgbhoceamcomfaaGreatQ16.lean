/- Texts of this claim, joined: Sc So Dq -/
import Derived.Test.YtgbhoceamcomfaaGreatQ15
import Derived.Test.YtgbhoceamcomfaaGreatShelf
import Derived.Lib.RowBridge
import Derived.Sort.AssemblyPlain
namespace Go.Proofs.YtgbhoceamcomfaaGreat
open Go.RowKit
set_option linter.unusedVariables false
set_option linter.unusedSimpArgs false
theorem cmpInt_cases (x y : Int) : (x < y ∧ Lib.compareInt x y = -1) ∨ (x = y ∧ Lib.compareInt x y = 0) ∨ (y < x ∧ Lib.compareInt x y = 1) := by
  unfold Lib.compareInt
  by_cases h1 : x < y
  · exact .inl ⟨h1, by simp [h1]⟩
  · by_cases h2 : y < x
    · exact .inr (.inr ⟨h2, by simp [h1, h2]⟩)
    · exact .inr (.inl ⟨by omega, by simp [h1, h2]⟩)
theorem lc_step {a b : List Int} {i : Nat} (ha : i < a.length) (hb : i < b.length) : lcmp (a.drop i) (b.drop i) = if a.getD i 0 < b.getD i 0 then -1 else if b.getD i 0 < a.getD i 0 then 1 else lcmp (a.drop (i + 1)) (b.drop (i + 1)) := by
  rw [List.drop_eq_getElem_cons ha, List.drop_eq_getElem_cons hb]
  simp [lcmp, ha, hb]
theorem lc_end1 {a b : List Int} {i : Nat} (ha : i < a.length) (hb : b.length ≤ i) : lcmp (a.drop i) (b.drop i) = 1 := by
  rw [List.drop_eq_getElem_cons ha, List.drop_of_length_le hb]; rfl
theorem lc_end2 {a b : List Int} {i : Nat} (ha : a.length ≤ i) (hb : i < b.length) : lcmp (a.drop i) (b.drop i) = -1 := by
  rw [List.drop_eq_getElem_cons hb, List.drop_of_length_le ha]; rfl
theorem lc_end3 {a b : List Int} {i : Nat} (ha : a.length ≤ i) (hb : b.length ≤ i) : lcmp (a.drop i) (b.drop i) = 0 := by
  rw [List.drop_of_length_le ha, List.drop_of_length_le hb]; rfl
theorem cells_int {w : World} {p : Option Addr} {a : List Int} (h : RowAt (fun _ => True) w p (a.map (Value.int .i64))) {i : Nat} (hi : i < a.length) : ∃ b o, p = some ⟨b, o, none⟩ ∧ w.cell? ⟨b, o + i, none⟩ = some (.int .i64 (a.getD i 0)) := by
  rcases h with h | ⟨b, o, rfl, _, h⟩
  · rw [List.map_eq_nil_iff] at h; subst h; simp at hi
  · refine ⟨b, o, rfl, ?_⟩
    rw [h i (by simpa using hi)]
    simp [List.getD, hi]
set_option maxHeartbeats 1000000 in
theorem scompare_walk (a b : List Int) (p q : Option Addr) (c d : Nat) (w : World) (ha : RowAt (fun _ => True) w p (a.map (Value.int .i64))) (hb : RowAt (fun _ => True) w q (b.map (Value.int .i64))) (la : a.length ≤ 9223372036854775807) (lb : b.length ≤ 9223372036854775807) :
    Calls Tryz.prog 111 #[.slice p a.length c, .slice q b.length d] w fun e w' => e = .returned (.int .i64 (lcmp a b)) ∧ w' = w := by
  have H1 := Lib.hid ha
  have H2 := Lib.hid hb
  clear ha hb
  go_enter Tryz.func111, Tryz.ntmps111
  go_wp2_with fail
  go_loopw [11] (fun iv wr => ∃ i : Nat, i ≤ a.length ∧ i ≤ b.length ∧ iv = .int .i64 i ∧ Hid (lcmp (a.drop i) (b.drop i) = lcmp a b) ∧ wr = w) (fun iv _ => a.length - (intOf iv).toNat)
  case atStart => exact ⟨0, Nat.zero_le _, Nat.zero_le _, rfl, Lib.hid (by simp), rfl⟩
  case round =>
    obtain ⟨i, h1, h2, rfl, HD, rfl⟩ := hrel
    by_cases h3 : i < a.length
    · obtain ⟨b1, o1, rfl, hc1⟩ := cells_int H1.out h3
      by_cases h4 : i < b.length
      · obtain ⟨b2, o2, rfl, hc2⟩ := cells_int H2.out h4
        have HS := Lib.hid (HD.out.symm.trans (lc_step h3 h4))
        generalize hx : a.getD i 0 = x at *
        generalize hy : b.getD i 0 = y at *
        have HX := Lib.hid (And.intro hx hy)
        clear hx hy
        rcases cmpInt_cases x y with ⟨h5, h6⟩ | ⟨h5, h6⟩ | ⟨h5, h6⟩
        · have HC := Lib.hid h5
          clear h5
          go_wp2_with (go_at_call 99; refine (Tryz.cmp_Compare_int _ _ _).mono ?_; rintro e w' ⟨rfl, rfl⟩; rw [h6])
          go_ret
          exact ⟨by rw [HS.out, if_pos HC.out]; rfl, rfl⟩
        · have HC := Lib.hid h5
          clear h5
          go_wp2_with (go_at_call 99; refine (Tryz.cmp_Compare_int _ _ _).mono ?_; rintro e w' ⟨rfl, rfl⟩; rw [h6])
          go_roundw
          case rel => exact ⟨i + 1, by omega, by omega, by simp, Lib.hid (by rw [HS.out, if_neg (by have := HC.out; omega), if_neg (by have := HC.out; omega)]), by first | rfl | trivial⟩
          case measure => simp [intOf]; omega
        · have HC := Lib.hid h5
          clear h5
          go_wp2_with (go_at_call 99; refine (Tryz.cmp_Compare_int _ _ _).mono ?_; rintro e w' ⟨rfl, rfl⟩; rw [h6])
          go_ret
          exact ⟨by rw [HS.out, if_neg (by have := HC.out; omega), if_pos HC.out]; rfl, rfl⟩
      · have HS := Lib.hid (HD.out.symm.trans (lc_end1 h3 (by omega)))
        go_wp2_with fail
        go_ret
        exact ⟨by rw [HS.out]; rfl, rfl⟩
    · by_cases h4 : i < b.length
      · have HS := Lib.hid (HD.out.symm.trans (lc_end2 (by omega) h4))
        go_wp2_with fail
        go_ret
        exact ⟨by rw [HS.out]; rfl, rfl⟩
      · have HS := Lib.hid (HD.out.symm.trans (lc_end3 (a := a) (b := b) (i := i) (by omega) (by omega)))
        go_wp2_with fail
        go_ret
        exact ⟨by rw [HS.out]; rfl, rfl⟩
end Go.Proofs.YtgbhoceamcomfaaGreat
namespace Go.Proofs.YtgbhoceamcomfaaGreat
open Go.RowKit Go.Sort Go.Lib Go.Shelf
set_option linter.unusedVariables false
set_option linter.unusedSimpArgs false
section
variable {P : Program} {I : Im} {w : World} {β : Be} {sl : List D} {st : List Bk} {tm : List Value}
theorem grow_heap (w : World) (os : Array Obj) {b : Nat} (h : b < w.heap.size) : (grow w os).heap[b]? = w.heap[b]? := by
  simp [grow, Array.getElem?_append_left h]
theorem Fix.grow (hi : ImB I w) (os : Array Obj) : Fix I w I (grow w os) := fun b o h => ⟨h, fun v hv => by
  simp only [World.cell?] at hv ⊢
  rw [grow_heap w os (hi b o h)]; exact hv⟩
theorem Sim.grow (h : Sim β I w sl st tm) (os : Array Obj) : Sim β I (grow w os) sl st tm := by
  have hf := Fix.grow h.imb os
  refine ⟨RelT.mono hf β β (BeLe.refl _) _ _ h.rel, fun k b c hk => ?_, h.inj, h.fz, h.dom, fun b o hb => ?_⟩
  · obtain ⟨e, h1, h2⟩ := h.sr k b c hk
    exact ⟨e, h1, h2.mono (grow_heap w os h2.lt) hf (BeLe.refl _)⟩
  · have := h.imb b o hb
    simp [Go.Sort.grow]; omega
theorem Stp.grow (hi : ImB I w) (β : Be) (os : Array Obj) : Stp β I w β I (grow w os) := ⟨Fix.grow hi os, by simp [Go.Sort.grow], fun b hb _ => grow_heap w os hb, rfl, rfl, rfl, fun k b c h => .inl ⟨k, c, h⟩, fun _ _ h => .inl h⟩
theorem setAt_all : ∀ (xs ys pre : List D), xs.length = ys.length → setAt (pre ++ xs) pre.length ys = pre ++ ys
  | xs, [], pre, hl => by
    obtain rfl : xs = [] := List.eq_nil_of_length_eq_zero (by simpa using hl)
    rfl
  | [], y :: ys, pre, hl => by simp at hl
  | x :: xs, y :: ys, pre, hl => by
    simp only [setAt]
    have e1 : (pre ++ x :: xs).set pre.length y = (pre ++ [y]) ++ xs := by simp
    rw [e1]
    have := setAt_all xs ys (pre ++ [y]) (by simpa using hl)
    simp only [List.length_append, List.length_cons, List.length_nil] at this
    rw [this]; simp
theorem acts_rowG {f : FuncId} {k n : Nat} {e : Bk} {wh : Bool} {ds' : List D} {margs : List D} {more : List Value} (hmore : ∀ I w β vs, RelT I w β margs vs → vs = more) (he : st[k]? = some e) (ha : e.arr = true) (hf : e.fz = false) (hlen : e.cells.length = n) (hl' : ds'.length = n) (hpos : 0 < n)
    (h : ∀ (I : Im) b c w us, ImB I w → (∀ j, ¬ I b j) → RelL I w noB e.cells us → (∃ cur t, w.heap[b]? = some (.cells cur t (0, 0))) → (∀ j, j < n → w.cell? ⟨b, 0 + j, none⟩ = some (us.getD j undef)) → (∀ j, j < n → w.frozen? ⟨b, 0 + j, none⟩ = false) → n ≤ c → Calls P f (#[.slice (some ⟨b, 0, none⟩) n c] ++ more.toArray) w fun x w' => x = .returned (.tuple #[]) ∧ ∃ vs q os, w' = grow ((w.drewN q).setCells b 0 vs) os ∧ RelL I w noB ds' vs) :
    Acts P f (.osl k 0 n n wh :: margs) st [] (.val (.tuple #[])) (st.set k { e with cells := ds' }) := by
  intro β I w xs hr hsr hinj hfz hdom hi
  simp only [RelT] at hr
  obtain ⟨v, ys, rfl, hr, hys⟩ := hr
  obtain rfl := hmore _ _ _ _ hys
  simp only [Rel] at hr
  rcases hr with ⟨e0, _, rfl⟩ | ⟨e0, _, _, a, c, rfl, _⟩ | ⟨b, c, cap, hb, rfl, k1, k2, k3⟩
  · omega
  · omega
  have hs0 : Sim β I w ([] : List D) st ({ tmps := #[], defers := [] } : Act).tmps.toList := ⟨by simp only [RelT], hsr, hinj, hfz, hdom, hi⟩
  obtain ⟨e', he', cur, c1, c2, c3, c4⟩ := hsr k b c hb
  rw [he] at he'; cases he'
  rw [ha] at c3
  simp only [if_true] at c3
  have hno : ∀ j, ¬ I b j := fun j hij => by
    have := (hfz k b c j e hb he hij).1
    rw [hf] at this; cases this
  have hpre := (hs0.put (off := 0) (cs := e.cells) (vs := cur.take e.cells.length) (ks := []) hb he hf (by simp) (by rw [ha]; simp only [if_true]; exact RelL.mono (fixI_le _) _ _ (BeLe.refl _) _ _ c3) (by simp) none undef).2.2
  have hlc : (cur.take e.cells.length).length = n := by rw [← c3.length]; exact hlen
  have e1 : (#[Value.slice (some ⟨b, 0, none⟩) n cap] ++ ys.toArray) = (Value.slice (some ⟨b, 0, none⟩) n cap :: ys).toArray := by apply Array.ext'; simp
  rw [← e1]
  refine (h I b cap w (cur.take e.cells.length) hi hno c3 ⟨_, _, c1⟩ (fun j hj => ?_) (fun j hj => (hpre j (by omega)).2) k1).mono ?_
  · have hlt : j < cur.length := by rw [List.length_take] at hlc; omega
    rw [List.getD_eq_getElem?_getD, List.getElem?_take, if_pos (by omega), List.getElem?_eq_getElem hlt]
    simp [World.cell?, c1, hlt]
  · rintro x w' ⟨rfl, vs, q, os, rfl, hvs⟩
    have hvs' : RelL (fixI I β st []) (w.drewN q) (if e.arr then noB else β) ds' vs := by
      rw [ha]; simp only [if_true]
      exact RelL.mono ((Fix.drew I w q).trans (fixI_le [])) _ _ (BeLe.refl _) _ _ hvs
    obtain ⟨s1, s2, s3⟩ := (hs0.drew q).put (off := 0) (cs := ds') (vs := vs) (ks := []) hb he hf (by simp) hvs' (by omega) none undef
    have hset2 : setAt e.cells 0 ds' = ds' := setAt_all e.cells ds' [] (by omega)
    rw [hset2] at s1
    have s4 := s1.grow os
    exact ⟨_, β, _, rfl, s4.imb, (Stp.drew β I w q).trans (s2.trans (Stp.grow s1.imb β os)), fun _ _ _ h => h, s4.sr, s4.inj, s4.fz, s4.dom, by simp only [Rel]⟩
theorem acts_row0 {f : FuncId} {k : Nat} {wh : Bool} (h0 : ∀ a c w, Calls P f #[.slice a 0 c] w fun x w' => x = .returned (.tuple #[]) ∧ w' = w) : Acts P f [.osl k 0 0 0 wh] st [] (.val (.tuple #[])) st := by
  intro β I w xs hr hsr hinj hfz hdom hi
  simp only [RelT] at hr
  obtain ⟨v, ys, rfl, hr, rfl⟩ := hr
  have : ∃ a c, v = .slice a 0 c := by
    simp only [Rel] at hr
    rcases hr with ⟨_, _, rfl⟩ | ⟨_, _, _, a, c, rfl, _⟩ | ⟨b, c, cap, hb, rfl, _⟩
    · exact ⟨none, 0, rfl⟩
    · exact ⟨a, c, rfl⟩
    · exact ⟨_, _, rfl⟩
  obtain ⟨a, c, rfl⟩ := this
  refine (h0 a c w).mono ?_
  rintro x w' ⟨rfl, rfl⟩
  exact ⟨_, β, I, rfl, hi, Stp.refl _ _ _, fun _ _ _ h => h, hsr, hinj, hfz, hdom, by simp only [Rel]⟩
end
def sortC {α : Type} (c : α → α → Int) (l : List α) : List α := l.mergeSort fun a b => decide (c a b ≤ 0)
section
variable {α : Type} {c : α → α → Int}
theorem sortC_perm (l : List α) : (sortC c l).Perm l := List.mergeSort_perm _ _
theorem Cm.le_tr (hc : Cm c) {a b d : α} (h : c a b ≤ 0) (k : c b d ≤ 0) : c a d ≤ 0 := by
  by_cases e1 : c a b = 0
  · rw [(hc.eq a b).1 e1]; exact k
  · by_cases e2 : c b d = 0
    · rw [← (hc.eq b d).1 e2]; exact h
    · have := hc.tr a b d (by omega) (by omega); omega
theorem sortC_sorted (hc : Cm c) (l : List α) : (sortC c l).Pairwise fun a b => ¬ c b a < 0 := by
  have := List.pairwise_mergeSort (le := fun a b => decide (c a b ≤ 0)) (fun a b d h k => by
    simp only [decide_eq_true_eq] at *; exact hc.le_tr h k) (fun a b => by
    have := hc.neg a b
    simp only [Bool.or_eq_true, decide_eq_true_eq]; omega) l
  refine this.imp fun {a b} h => ?_
  have := hc.neg a b
  simp only [decide_eq_true_eq] at h
  omega
theorem sortC_uniq (hc : Cm c) {l m : List α} (hp : m.Perm l) (hs : m.Pairwise fun a b => ¬ c b a < 0) : m = sortC c l := by
  refine List.Perm.eq_of_pairwise (le := fun a b => ¬ c b a < 0) (fun a b _ _ h k => ?_) hs (sortC_sorted hc l) (hp.trans (sortC_perm l).symm)
  have := hc.neg a b
  exact (hc.eq a b).1 (by omega)
theorem ddG_sort [DecidableEq α] (hc : Cm c) (l : List α) : ddG (sortC c l) = setG c l := by
  rw [ddG_sorted hc (sortC_sorted hc l)]
  exact setG_congr hc fun z => (sortC_perm l).mem_iff
end
theorem sortC_int (l : List Int) : sortC icmp l = l.mergeSort fun x y => decide (x ≤ y) := by
  unfold sortC
  congr 1
  funext a b
  unfold icmp
  (repeat' split) <;> simp <;> omega
theorem ints_vals (zs : List Int) : zs.map intD = (zs.map (Value.int .i64)).map .val := by simp
theorem sort_ints {st : List Bk} {k n : Nat} {e : Bk} {wh : Bool} {zs : List Int} (he : st[k]? = some e) (ha : e.arr = true) (hf : e.fz = false) (hc : e.cells = zs.map intD) (hn : zs.length = n) (hb : n ≤ 1000000) :
    Acts Tryz.prog 108 [.osl k 0 n n wh] st [] (.val (.tuple #[])) (st.set k { e with cells := (sortC icmp zs).map intD }) := by
  have hsl : (sortC icmp zs).length = n := by rw [(sortC_perm zs).length_eq, hn]
  rcases Nat.eq_zero_or_pos n with h0 | hpos
  · subst h0
    obtain rfl : zs = [] := List.eq_nil_of_length_eq_zero hn
    have e1 : ({ e with cells := (sortC icmp []).map intD } : Bk) = e := by
      rw [show (sortC icmp ([] : List Int)) = [] by rw [sortC_int]; simp, ← hc]
    rw [e1]
    have e2 : st.set k e = st := by
      apply List.ext_getElem?
      intro j
      rw [List.getElem?_set]
      split
      · rename_i ej; subst ej
        rw [he, if_pos (List.getElem?_eq_some_iff.1 he).1]
      · rfl
    rw [e2]
    exact acts_row0 fun a c w => Tryz.slices_Sort_int_none a c w
  · refine acts_rowG (margs := []) (more := []) (fun _ _ _ _ h => by simpa only [RelT] using h) he ha hf (by rw [hc, List.length_map, hn]) (by rw [List.length_map, hsl]) hpos ?_
    intro I b c w us hi hno hr hcur hcell hfr hcap
    rw [hc, ints_vals] at hr
    obtain rfl := relL_vals hr
    have hH : Holds (Value.int .i64) w b 0 zs.toArray := fun j hj => by
      have hj' : j < n := by simpa [hn] using hj
      refine ⟨?_, hfr j hj'⟩
      rw [hcell j hj']
      simp [List.getD, hn, hj']
    have hblk : b < w.heap.size := by
      obtain ⟨cur, t, h⟩ := hcur
      rw [Array.getElem?_eq_some_iff] at h
      exact h.1
    have := Tryz.slices_Sort_int b 0 c zs w hH hblk (by omega)
    rw [hn] at this
    refine this.mono ?_
    rintro x w' ⟨rfl, q, os, rfl⟩
    refine ⟨rfl, (sortC icmp zs).map (Value.int .i64), q, os, ?_, ?_⟩
    · rw [← sortC_int, putRow_eq_setCells (Value.int .i64) w b 0 zs.toArray (sortC icmp zs) q hH (by simp [hsl, hn])]
    · rw [ints_vals]
      exact relL_of_vals fun v hv => by obtain ⟨z, _, rfl⟩ := List.mem_map.1 hv; rfl
structure El2 (I : Im) (w : World) where
  l : List Int
  v : Value
  rel : Rel I w noB (intsD l) v
  one : v.oneCell' = true
  len : l.length ≤ 1000000
theorem pairs2 {I : Im} {w : World} : ∀ {l : List (List Int)} {us : List Value}, RelL I w noB (l.map intsD) us → Short 1000000 l → ∃ xs : List (El2 I w), xs.map (·.l) = l ∧ xs.map (·.v) = us
  | [], us, h, _ => by
    simp only [List.map_nil, RelL] at h
    exact ⟨[], rfl, by simp [h]⟩
  | s :: l, us, h, hs => by
    simp only [List.map_cons, RelL] at h
    obtain ⟨v, us, rfl, h1, h2, h3⟩ := h
    obtain ⟨xs, k1, k2⟩ := pairs2 h3 (fun t ht => hs t (List.mem_cons_of_mem _ ht))
    exact ⟨⟨s, v, h2, h1, hs s (List.mem_cons_self ..)⟩ :: xs, by simp [k1], by simp [k2]⟩
theorem rel2 {I : Im} {w : World} : ∀ (xs : List (El2 I w)), RelL I w noB ((xs.map (·.l)).map intsD) (xs.map (·.v))
  | [] => by simp only [List.map_nil, RelL]
  | x :: xs => by
    simp only [List.map_cons, RelL]
    exact ⟨_, _, rfl, x.one, x.rel, rel2 xs⟩
theorem swo2 {I : Im} {w : World} : SWO (ltOf fun x y : El2 I w => lcmp x.l y.l) := by
  refine ⟨fun x => ?_, fun x y z h k => ?_, fun x y z h k => ?_⟩
  · simp [ltOf, (lcmp_eq x.l x.l).2 rfl]
  · simp only [ltOf, decide_eq_true_eq] at *
    exact lcmp_tr _ _ _ h k
  · simp only [ltOf, decide_eq_false_iff_not] at *
    have h1 := lcmp_neg x.l y.l
    have h2 := lcmp_neg y.l z.l
    have h3 := lcmp_neg x.l z.l
    have := lcmp_cm.le_tr (a := z.l) (b := y.l) (d := x.l) (by omega) (by omega)
    omega
theorem row_of_rel {I : Im} {w : World} {s : List Int} {v : Value} (h : Rel I w noB (intsD s) v) : ∃ p c, v = .slice p s.length c ∧ RowAt (fun _ => True) w p (s.map (Value.int .i64)) := by
  simp only [Rel] at h
  obtain ⟨a, cap, rfl, h1, h2, h3, h4⟩ := h
  refine ⟨a, cap, rfl, ?_⟩
  rcases h4 with h4 | ⟨b, o, rfl, h4⟩
  · rw [List.map_eq_nil_iff] at h4; exact .inl (by rw [h4]; rfl)
  · refine .inr ⟨b, o, rfl, trivial, fun i hi => ?_⟩
    rw [List.length_map] at hi
    obtain ⟨_, v, k1, k2, k3⟩ := h4.get i (intD s[i]) (by simp [hi])
    simp only [Rel] at k3
    rw [k1, k3]
    simp [List.getD, hi]
theorem pdq_why {st : List Bk} {k n lim : Nat} {e : Bk} {wh : Bool} {l : List (List Int)} (he : st[k]? = some e) (ha : e.arr = true) (hf : e.fz = false) (hc : e.cells = l.map intsD) (hn : l.length = n) (hb : n ≤ 1000000) (hpos : 0 < n) (hlim : lim < 4611686018427387904) (hs : Short 1000000 l) :
    Acts Tryz.prog 127 [.osl k 0 n n wh, .val (.int .i64 (0 : Nat)), .val (.int .i64 n), .val (.int .i64 lim), .clo (.func 111) [] []] st [] (.val (.tuple #[])) (st.set k { e with cells := (sortC lcmp l).map intsD }) := by
  have hsl : (sortC lcmp l).length = n := by rw [(sortC_perm l).length_eq, hn]
  refine acts_rowG (margs := [.val (.int .i64 0), .val (.int .i64 n), .val (.int .i64 lim), .clo (.func 111) [] []]) (more := [.int .i64 0, .int .i64 n, .int .i64 lim, .func (.func 111) #[] #[]]) (fun I w β vs h => ?_) he ha hf (by rw [hc, List.length_map, hn]) (by rw [List.length_map, hsl]) hpos ?_
  · simp only [RelT, Rel] at h
    obtain ⟨_, _, rfl, rfl, _, _, rfl, rfl, _, _, rfl, rfl, _, _, rfl, ⟨vs, us, rfl, rfl, rfl⟩, rfl⟩ := h
    rfl
  intro I b c w us hi hno hr hcur hcell hfr hcap
  rw [hc] at hr
  obtain ⟨xs, x1, x2⟩ := pairs2 hr hs
  have hxl : xs.length = n := by rw [← hn, ← x1, List.length_map]
  obtain ⟨x0, hx0⟩ : ∃ x0, xs[0]? = some x0 := ⟨xs[0]'(by omega), List.getElem?_eq_getElem (by omega)⟩
  haveI : Inhabited (El2 I w) := ⟨x0⟩
  have hH : Holds (fun x : El2 I w => x.v) w b 0 xs.toArray := fun j hj => by
    have hj' : j < n := by simpa [hxl] using hj
    refine ⟨?_, hfr j hj'⟩
    rw [hcell j hj', ← x2]
    simp [List.getD, hxl, hj']
  obtain ⟨cur, t, hcur⟩ := hcur
  have hblk : b < w.heap.size := by
    rw [Array.getElem?_eq_some_iff] at hcur
    exact hcur.1
  have hone : OneCell fun x : El2 I w => x.v := fun x => x.one
  have hworld : ∀ (m : Nat) (os : Array Obj) (ys : List (El2 I w)), ys.length = n → sortWorld (fun x : El2 I w => x.v) w b 0 m ys.toArray os = grow ((w.drewN m).setCells b 0 (ys.map (·.v))) os := fun m os ys hy => by
    unfold sortWorld
    rw [putRow_eq_setCells (fun x : El2 I w => x.v) w b 0 xs.toArray ys m hH (by simp [hy, hxl])]
  have hfix : ∀ (m : Nat) (os : Array Obj) (dk : Array (El2 I w)), dk.size = n → Fix I w I (sortWorld (fun x : El2 I w => x.v) w b 0 m dk os) := fun m os dk hd => by
    have e1 := hworld m os dk.toList (by simpa using hd)
    simp only [Array.toArray_toList] at e1
    rw [e1]
    obtain ⟨s1, s2, s3, s4, s5, s6⟩ := setCells_heap b t (dk.toList.map (·.v)) 0 (w.drewN m) cur.toList (by simpa using hcur)
    intro b' o' hb'
    refine ⟨hb', fun v hv => ?_⟩
    have hne : b' ≠ b := fun e => hno o' (e ▸ hb')
    have hlt := hi b' o' hb'
    simp only [World.cell?] at hv ⊢
    rw [grow_heap _ os (by rw [s3]; exact hlt), s2 b' hne]
    exact hv
  have hcmp : CmpLays1 Tryz.prog 111 #[] (fun x : El2 I w => x.v) (fun x y => lcmp x.l y.l) b 0 xs.toArray.size w := by
    intro m os dk hd x y
    have hd' : dk.size = n := by simpa [hxl] using hd
    obtain ⟨p, c1, ex, rx⟩ := row_of_rel (Rel.mono (hfix m os dk hd') noB noB (BeLe.refl _) _ _ x.rel)
    obtain ⟨q, c2, ey, ry⟩ := row_of_rel (Rel.mono (hfix m os dk hd') noB noB (BeLe.refl _) _ _ y.rel)
    have lx := x.len
    have ly := y.len
    have := scompare_walk x.l y.l p q c1 c2 _ rx ry (by omega) (by omega)
    rw [← ex, ← ey] at this
    refine this.mono ?_
    rintro e' w' ⟨rfl, rfl⟩
    exact ⟨rfl, 0, #[], by rw [grow_empty]; rfl⟩
  have hsz : xs.toArray.size = n := by simp [hxl]
  have main := Tryz.pdqsortCmpFunc_all (fun x : El2 I w => x.v) (fun x y => lcmp x.l y.l) 111 #[] swo2 b 0 c xs.toArray w (enters_of Tryz.func111 (by kernel_rfl) rfl) hcmp ⟨hone, hH, hblk⟩ (n + 1) 0 n lim xs.toArray w (by omega) rfl (SW.start hH) (Nat.zero_le _) (by omega) (by omega) hlim (.inl rfl)
  rw [hsz] at main
  refine main.mono ?_
  rintro x w' ⟨rfl, q, os, rfl⟩
  obtain ⟨hp, hso⟩ := pdq_sorts (ltOf fun x y : El2 I w => lcmp x.l y.l) swo2 xs.toArray 0 n lim true true (Nat.zero_le _) (by omega) (.inl rfl)
  generalize pdq (ltOf fun x y : El2 I w => lcmp x.l y.l) xs.toArray 0 n lim true true = d' at *
  have hd' : d'.size = n := by rw [hp.1, hsz]
  have hperm : d'.toList.Perm xs := by
    have := hp.2.2
    rw [show d'.extract 0 n = d' by rw [← hd']; exact Array.extract_size, show xs.toArray.extract 0 n = xs.toArray by rw [← hsz]; exact Array.extract_size] at this
    simpa using this
  have hl2 : d'.toList.map (·.l) = sortC lcmp l := by
    refine sortC_uniq lcmp_cm ?_ ?_
    · rw [← x1]; exact hperm.map _
    · rw [List.pairwise_map]
      rw [List.pairwise_iff_getElem]
      intro i j hi' hj' hij
      have hi2 : i < d'.size := by simpa using hi'
      have hj2 : j < d'.size := by simpa using hj'
      have := hso i j (Nat.zero_le _) hij (by omega)
      rw [getElem!_pos d' j hj2, getElem!_pos d' i hi2] at this
      simpa [ltOf] using this
  refine ⟨rfl, d'.toList.map (·.v), q, os, ?_, ?_⟩
  · have := hworld q os d'.toList (by simpa using hd')
    simp only [Array.toArray_toList] at this
    rw [this]
  · rw [← hl2]; exact rel2 _
end Go.Proofs.YtgbhoceamcomfaaGreat
namespace Go.Proofs.YtgbhoceamcomfaaGreat
open Go.RowKit
attribute [local irreducible] seqW awp thenW nextW blockW Weak updS deadS retL Pure Acts
set_option linter.unusedVariables false
set_option linter.unusedSimpArgs false
set_option maxRecDepth 4096
theorem getD_get {α : Type} {l : List α} {i : Nat} (d : α) (h : i < l.length) : l.getD i d = l[i] := by rw [List.getD_eq_getElem?_getD, List.getElem?_eq_getElem h]; rfl
theorem take_eq_step {α : Type} {a b : List α} {i : Nat} (d : α) (ha : i < a.length) (hb : i < b.length) (h : a.take i = b.take i) (k : a.getD i d = b.getD i d) : a.take (i + 1) = b.take (i + 1) := by
  rw [List.take_succ_eq_append_getElem ha, List.take_succ_eq_append_getElem hb, h, ← getD_get d ha, ← getD_get d hb, k]
set_option maxHeartbeats 1000000 in
theorem sequal_c (a b : List Int) (n m : Nat) (hn : a.length = n) (hm : b.length = m) (ha : n ≤ 1000000) (hb : m ≤ 1000000) : Pure Tryz.prog 70 [.row (a.map intD) n, .row (b.map intD) m] [] (bD (decide (a = b))) := by
  subst hn hm
  refine pure_of_awp Tz_ok mixed Tryz.func70 rfl ?_
  focus
    refine awp_seq (awp_region rfl ?_)
    refine st_end0 [] [] [] (True) [(4, bD false)] (by kernel_rfl) trivial ?_
    refine awp_seq (awp_seq (awp_region rfl ?_))
    refine st_end0 [] [] [6, 7, 8, 9] (True) [(10, bD ((↑(List.length a) : Int) != (↑(List.length b) : Int)))] (by kernel_rfl) trivial ?_
    refine awp_cond (t := (↑(List.length a) : Int) != (↑(List.length b) : Int)) (by kernel_rfl) (fun hc => ?_) (fun hc => ?_)
    simp only [bne_iff_ne] at hc
    refine awp_seq (awp_region rfl ?_)
    refine st_end0 [] [] [10] (True) [] (by kernel_rfl) trivial ?_
    refine awp_ret (then_ret ?_)
    refine ret_run (True) (bD false) (D.val (Value.bool false)) (.inr rfl) (by kernel_rfl) trivial rfl ?_
    rotate_left
    simp only [bne_eq_false_iff_eq] at hc
    refine awp_skip (then_normal (next_same (awp_seq (awp_seq (awp_region rfl ?_)))))
    refine st_end0 [] [] [10, 11] (True) [(12, iD (↑(List.length a) : Int)), (13, iD 0)] (by kernel_rfl) trivial ?_
    refine awp_block ?_
    rotate_left
  · congr 2
    symm
    rw [decide_eq_false_iff_not]
    intro h
    have := congrArg List.length h
    omega
  refine awp_loop1 (fun (i : Nat) => [intsD a, intsD b, U, U, U, U, U, U, U, U, U, U, iD (↑(List.length a) : Int), iD (↑i : Int), U, U, U, U, U, U, U, U, U, U, U, U]) (fun i => []) (fun i => a.length - i) (fun i => i ≤ a.length ∧ a.take i = b.take i) 0 ?_ ?_ ?_
  · exact ⟨by omega, by simp⟩
  · refine weak_run [(0, 1), (1, 1), (12, 1), (13, 1)] (intsD a = intsD a ∧ intsD b = intsD b ∧ iD (↑(List.length a) : Int) = iD (↑(List.length a) : Int) ∧ iD 0 = iD (↑(0 : Nat) : Int)) 0 [] (by kernel_rfl) ⟨rfl, rfl, rfl, (by kernel_rfl)⟩ (by kernel_rfl) (fun _ _ => rfl) (by kernel_rfl)
  rintro i ⟨k1, k2⟩
  focus
    refine awp_seq (awp_region rfl ?_)
    refine st_end0 [] [] [] (True) [(14, bD (decide ((↑i : Int) < (↑(List.length a) : Int))))] (by kernel_rfl) trivial ?_
    refine awp_seq ?_
    refine awp_cond (t := decide ((↑i : Int) < (↑(List.length a) : Int))) (by kernel_rfl) (fun hc => ?_) (fun hc => ?_)
    simp only [decide_eq_true_eq] at hc
    refine awp_skip (then_normal (next_same (awp_seq (awp_block (awp_seq (awp_region rfl ?_))))))
    refine st_end0 [] [] [14, 15] (True) [(5, iD (↑i : Int))] (by kernel_rfl) trivial ?_
    refine awp_seq ?_
    refine awp_drawn [0, 1, 2, 4, 5, 6, 3, 7, 8] (by kernel_rfl) rfl ?_
    refine st_run0 3 [] [] ((0 : Int) ≤ (↑i : Int) ∧ (↑i : Int) < (↑(List.length a) : Int) ∧ List.map intD a ≠ []) [(16, intsD a), (17, iD (↑i : Int)), (18, D.ptr (List.drop (Int.toNat (↑i : Int) * 1) (List.map intD a)))] (by kernel_rfl) ⟨(by omega), ⟨(by omega), (by exact map_ne (by omega))⟩⟩ ?_
    refine st_slot 18 (D.ptr (List.drop (Int.toNat (↑i : Int) * 1) (List.map intD a))) (D.ptr (List.drop i (List.map intD a))) (by kernel_rfl) (by simp (disch := omega) only [Int.toNat_natCast, Nat.mul_one]) (by kernel_rfl) ?_
    refine st_run0 3 [] [] ((0 : Int) ≤ (↑i : Int) ∧ (↑i : Int) < (↑(List.length b) : Int) ∧ List.map intD b ≠ []) [(20, intsD b), (21, iD (↑i : Int)), (22, D.ptr (List.drop (Int.toNat (↑i : Int) * 1) (List.map intD b)))] (by kernel_rfl) ⟨(by omega), ⟨(by omega), (by exact map_ne (by omega))⟩⟩ ?_
    refine st_slot 22 (D.ptr (List.drop (Int.toNat (↑i : Int) * 1) (List.map intD b))) (D.ptr (List.drop i (List.map intD b))) (by kernel_rfl) (by simp (disch := omega) only [Int.toNat_natCast, Nat.mul_one]) (by kernel_rfl) ?_
    refine st_run0 1 [] [] (0 < List.length (List.drop i (List.map intD a))) [(19, List.headD (List.drop i (List.map intD a)) U)] (by kernel_rfl) (by (simp; omega)) ?_
    refine st_slot 19 (List.headD (List.drop i (List.map intD a)) U) (intD (List.getD a i (0 : Int))) (by kernel_rfl) (by simp (disch := omega) only [headD_int]) (by kernel_rfl) ?_
    refine st_run0 1 [] [] (0 < List.length (List.drop i (List.map intD b))) [(23, List.headD (List.drop i (List.map intD b)) U)] (by kernel_rfl) (by (simp; omega)) ?_
    refine st_slot 23 (List.headD (List.drop i (List.map intD b)) U) (intD (List.getD b i (0 : Int))) (by kernel_rfl) (by simp (disch := omega) only [headD_int]) (by kernel_rfl) ?_
    refine st_end0 [] [] [5, 16, 17, 18, 19, 20, 21, 22, 23] (True) [(24, bD (List.getD a i (0 : Int) != List.getD b i (0 : Int)))] (by kernel_rfl) trivial ?_
    refine awp_cond (t := List.getD a i (0 : Int) != List.getD b i (0 : Int)) (by kernel_rfl) (fun hc => ?_) (fun hc => ?_)
    simp only [bne_iff_ne] at hc
    refine awp_seq (awp_region rfl ?_)
    refine st_end0 [] [] [24] (True) [(4, bD false)] (by kernel_rfl) trivial ?_
    refine awp_ret (block_ret (then_ret (then_ret (block_ret (then_ret ?_)))))
    refine ret_run (True) (bD false) (D.val (Value.bool false)) (.inr rfl) (by kernel_rfl) trivial rfl ?_
    rotate_left
    simp only [bne_eq_false_iff_eq] at hc
    refine awp_skip (block_normal (then_normal (next_same (awp_region rfl ?_))))
    refine st_run0 1 [] [] (-9223372036854775808 ≤ (↑i : Int) + (1 : Int) ∧ (↑i : Int) + (1 : Int) ≤ 9223372036854775807) [(25, iD ((↑i : Int) + (1 : Int)))] (by kernel_rfl) (by omega) ?_
    refine st_slot 25 (iD ((↑i : Int) + (1 : Int))) (iD (↑(i + 1) : Int)) (by kernel_rfl) (by simp (disch := omega) only [cast_add1]) (by kernel_rfl) ?_
    refine st_run0 1 [] [] (True) [(13, iD (↑(i + 1) : Int))] (by kernel_rfl) trivial ?_
    refine st_nil ?_ (by kernel_rfl)
    refine then_normal ?_
    rotate_left
    simp only [decide_eq_false_iff_not] at hc
    refine awp_exit (then_exit (then_exit (block_hit rfl (then_normal (next_same (awp_seq (awp_region rfl ?_)))))))
    refine st_end0 [] [] [0, 1, 12, 13, 14] (True) [(4, bD true)] (by kernel_rfl) trivial ?_
    refine awp_ret ?_
    refine ret_run (True) (bD true) (D.val (Value.bool true)) (.inr rfl) (by kernel_rfl) trivial rfl ?_
    rotate_left
  · congr 2
    symm
    rw [decide_eq_false_iff_not]
    rintro rfl
    simp at *
  · refine ⟨i + 1, ⟨by omega, ?_⟩, by omega, ?_⟩
    · exact take_eq_step 0 (by omega) (by omega) k2 (by assumption)
    · refine weak_run [(0, 1), (1, 1), (12, 1), (13, 1)] (intsD a = intsD a ∧ intsD b = intsD b ∧ iD (↑(List.length a) : Int) = iD (↑(List.length a) : Int) ∧ iD (↑(i + 1) : Int) = iD (↑(i + 1) : Int)) 0 [] (by kernel_rfl) ⟨rfl, rfl, rfl, rfl⟩ (by kernel_rfl) (fun _ _ => rfl) (by kernel_rfl)
  · have e : i = a.length := by omega
    subst e
    rw [List.take_length, List.take_of_length_le (by omega)] at k2
    simp [k2]
set_option maxHeartbeats 1000000 in
theorem efunc_c (a b : List (List Int)) (n m : Nat) (hn : a.length = n) (hm : b.length = m) (ha : n ≤ 1000000) (hb : m ≤ 1000000) (h1 : Short 1000000 a) (h2 : Short 1000000 b) : Pure Tryz.prog 86 [.row (a.map intsD) n, .row (b.map intsD) m, .clo (.func 70) [] []] [] (bD (decide (a = b))) := by
  subst hn hm
  refine pure_of_awp Tz_ok mixed Tryz.func86 rfl ?_
  focus
    refine awp_seq (awp_region rfl ?_)
    refine st_end0 [] [] [] (True) [(6, bD false)] (by kernel_rfl) trivial ?_
    refine awp_seq (awp_seq (awp_region rfl ?_))
    refine st_end0 [] [] [10, 11, 12, 13] (True) [(14, bD ((↑(List.length a) : Int) != (↑(List.length b) : Int)))] (by kernel_rfl) trivial ?_
    refine awp_cond (t := (↑(List.length a) : Int) != (↑(List.length b) : Int)) (by kernel_rfl) (fun hc => ?_) (fun hc => ?_)
    simp only [bne_iff_ne] at hc
    refine awp_seq (awp_region rfl ?_)
    refine st_end0 [] [] [14] (True) [] (by kernel_rfl) trivial ?_
    refine awp_ret (then_ret ?_)
    refine ret_run (True) (bD false) (D.val (Value.bool false)) (.inr rfl) (by kernel_rfl) trivial rfl ?_
    rotate_left
    simp only [bne_eq_false_iff_eq] at hc
    refine awp_skip (then_normal (next_same (awp_seq (awp_seq (awp_region rfl ?_)))))
    refine st_end0 [] [] [0, 14] (True) [(15, D.row (List.map intsD a) (List.length a)), (16, iD (↑(List.length a) : Int)), (17, iD 0)] (by kernel_rfl) trivial ?_
    refine awp_block ?_
    rotate_left
  · congr 2
    symm
    rw [decide_eq_false_iff_not]
    intro h
    have := congrArg List.length h
    omega
  refine awp_loop1 (fun (i : Nat) => [U, D.row (List.map intsD b) (List.length b), D.clo (Fn.func (70 : FuncId)) [] [], U, U, U, U, U, U, U, U, U, U, U, U, D.row (List.map intsD a) (List.length a), iD (↑(List.length a) : Int), iD (↑i : Int), U, U, U, U, U, U, U, U, U, U, U, U, U, U]) (fun i => []) (fun i => a.length - i) (fun i => i ≤ a.length ∧ a.take i = b.take i) 0 ?_ ?_ ?_
  · exact ⟨by omega, by simp⟩
  · refine weak_run [(1, 1), (2, 1), (15, 1), (16, 1), (17, 1)] (D.row (List.map intsD b) (List.length b) = D.row (List.map intsD b) (List.length b) ∧ D.clo (Fn.func (70 : FuncId)) [] [] = D.clo (Fn.func (70 : FuncId)) [] [] ∧ D.row (List.map intsD a) (List.length a) = D.row (List.map intsD a) (List.length a) ∧ iD (↑(List.length a) : Int) = iD (↑(List.length a) : Int) ∧ iD 0 = iD (↑(0 : Nat) : Int)) 0 [] (by kernel_rfl) ⟨rfl, rfl, rfl, rfl, (by kernel_rfl)⟩ (by kernel_rfl) (fun _ _ => rfl) (by kernel_rfl)
  rintro i ⟨k1, k2⟩
  have h3 := h1.get i
  have h4 := h2.get i
  focus
    refine awp_seq (awp_region rfl ?_)
    refine st_end0 [] [] [] (True) [(18, bD (decide ((↑i : Int) < (↑(List.length a) : Int))))] (by kernel_rfl) trivial ?_
    refine awp_seq ?_
    refine awp_cond (t := decide ((↑i : Int) < (↑(List.length a) : Int))) (by kernel_rfl) (fun hc => ?_) (fun hc => ?_)
    simp only [decide_eq_true_eq] at hc
    refine awp_skip (then_normal (next_same (awp_seq (awp_block (awp_seq (awp_region rfl ?_))))))
    refine st_run0 2 [] [] ((0 : Int) ≤ (↑i : Int) ∧ (↑i : Int) < (↑(List.length a) : Int) ∧ List.map intsD a ≠ []) [(19, iD (↑i : Int)), (20, D.ptr (List.drop (Int.toNat (↑i : Int) * 1) (List.map intsD a)))] (by kernel_rfl) ⟨(by omega), ⟨(by omega), (by exact map_ne (by omega))⟩⟩ ?_
    refine st_slot 20 (D.ptr (List.drop (Int.toNat (↑i : Int) * 1) (List.map intsD a))) (D.ptr (List.drop i (List.map intsD a))) (by kernel_rfl) (by simp (disch := omega) only [Int.toNat_natCast, Nat.mul_one]) (by kernel_rfl) ?_
    refine st_run0 1 [] [] (0 < List.length (List.drop i (List.map intsD a))) [(21, List.headD (List.drop i (List.map intsD a)) U)] (by kernel_rfl) (by (simp; omega)) ?_
    refine st_slot 21 (List.headD (List.drop i (List.map intsD a)) U) (intsD (List.getD a i [])) (by kernel_rfl) (by simp (disch := omega) only [headD_why]) (by kernel_rfl) ?_
    refine st_end0 [] [] [18, 19, 20, 21] (True) [(7, iD (↑i : Int)), (8, intsD (List.getD a i []))] (by kernel_rfl) trivial ?_
    refine awp_seq (awp_region rfl ?_)
    refine st_run0 3 [] [] ((0 : Int) ≤ (↑i : Int) ∧ (↑i : Int) < (↑(List.length b) : Int) ∧ List.map intsD b ≠ []) [(22, D.row (List.map intsD b) (List.length b)), (23, iD (↑i : Int)), (24, D.ptr (List.drop (Int.toNat (↑i : Int) * 1) (List.map intsD b)))] (by kernel_rfl) ⟨(by omega), ⟨(by omega), (by exact map_ne (by omega))⟩⟩ ?_
    refine st_slot 24 (D.ptr (List.drop (Int.toNat (↑i : Int) * 1) (List.map intsD b))) (D.ptr (List.drop i (List.map intsD b))) (by kernel_rfl) (by simp (disch := omega) only [Int.toNat_natCast, Nat.mul_one]) (by kernel_rfl) ?_
    refine st_run0 1 [] [] (0 < List.length (List.drop i (List.map intsD b))) [(25, List.headD (List.drop i (List.map intsD b)) U)] (by kernel_rfl) (by (simp; omega)) ?_
    refine st_slot 25 (List.headD (List.drop i (List.map intsD b)) U) (intsD (List.getD b i [])) (by kernel_rfl) (by simp (disch := omega) only [headD_why]) (by kernel_rfl) ?_
    refine st_end0 [] [] [7, 22, 23, 24, 25] (True) [(9, intsD (List.getD b i []))] (by kernel_rfl) trivial ?_
    refine awp_seq (awp_region rfl ?_)
    refine st_run0 3 [] [] (True) [(26, D.clo (Fn.func 70) [] []), (27, intsD (List.getD a i [])), (28, intsD (List.getD b i []))] (by kernel_rfl) trivial ?_
    refine st_callr [intsD (List.getD a i []), intsD (List.getD b i [])] (by kernel_rfl) (by exact sequal_c _ _ _ _ rfl rfl (by omega) (by omega)) ?_
    refine st_end0 [] [] [8, 9, 26, 27, 28, 29] (True) [(30, bD !decide (List.getD a i [] = List.getD b i []))] (by kernel_rfl) trivial ?_
    refine awp_cond (t := !decide (List.getD a i [] = List.getD b i [])) (by kernel_rfl) (fun hc => ?_) (fun hc => ?_)
    simp only [Bool.not_eq_true'] at hc
    refine awp_seq (awp_region rfl ?_)
    refine st_end0 [] [] [30] (True) [(6, bD false)] (by kernel_rfl) trivial ?_
    refine awp_ret (block_ret (then_ret (then_ret (block_ret (then_ret ?_)))))
    refine ret_run (True) (bD false) (D.val (Value.bool false)) (.inr rfl) (by kernel_rfl) trivial rfl ?_
    rotate_left
    simp only [Bool.not_eq_false'] at hc
    refine awp_skip (block_normal (then_normal (next_same (awp_region rfl ?_))))
    refine st_run0 1 [] [] (-9223372036854775808 ≤ (↑i : Int) + (1 : Int) ∧ (↑i : Int) + (1 : Int) ≤ 9223372036854775807) [(31, iD ((↑i : Int) + (1 : Int)))] (by kernel_rfl) (by omega) ?_
    refine st_slot 31 (iD ((↑i : Int) + (1 : Int))) (iD (↑(i + 1) : Int)) (by kernel_rfl) (by simp (disch := omega) only [cast_add1]) (by kernel_rfl) ?_
    refine st_run0 1 [] [] (True) [(17, iD (↑(i + 1) : Int))] (by kernel_rfl) trivial ?_
    refine st_nil ?_ (by kernel_rfl)
    refine then_normal ?_
    rotate_left
    simp only [decide_eq_false_iff_not] at hc
    refine awp_exit (then_exit (then_exit (block_hit rfl (then_normal (next_same (awp_seq (awp_region rfl ?_)))))))
    refine st_end0 [] [] [1, 2, 15, 16, 17, 18] (True) [(6, bD true)] (by kernel_rfl) trivial ?_
    refine awp_ret ?_
    refine ret_run (True) (bD true) (D.val (Value.bool true)) (.inr rfl) (by kernel_rfl) trivial rfl ?_
    rotate_left
  · congr 2
    symm
    rw [decide_eq_false_iff_not]
    rintro rfl
    simp at *
  · refine ⟨i + 1, ⟨by omega, ?_⟩, by omega, ?_⟩
    · exact take_eq_step [] (by omega) (by omega) k2 (by simpa using hc)
    · refine weak_run [(1, 1), (2, 1), (15, 1), (16, 1), (17, 1)] (D.row (List.map intsD b) (List.length b) = D.row (List.map intsD b) (List.length b) ∧ D.clo (Fn.func (70 : FuncId)) [] [] = D.clo (Fn.func (70 : FuncId)) [] [] ∧ D.row (List.map intsD a) (List.length a) = D.row (List.map intsD a) (List.length a) ∧ iD (↑(List.length a) : Int) = iD (↑(List.length a) : Int) ∧ iD (↑(i + 1) : Int) = iD (↑(i + 1) : Int)) 0 [] (by kernel_rfl) ⟨rfl, rfl, rfl, rfl, rfl⟩ (by kernel_rfl) (fun _ _ => rfl) (by kernel_rfl)
  · have e : i = a.length := by omega
    subst e
    rw [List.take_length, List.take_of_length_le (by omega)] at k2
    simp [k2]
theorem blen_c (n : Nat) (hn : n < 18446744073709551616) : Pure Tryz.prog 126 [.val (.int .u64 n)] [] (.val (.int .i64 (Lib.bitLen n))) :=
  pure_of_val (us := [.int .u64 n]) (fun w => (Tryz.bits_Len n w (by omega) (by omega)).mono fun e w' h => ⟨by rw [h.1]; simp, h.2.symm⟩)
def Tk : Par := ⟨fun f => f == 127 || f == 145 || f == 108 || f == 109 || f == 110 || f == 112, fun _ _ => none, fun k => k == 0⟩
theorem Tk_ok : MethOk Tryz.prog Tk := by intro t n f h; cases h
theorem keep0 {st : Bk} : ∀ k, k < [st].length → Tk.keep k = true := fun k hk => by
  obtain rfl : k = 0 := by simpa using hk
  rfl
abbrev whyB (l : List (List Int)) : Bk := ⟨l.map intsD, 63, 1, true, false⟩
theorem keepF : ∀ k, 1 ≤ k → Tk.keep k = false := fun k hk => by show (k == 0) = false; simp; omega
set_option maxHeartbeats 1000000 in
theorem insertion0 (l : List (List Int)) (wh : Bool) : Acts Tryz.prog 145 [.osl 0 0 0 0 wh, .val (.int .i64 0), .val (.int .i64 0), .clo (.func 111) [] []] [whyB l] [] (.tup []) [whyB l] := by
  refine acts_of_awp Tk_ok mixed Tryz.func145 rfl keep0 ?_
  focus
    refine awp_seq (awp_region rfl ?_)
    refine st_end0 [] [] [10, 11] (-9223372036854775808 ≤ (0 : Int) + (1 : Int) ∧ (0 : Int) + (1 : Int) ≤ 9223372036854775807) [(8, iD 1)] (by kernel_rfl) (by omega) ?_
    refine awp_block ?_
    rotate_left
  refine awp_loop1 (fun (i : Nat) => [D.osl 0 0 0 0 wh, iD 0, iD 0, D.clo (Fn.func (111 : FuncId)) [] [], U, U, U, U, iD 1, U, U, U, U, U, U, U, U, U, U, U, U, U, U, U, U, U, U, U, U, U, U, U, U, U, U, U, U, U, U, U, U, U, U, U, U, U, U, U, U, U, U, U, U]) (fun (i : Nat) => [whyB l]) (fun (i : Nat) => 0) (fun (i : Nat) => True) 0 ?_ ?_ ?_
  · trivial
  · refine weak_run [(0, 1), (1, 1), (2, 1), (3, 1), (8, 1)] (D.osl 0 0 0 0 wh = D.osl 0 0 0 0 wh ∧ iD 0 = iD 0 ∧ iD 0 = iD 0 ∧ D.clo (Fn.func (111 : FuncId)) [] [] = D.clo (Fn.func (111 : FuncId)) [] [] ∧ iD 1 = iD 1) 1 [] (by kernel_rfl) ⟨rfl, rfl, rfl, rfl, rfl⟩ (by kernel_rfl) ?_ (by kernel_rfl)
    exact keepF
  rintro i -
  focus
    refine awp_seq (awp_seq (awp_region rfl ?_))
    refine st_end0 [] [] [12, 13] (True) [(14, bD false)] (by kernel_rfl) trivial ?_
    refine cond_f (t := false) (by kernel_rfl) rfl ?_
    refine awp_exit (then_exit (then_exit (block_hit rfl ?_)))
    refine ret_list (True) [] (.inl rfl) (by kernel_rfl) trivial ?_
    rotate_left
  exact ⟨rfl, rfl⟩
set_option maxHeartbeats 1000000 in
theorem pdq0 (l : List (List Int)) (wh : Bool) (lim : Int) : Acts Tryz.prog 127 [.osl 0 0 0 0 wh, .val (.int .i64 0), .val (.int .i64 0), .val (.int .i64 lim), .clo (.func 111) [] []] [whyB l] [] (.tup []) [whyB l] := by
  refine acts_of_awp Tk_ok mixed Tryz.func127 rfl keep0 ?_
  focus
    refine awp_seq (awp_region rfl ?_)
    refine st_end0 [] [] [] (True) [(10, bD true)] (by kernel_rfl) trivial ?_
    refine awp_seq (awp_region rfl ?_)
    refine st_end0 [] [] [] (True) [(11, bD true)] (by kernel_rfl) trivial ?_
    refine awp_block ?_
    rotate_left
  refine awp_loop1 (fun (i : Nat) => [D.osl 0 0 0 0 wh, iD 0, iD 0, iD lim, D.clo (Fn.func (111 : FuncId)) [] [], U, U, U, U, U, bD true, bD true, U, U, U, U, U, U, U, U, U, U, U, U, U, U, U, U, U, U, U, U, U, U, U, U, U, U, U, U, U, U, U, U, U, U, U, U, U, U, U, U, U, U, U, U, U, U, U, U, U, U, U, U, U, U, U, U, U, U, U, U, U, U, U, U, U, U, U, U, U, U, U, U, U, U, U, U, U, U, U, U, U, U, U, U, U, U, U, U, U, U, U, U, U, U, U, U, U, U, U, U, U, U, U, U, U, U, U, U, U, U, U, U, U, U, U, U, U, U, U, U, U, U, U, U, U, U, U, U, U, U, U, U, U, U, U, U]) (fun (i : Nat) => [whyB l]) (fun (i : Nat) => 0) (fun (i : Nat) => True) 0 ?_ ?_ ?_
  · trivial
  · refine weak_run [(0, 1), (1, 1), (2, 1), (3, 1), (4, 1), (10, 1), (11, 1)] (D.osl 0 0 0 0 wh = D.osl 0 0 0 0 wh ∧ iD 0 = iD 0 ∧ iD 0 = iD 0 ∧ iD lim = iD lim ∧ D.clo (Fn.func (111 : FuncId)) [] [] = D.clo (Fn.func (111 : FuncId)) [] [] ∧ bD true = bD true ∧ bD true = bD true) 1 [] (by kernel_rfl) ⟨rfl, rfl, rfl, rfl, rfl, rfl, rfl⟩ (by kernel_rfl) ?_ (by kernel_rfl)
    exact keepF
  rintro i -
  focus
    refine awp_block (awp_seq (awp_region rfl ?_))
    refine st_end0 [] [] [21, 22, 23] (-9223372036854775808 ≤ (0 : Int) - (0 : Int) ∧ (0 : Int) - (0 : Int) ≤ 9223372036854775807) [(12, iD 0)] (by kernel_rfl) (by omega) ?_
    refine awp_seq (awp_seq (awp_region rfl ?_))
    refine st_end0 [] [] [24] (True) [(25, bD true)] (by kernel_rfl) trivial ?_
    refine cond_t (t := true) (by kernel_rfl) rfl ?_
    refine awp_seq (awp_region rfl ?_)
    refine st_run0 4 [] [] (True) [(26, D.osl 0 0 0 0 wh), (27, iD 0), (28, iD 0), (29, D.clo (Fn.func 111) [] [])] (by kernel_rfl) trivial ?_
    refine st_act [] [] [D.osl 0 0 0 0 wh, iD 0, iD 0, D.clo (Fn.func 111) [] []] [D.osl 0 0 0 0 wh, iD 0, iD 0, D.clo (Fn.func 111) [] []] (by kernel_rfl) trivial (LeL.refl _) (by exact insertion0 _ _) ?_
    refine st_end0 [] [] [25, 26, 27, 28, 29, 30] (True) [] (by kernel_rfl) trivial ?_
    refine awp_ret (then_ret (block_ret (then_ret (block_ret ?_))))
    refine ret_list (True) [] (.inr rfl) (by kernel_rfl) trivial ?_
    rotate_left
  exact ⟨rfl, rfl⟩
set_option maxHeartbeats 1000000 in
theorem sortfunc_c (l : List (List Int)) (n : Nat) (wh : Bool) (hn : l.length = n) (hb : n ≤ 1000000) (hs : Short 1000000 l) : Acts Tryz.prog 110 [.osl 0 0 n n wh, .clo (.func 111) [] []] [whyB l] [] (.tup []) [whyB (sortC lcmp l)] := by
  subst hn
  have hlim : Lib.bitLen l.length < 4611686018427387904 := Nat.lt_of_le_of_lt (Lib.bitLen_le l.length 62 (by omega) (by omega)) (by omega)
  rcases Nat.eq_zero_or_pos l.length with h0 | hpos
  · obtain rfl : l = [] := List.eq_nil_of_length_eq_zero h0
    refine acts_of_awp Tk_ok mixed Tryz.func110 rfl keep0 ?_
    focus
      refine awp_seq (awp_region rfl ?_)
      refine st_end0 [] [] [5, 6] (True) [(4, iD (↑(0 : Nat) : Int))] (by kernel_rfl) trivial ?_
      refine awp_region rfl ?_
      refine st_run0 4 [] [] ((0 : Int) ≤ (↑(0 : Nat) : Int) ∧ (↑(0 : Nat) : Int) ≤ (18446744073709551615 : Int)) [(7, D.osl 0 0 0 0 wh), (8, iD (↑(0 : Nat) : Int)), (9, iD (↑(0 : Nat) : Int)), (10, D.val (Value.int IntKind.u64 (↑(0 : Nat) : Int)))] (by kernel_rfl) (by omega) ?_
      refine st_callr [D.val (Value.int IntKind.u64 (↑(0 : Nat) : Int))] (by kernel_rfl) (by exact blen_c 0 (by omega)) ?_
      refine st_run0 1 [] [] (True) [(12, D.clo (Fn.func 111) [] [])] (by kernel_rfl) trivial ?_
      refine st_act [] [] [D.osl 0 0 0 0 wh, iD 0, iD (↑(0 : Nat) : Int), iD (↑(0 : Nat) : Int), D.clo (Fn.func 111) [] []] [D.osl 0 0 0 0 wh, iD 0, iD (↑(0 : Nat) : Int), iD (↑(0 : Nat) : Int), D.clo (Fn.func 111) [] []] (by kernel_rfl) trivial (LeL.refl _) (by exact pdq0 [] _ _) ?_
      refine st_nil ?_ (by kernel_rfl)
      refine ret_list (True) [] (.inl rfl) (by kernel_rfl) trivial ?_
      rotate_left
    exact ⟨rfl, by simp [sortC]⟩
  · refine acts_of_awp Tk_ok mixed Tryz.func110 rfl keep0 ?_
    focus
      refine awp_seq (awp_region rfl ?_)
      refine st_end0 [] [] [5, 6] (True) [(4, iD (↑(List.length l) : Int))] (by kernel_rfl) trivial ?_
      refine awp_region rfl ?_
      refine st_run0 4 [] [] ((0 : Int) ≤ (↑(List.length l) : Int) ∧ (↑(List.length l) : Int) ≤ (18446744073709551615 : Int)) [(7, D.osl 0 0 (List.length l) (List.length l) wh), (8, iD (↑(List.length l) : Int)), (9, iD (↑(List.length l) : Int)), (10, D.val (Value.int IntKind.u64 (↑(List.length l) : Int)))] (by kernel_rfl) (by omega) ?_
      refine st_callr [D.val (Value.int IntKind.u64 (↑(List.length l) : Int))] (by kernel_rfl) (by exact blen_c l.length (by omega)) ?_
      refine st_run0 1 [] [] (True) [(12, D.clo (Fn.func 111) [] [])] (by kernel_rfl) trivial ?_
      refine st_act [] [] [D.osl 0 0 (List.length l) (List.length l) wh, iD 0, iD (↑(List.length l) : Int), iD (↑(Lib.bitLen (List.length l)) : Int), D.clo (Fn.func 111) [] []] [D.osl 0 0 (List.length l) (List.length l) wh, iD 0, iD (↑(List.length l) : Int), iD (↑(Lib.bitLen (List.length l)) : Int), D.clo (Fn.func 111) [] []] (by kernel_rfl) trivial (LeL.refl _) (by exact pdq_why (k := 0) rfl rfl rfl rfl rfl (by omega) hpos hlim hs) ?_
      refine st_nil ?_ (by kernel_rfl)
      refine ret_list (True) [] (.inl rfl) (by kernel_rfl) trivial ?_
      rotate_left
    exact ⟨rfl, rfl⟩
theorem dedG_snoc {α : Type} [DecidableEq α] (x d : α) : ∀ (l : List α) (p : α), dedG p (l ++ [x]) = if x = (p :: l).getD l.length d then dedG p l else dedG p l ++ [x]
  | [], p => by simp [dedG]
  | y :: l, p => by
    simp only [List.cons_append, dedG, List.length_cons, List.getD_cons_succ]
    have h1 := dedG_snoc x d l p
    have h2 := dedG_snoc x d l y
    have e : (p :: l).getD l.length d = if l = [] then p else (y :: l).getD l.length d := by
      cases l with
      | nil => simp
      | cons z l => simp
    split
    · rename_i hy
      subst hy
      rw [h1]
    · rw [h2]
      split <;> simp
theorem dd_step {α : Type} [DecidableEq α] {w : List α} {k : Nat} (d : α) (h1 : 1 ≤ k) (h2 : k < w.length) : ddG (w.take (k + 1)) = if w.getD k d = w.getD (k - 1) d then ddG (w.take k) else ddG (w.take k) ++ [w.getD k d] := by
  cases w with
  | nil => simp at h2
  | cons p l =>
    obtain ⟨j, rfl⟩ : ∃ j, k = j + 1 := ⟨k - 1, by omega⟩
    simp only [List.length_cons] at h2
    have hj : j < l.length := by omega
    have e : l.getD j d = l[j] := getD_get d hj
    rw [List.take_succ_cons, List.take_succ_eq_append_getElem hj]
    simp only [ddG, List.take_succ_cons, List.getD_cons_succ, Nat.add_sub_cancel]
    rw [← e, dedG_snoc (l.getD j d) d (l.take j) p]
    have e2 : (p :: l.take j).getD (l.take j).length d = (p :: l).getD j d := by
      rw [List.length_take, Nat.min_eq_left (by omega)]
      simp only [List.getD_eq_getElem?_getD]
      congr 1
      cases j with
      | zero => rfl
      | succ j => simp [List.getElem?_take]
    rw [e2]
    split <;> simp
abbrev nilD : D := .val (.slice none 0 0)
theorem repL_one (n : Nat) (z : D) : repL n [z] = List.replicate n z := by
  induction n with
  | zero => rfl
  | succ n ih => simp only [repL, List.replicate_succ, List.flatten_cons, List.cons_append, List.nil_append] at ih ⊢; rw [ih]
theorem clear_tail {cur : List (List Int)} {n k : Nat} (hn : cur.length = n) (hk : k ≤ n) : setAt (cur.map intsD) k (repL (n - k) [nilD]) = (cur.take k).map intsD ++ List.replicate (n - k) nilD := by
  rw [repL_one]
  have e : cur.map intsD = (cur.take k).map intsD ++ (cur.drop k).map intsD := by rw [← List.map_append, List.take_append_drop]
  rw [e]
  have hl : ((cur.take k).map intsD).length = k := by rw [List.length_map, List.length_take]; omega
  have := setAt_all ((cur.drop k).map intsD) (List.replicate (n - k) nilD) ((cur.take k).map intsD) (by rw [List.length_map, List.length_drop, List.length_replicate]; omega)
  rwa [hl] at this
theorem why_at (cur : List (List Int)) (k : Nat) (h : k < cur.length) : ((cur.map intsD).drop k).headD .unk = intsD (cur.getD k []) := headD_map intsD cur [] k h
theorem take_set_succ {α : Type} {l : List α} {k : Nat} (x : α) (h : k < l.length) : (l.set k x).take (k + 1) = l.take k ++ [x] := by
  rw [List.take_succ_eq_append_getElem (by simpa using h)]
  rw [List.take_set, List.set_eq_of_length_le (by rw [List.length_take]; omega)]
  simp
theorem getD_set_ne {α : Type} {l : List α} {k t : Nat} (x d : α) (h : k ≠ t) : (l.set k x).getD t d = l.getD t d := by
  simp only [List.getD_eq_getElem?_getD]; rw [List.getElem?_set_ne h]
abbrev padB (l : List (List Int)) (n : Nat) : Bk := ⟨l.map intsD ++ List.replicate (n - l.length) nilD, 63, 1, true, false⟩
set_option maxHeartbeats 2000000 in
theorem compactfunc_c (w : List (List Int)) (n : Nat) (wh : Bool) (hn : w.length = n) (hb : n ≤ 1000000) (hs : Short 1000000 w) : Acts Tryz.prog 112 [.osl 0 0 n n wh, .clo (.func 70) [] []] [whyB w] [] (.osl 0 0 (ddG w).length (ddG w).length wh) [padB (ddG w) n] := by
  subst hn
  refine acts_of_awp Tk_ok mixed Tryz.func112 rfl keep0 ?_
  focus
    refine awp_seq (awp_region rfl ?_)
    refine st_end0 [] [] [] (True) [(4, nl)] (by kernel_rfl) trivial ?_
    refine awp_seq (awp_seq (awp_region rfl ?_))
    refine st_end0 [] [] [8, 9] (True) [(10, bD (decide ((↑(List.length w) : Int) < (2 : Int))))] (by kernel_rfl) trivial ?_
    refine awp_cond (t := decide ((↑(List.length w) : Int) < (2 : Int))) (by kernel_rfl) (fun hc => ?_) (fun hc => ?_)
    simp only [decide_eq_true_eq] at hc
    refine awp_seq (awp_region rfl ?_)
    refine st_end0 [] [] [10, 11] (True) [(4, D.osl 0 0 (List.length w) (List.length w) wh)] (by kernel_rfl) trivial ?_
    refine awp_ret (then_ret ?_)
    refine ret_list (True) [D.osl 0 0 (List.length w) (List.length w) wh] (.inr rfl) (by kernel_rfl) trivial ?_
    rotate_left
    simp only [decide_eq_false_iff_not] at hc
    refine awp_skip (then_normal (next_same (awp_seq (awp_seq (awp_region rfl ?_)))))
    refine st_end0 [] [] [10] (True) [(5, iD 1)] (by kernel_rfl) trivial ?_
    refine awp_block ?_
    rotate_left
  · have e : ddG w = w := by
      match w with
      | [] => rfl
      | [x] => rfl
      | x :: y :: l => simp at hc; omega
    refine ⟨by simp [oneD, e], by simp [e]⟩
  have h1 : ddG (w.take 1) = w.take 1 := by
    match w with
    | [] => rfl
    | x :: l => rfl
  refine awp_loop1 (fun (k : Nat) => [D.osl 0 0 (List.length w) (List.length w) wh, D.clo (Fn.func (70 : FuncId)) [] [], U, U, U, iD (↑k : Int), U, U, U, U, U, U, U, U, U, U, U, U, U, U, U, U, U, U, U, U, U, U, U, U, U, U, U, U, U, U, U, U, U, U, U, U, U, U, U, U, U, U, U, U, U, U, U, U, U, U, U, U, U, U, U, U, U, U, U, U]) (fun k => [whyB w]) (fun k => w.length - k) (fun k => 1 ≤ k ∧ k ≤ w.length ∧ ddG (w.take k) = w.take k) 1 ?_ ?_ ?_
  · exact ⟨by omega, by omega, h1⟩
  · refine weak_run [(0, 1), (1, 1), (5, 1)] (D.osl 0 0 (List.length w) (List.length w) wh = D.osl 0 0 (List.length w) (List.length w) wh ∧ D.clo (Fn.func (70 : FuncId)) [] [] = D.clo (Fn.func (70 : FuncId)) [] [] ∧ iD 1 = iD (↑(1 : Nat) : Int)) 1 [] (by kernel_rfl) ⟨rfl, rfl, (by kernel_rfl)⟩ (by kernel_rfl) ?_ (by kernel_rfl)
    exact keepF
  rintro k ⟨k1, k2, k3⟩
  have s1 := hs.get k
  have s2 := hs.get (k - 1)
  focus
    refine awp_seq (awp_seq (awp_region rfl ?_))
    refine st_end0 [] [] [12, 13, 14] (True) [(15, bD (decide ((↑k : Int) < (↑(List.length w) : Int))))] (by kernel_rfl) trivial ?_
    refine awp_cond (t := decide ((↑k : Int) < (↑(List.length w) : Int))) (by kernel_rfl) (fun hc => ?_) (fun hc => ?_)
    simp only [decide_eq_true_eq] at hc
    refine awp_skip (then_normal (next_same (awp_seq (awp_block (awp_seq ?_)))))
    refine awp_drawn [0, 1, 2, 3, 5, 6, 7, 8, 4, 9, 10] (by kernel_rfl) rfl ?_
    refine st_run0 4 [] [] ((0 : Int) ≤ (↑k : Int) ∧ (↑k : Int) < (↑(List.length w) : Int)) [(18, D.clo (Fn.func 70) [] []), (19, D.osl 0 0 (List.length w) (List.length w) wh), (20, iD (↑k : Int)), (21, D.own 0 (0 + Int.toNat (↑k : Int) * 1))] (by kernel_rfl) (by omega) ?_
    refine st_slot 21 (D.own 0 (0 + Int.toNat (↑k : Int) * 1)) (D.own 0 k) (by kernel_rfl) (by simp (disch := omega) only [Int.toNat_natCast, Nat.mul_one, Nat.zero_add]) (by kernel_rfl) ?_
    refine st_run0 3 [] [] (-9223372036854775808 ≤ (↑k : Int) - (1 : Int) ∧ (↑k : Int) - (1 : Int) ≤ 9223372036854775807) [(23, D.osl 0 0 (List.length w) (List.length w) wh), (24, iD (↑k : Int)), (25, iD ((↑k : Int) - (1 : Int)))] (by kernel_rfl) (by omega) ?_
    refine st_slot 25 (iD ((↑k : Int) - (1 : Int))) (iD (↑(k - 1) : Int)) (by kernel_rfl) (by simp (disch := omega) only [cast_pred]) (by kernel_rfl) ?_
    refine st_run0 1 [] [] ((0 : Int) ≤ (↑(k - 1) : Int) ∧ (↑(k - 1) : Int) < (↑(List.length w) : Int)) [(26, D.own 0 (0 + Int.toNat (↑(k - 1) : Int) * 1))] (by kernel_rfl) (by omega) ?_
    refine st_slot 26 (D.own 0 (0 + Int.toNat (↑(k - 1) : Int) * 1)) (D.own 0 (k - 1)) (by kernel_rfl) (by simp (disch := omega) only [Int.toNat_natCast, Nat.mul_one, Nat.zero_add]) (by kernel_rfl) ?_
    refine st_run0 1 [] [] (0 < List.length (List.drop k (Bk.cells (whyB w)))) [(22, List.headD (List.drop k (Bk.cells (whyB w))) U)] (by kernel_rfl) (by (simp; omega)) ?_
    refine st_slot 22 (List.headD (List.drop k (Bk.cells (whyB w))) U) (intsD (List.getD w k [])) (by kernel_rfl) (by simp (disch := omega) only [why_at]) (by kernel_rfl) ?_
    refine st_run0 1 [] [] (0 < List.length (List.drop (k - 1) (Bk.cells (whyB w)))) [(27, List.headD (List.drop (k - 1) (Bk.cells (whyB w))) U)] (by kernel_rfl) (by (simp; omega)) ?_
    refine st_slot 27 (List.headD (List.drop (k - 1) (Bk.cells (whyB w))) U) (intsD (List.getD w (k - 1) [])) (by kernel_rfl) (by simp (disch := omega) only [why_at]) (by kernel_rfl) ?_
    refine st_callr [intsD (List.getD w k []), intsD (List.getD w (k - 1) [])] (by kernel_rfl) (by exact sequal_c _ _ _ _ rfl rfl (by omega) (by omega)) ?_
    refine st_end0 [] [] [15, 18, 19, 20, 21, 22, 23, 24, 25, 26, 27] (True) [] (by kernel_rfl) trivial ?_
    refine awp_cond (t := decide (List.getD w k [] = List.getD w (k - 1) [])) (by kernel_rfl) (fun hc => ?_) (fun hc => ?_)
    simp only [decide_eq_true_eq] at hc
    refine awp_seq (awp_region rfl ?_)
    refine st_run0 3 [] [] ((0 : Int) ≤ (↑k : Int) ∧ True ∧ True ∧ 0 < 1 ∧ Int.toNat (↑k : Int) ≤ List.length w ∧ List.length w ≤ List.length w ∧ List.length w = List.length w) [(29, D.osl 0 0 (List.length w) (List.length w) wh), (30, iD (↑k : Int)), (31, D.osl 0 (0 + Int.toNat (↑k : Int) * 1) (List.length w - Int.toNat (↑k : Int)) ((List.length w - Int.toNat (↑k : Int)) * 1) (wh && Option.isNone (Option.map (evD [D.osl 0 0 (List.length w) (List.length w) wh, D.clo (Fn.func 70) [] [], U, U, U, iD (↑k : Int), U, U, U, U, U, U, U, U, U, U, U, U, U, U, U, U, U, U, U, U, U, U, bD (decide (List.getD w k [] = List.getD w (k - 1) [])), D.osl 0 0 (List.length w) (List.length w) wh, iD (↑k : Int), U, U, U, U, U, U, U, U, U, U, U, U, U, U, U, U, U, U, U, U, U, U, U, U, U, U, U, U, U, U, U, U, U, U, U]) none) && Option.isNone (Option.map (evD [D.osl 0 0 (List.length w) (List.length w) wh, D.clo (Fn.func 70) [] [], U, U, U, iD (↑k : Int), U, U, U, U, U, U, U, U, U, U, U, U, U, U, U, U, U, U, U, U, U, U, bD (decide (List.getD w k [] = List.getD w (k - 1) [])), D.osl 0 0 (List.length w) (List.length w) wh, iD (↑k : Int), U, U, U, U, U, U, U, U, U, U, U, U, U, U, U, U, U, U, U, U, U, U, U, U, U, U, U, U, U, U, U, U, U, U, U]) (some (Operand.tmp 30)))))] (by kernel_rfl) ⟨(by omega), ⟨trivial, ⟨trivial, (by omega)⟩⟩⟩ ?_
    refine st_slot 31 (D.osl 0 (0 + Int.toNat (↑k : Int) * 1) (List.length w - Int.toNat (↑k : Int)) ((List.length w - Int.toNat (↑k : Int)) * 1) (wh && Option.isNone (Option.map (evD [D.osl 0 0 (List.length w) (List.length w) wh, D.clo (Fn.func 70) [] [], U, U, U, iD (↑k : Int), U, U, U, U, U, U, U, U, U, U, U, U, U, U, U, U, U, U, U, U, U, U, bD (decide (List.getD w k [] = List.getD w (k - 1) [])), D.osl 0 0 (List.length w) (List.length w) wh, iD (↑k : Int), U, U, U, U, U, U, U, U, U, U, U, U, U, U, U, U, U, U, U, U, U, U, U, U, U, U, U, U, U, U, U, U, U, U, U]) none) && Option.isNone (Option.map (evD [D.osl 0 0 (List.length w) (List.length w) wh, D.clo (Fn.func 70) [] [], U, U, U, iD (↑k : Int), U, U, U, U, U, U, U, U, U, U, U, U, U, U, U, U, U, U, U, U, U, U, bD (decide (List.getD w k [] = List.getD w (k - 1) [])), D.osl 0 0 (List.length w) (List.length w) wh, iD (↑k : Int), U, U, U, U, U, U, U, U, U, U, U, U, U, U, U, U, U, U, U, U, U, U, U, U, U, U, U, U, U, U, U, U, U, U, U]) (some (Operand.tmp 30))))) (D.osl 0 k (List.length w - k) (List.length w - k) false) (by kernel_rfl) (by simp (disch := omega) only [Int.toNat_natCast, Nat.mul_one, Nat.zero_add, Option.map_none, Option.isNone_none, Bool.and_true, Option.map_some, Option.isNone_some, Bool.and_false]) (by kernel_rfl) ?_
    refine st_end0 [] [] [28, 29, 30, 31] (True) [(6, D.osl 0 k (List.length w - k) (List.length w - k) false)] (by kernel_rfl) trivial ?_
    refine awp_seq (awp_seq (awp_region rfl ?_))
    refine st_end0 [] [] [] (True) [(7, iD 1)] (by kernel_rfl) trivial ?_
    refine awp_block ?_
    rotate_left
    simp only [decide_eq_false_iff_not] at hc
    refine awp_skip (block_normal (then_normal (next_same (awp_region rfl ?_))))
    refine st_run0 2 [] [] (-9223372036854775808 ≤ (↑k : Int) + (1 : Int) ∧ (↑k : Int) + (1 : Int) ≤ 9223372036854775807) [(16, iD (↑k : Int)), (17, iD ((↑k : Int) + (1 : Int)))] (by kernel_rfl) (by omega) ?_
    refine st_slot 17 (iD ((↑k : Int) + (1 : Int))) (iD (↑(k + 1) : Int)) (by kernel_rfl) (by simp (disch := omega) only [cast_add1]) (by kernel_rfl) ?_
    refine st_run0 1 [] [] (True) [(5, iD (↑(k + 1) : Int))] (by kernel_rfl) trivial ?_
    refine st_nil ?_ (by kernel_rfl)
    refine then_normal ?_
    rotate_left
    simp only [decide_eq_false_iff_not] at hc
    refine awp_exit (then_exit (then_exit (block_hit rfl (then_normal (next_same (awp_seq (awp_region rfl ?_)))))))
    refine st_end0 [] [] [0, 1, 5, 15, 65] (True) [(4, D.osl 0 0 (List.length w) (List.length w) wh)] (by kernel_rfl) trivial ?_
    refine awp_ret ?_
    refine ret_list (True) [D.osl 0 0 (List.length w) (List.length w) wh] (.inr rfl) (by kernel_rfl) trivial ?_
    rotate_left
  · have d0 : ddG (w.take (k + 1)) = w.take k := by rw [dd_step [] k1 (by omega), if_pos (by simpa using hc), k3]
    refine awp_loop3 (fun (j q : Nat) (cur : List (List Int)) => [D.osl 0 0 (List.length w) (List.length w) wh, D.clo (Fn.func (70 : FuncId)) [] [], U, U, U, iD (↑q : Int), D.osl 0 k (List.length w - k) (List.length w - k) false, iD (↑j : Int), U, U, U, U, U, U, U, U, U, U, U, U, U, U, U, U, U, U, U, U, U, U, U, U, U, U, U, U, U, U, U, U, U, U, U, U, U, U, U, U, U, U, U, U, U, U, U, U, U, U, U, U, U, U, U, U, U, U]) (fun j q cur => [whyB cur]) (fun j q cur => w.length - k - j) (fun j q cur => 1 ≤ j ∧ k + j ≤ w.length ∧ 1 ≤ q ∧ q ≤ k + j - 1 ∧ cur.length = w.length ∧ cur.take q = ddG (w.take (k + j)) ∧ ∀ t, k + j - 1 ≤ t → cur.getD t [] = w.getD t []) 1 k w ?_ ?_ ?_
    · exact ⟨by omega, by omega, by omega, by omega, rfl, d0.symm, fun _ _ => rfl⟩
    · refine weak_run [(0, 1), (1, 1), (5, 1), (6, 1), (7, 1)] (D.osl 0 0 (List.length w) (List.length w) wh = D.osl 0 0 (List.length w) (List.length w) wh ∧ D.clo (Fn.func (70 : FuncId)) [] [] = D.clo (Fn.func (70 : FuncId)) [] [] ∧ iD (↑k : Int) = iD (↑k : Int) ∧ D.osl 0 k (List.length w - k) (List.length w - k) false = D.osl 0 k (List.length w - k) (List.length w - k) false ∧ iD 1 = iD (↑(1 : Nat) : Int)) 1 [] (by kernel_rfl) ⟨rfl, rfl, rfl, rfl, (by kernel_rfl)⟩ (by kernel_rfl) ?_ (by kernel_rfl)
      exact keepF
    rintro j q cur ⟨j1, j2, j3, j4, j5, j6, j7⟩
    have s3 := hs.get (k + j)
    have s4 := hs.get (k + (j - 1))
    have s5 := j7 (k + j) (by omega)
    have s6 := j7 (k + (j - 1)) (by omega)
    rw [← s5] at s3
    rw [← s6] at s4
    focus
      refine awp_seq (awp_seq (awp_region rfl ?_))
      refine st_end0 [] [] [32, 33, 34] (True) [(35, bD (decide ((↑j : Int) < (↑(List.length w - k) : Int))))] (by kernel_rfl) trivial ?_
      refine awp_cond (t := decide ((↑j : Int) < (↑(List.length w - k) : Int))) (by kernel_rfl) (fun hc => ?_) (fun hc => ?_)
      simp only [decide_eq_true_eq] at hc
      refine awp_skip (then_normal (next_same (awp_seq (awp_block (awp_seq ?_)))))
      refine awp_drawn [0, 1, 2, 3, 5, 6, 7, 8, 4, 9, 10, 11] (by kernel_rfl) rfl ?_
      refine st_run0 4 [] [] ((0 : Int) ≤ (↑j : Int) ∧ (↑j : Int) < (↑(List.length w - k) : Int)) [(38, D.clo (Fn.func 70) [] []), (39, D.osl 0 k (List.length w - k) (List.length w - k) false), (40, iD (↑j : Int)), (41, D.own 0 (k + Int.toNat (↑j : Int) * 1))] (by kernel_rfl) (by omega) ?_
      refine st_slot 41 (D.own 0 (k + Int.toNat (↑j : Int) * 1)) (D.own 0 (k + j)) (by kernel_rfl) (by simp (disch := omega) only [Int.toNat_natCast, Nat.mul_one]) (by kernel_rfl) ?_
      refine st_run0 3 [] [] (-9223372036854775808 ≤ (↑j : Int) - (1 : Int) ∧ (↑j : Int) - (1 : Int) ≤ 9223372036854775807) [(43, D.osl 0 k (List.length w - k) (List.length w - k) false), (44, iD (↑j : Int)), (45, iD ((↑j : Int) - (1 : Int)))] (by kernel_rfl) (by omega) ?_
      refine st_slot 45 (iD ((↑j : Int) - (1 : Int))) (iD (↑(j - 1) : Int)) (by kernel_rfl) (by simp (disch := omega) only [cast_pred]) (by kernel_rfl) ?_
      refine st_run0 1 [] [] ((0 : Int) ≤ (↑(j - 1) : Int) ∧ (↑(j - 1) : Int) < (↑(List.length w - k) : Int)) [(46, D.own 0 (k + Int.toNat (↑(j - 1) : Int) * 1))] (by kernel_rfl) (by omega) ?_
      refine st_slot 46 (D.own 0 (k + Int.toNat (↑(j - 1) : Int) * 1)) (D.own 0 (k + (j - 1))) (by kernel_rfl) (by simp (disch := omega) only [Int.toNat_natCast, Nat.mul_one]) (by kernel_rfl) ?_
      refine st_run0 1 [] [] (0 < List.length (List.drop (k + j) (Bk.cells (whyB cur)))) [(42, List.headD (List.drop (k + j) (Bk.cells (whyB cur))) U)] (by kernel_rfl) (by (simp; omega)) ?_
      refine st_slot 42 (List.headD (List.drop (k + j) (Bk.cells (whyB cur))) U) (intsD (List.getD cur (k + j) [])) (by kernel_rfl) (by simp (disch := omega) only [why_at]) (by kernel_rfl) ?_
      refine st_run0 1 [] [] (0 < List.length (List.drop (k + (j - 1)) (Bk.cells (whyB cur)))) [(47, List.headD (List.drop (k + (j - 1)) (Bk.cells (whyB cur))) U)] (by kernel_rfl) (by (simp; omega)) ?_
      refine st_slot 47 (List.headD (List.drop (k + (j - 1)) (Bk.cells (whyB cur))) U) (intsD (List.getD cur (k + (j - 1)) [])) (by kernel_rfl) (by simp (disch := omega) only [why_at]) (by kernel_rfl) ?_
      refine st_callr [intsD (List.getD cur (k + j) []), intsD (List.getD cur (k + (j - 1)) [])] (by kernel_rfl) (by exact sequal_c _ _ _ _ rfl rfl (by omega) (by omega)) ?_
      refine st_end0 [] [] [35, 38, 39, 40, 41, 42, 43, 44, 45, 46, 47, 48] (True) [(49, bD !decide (List.getD cur (k + j) [] = List.getD cur (k + (j - 1)) []))] (by kernel_rfl) trivial ?_
      refine awp_cond (t := !decide (List.getD cur (k + j) [] = List.getD cur (k + (j - 1)) [])) (by kernel_rfl) (fun hc => ?_) (fun hc => ?_)
      simp only [Bool.not_eq_true'] at hc
      refine awp_seq (awp_region rfl ?_)
      refine st_run0 5 [] [] ((0 : Int) ≤ (↑j : Int) ∧ (↑j : Int) < (↑(List.length w - k) : Int)) [(50, D.osl 0 0 (List.length w) (List.length w) wh), (51, iD (↑q : Int)), (52, D.osl 0 k (List.length w - k) (List.length w - k) false), (53, iD (↑j : Int)), (54, D.own 0 (k + Int.toNat (↑j : Int) * 1))] (by kernel_rfl) (by omega) ?_
      refine st_slot 54 (D.own 0 (k + Int.toNat (↑j : Int) * 1)) (D.own 0 (k + j)) (by kernel_rfl) (by simp (disch := omega) only [Int.toNat_natCast, Nat.mul_one]) (by kernel_rfl) ?_
      refine st_run0 1 [] [] (0 < List.length (List.drop (k + j) (Bk.cells (whyB cur)))) [(55, List.headD (List.drop (k + j) (Bk.cells (whyB cur))) U)] (by kernel_rfl) (by (simp; omega)) ?_
      refine st_slot 55 (List.headD (List.drop (k + j) (Bk.cells (whyB cur))) U) (intsD (List.getD cur (k + j) [])) (by kernel_rfl) (by simp (disch := omega) only [why_at]) (by kernel_rfl) ?_
      refine st_run0 1 [] [] ((0 : Int) ≤ (↑q : Int) ∧ (↑q : Int) < (↑(List.length w) : Int)) [(56, D.own 0 (0 + Int.toNat (↑q : Int) * 1))] (by kernel_rfl) (by omega) ?_
      refine st_slot 56 (D.own 0 (0 + Int.toNat (↑q : Int) * 1)) (D.own 0 q) (by kernel_rfl) (by simp (disch := omega) only [Int.toNat_natCast, Nat.mul_one, Nat.zero_add]) (by kernel_rfl) ?_
      refine st_run 1 [] [] (Bk.fz (whyB cur) = false ∧ true = true ∧ 1 = 1 ∧ q + 1 ≤ List.length (Bk.cells (whyB cur)) ∧ ¬0 ∈ []) [] [Bk.mk (setAt (Bk.cells (whyB cur)) q (cellsOf (intsD (List.getD cur (k + j) [])))) (Bk.ty (whyB cur)) (Bk.sz (whyB cur)) (Bk.arr (whyB cur)) (Bk.fz (whyB cur))] (by kernel_rfl) ⟨(by kernel_rfl), ⟨(by kernel_rfl), ⟨(by kernel_rfl), ⟨(by (simp; omega)), (by decide)⟩⟩⟩⟩ ?_
      refine st_blk 0 (Bk.mk (setAt (Bk.cells (whyB cur)) q (cellsOf (intsD (List.getD cur (k + j) [])))) (Bk.ty (whyB cur)) (Bk.sz (whyB cur)) (Bk.arr (whyB cur)) (Bk.fz (whyB cur))) (Bk.mk (List.set (List.map intsD cur) q (intsD (List.getD cur (k + j) []))) (63 : TypeId) 1 true false) (by kernel_rfl) (by simp (disch := omega) only [cellsOf, setAt]) ?_
      refine st_end0 [] [] [49, 50, 51, 52, 53, 54, 55, 56] (True) [] (by kernel_rfl) trivial ?_
      refine awp_region rfl ?_
      refine st_run0 2 [] [] (-9223372036854775808 ≤ (↑q : Int) + (1 : Int) ∧ (↑q : Int) + (1 : Int) ≤ 9223372036854775807) [(57, iD (↑q : Int)), (58, iD ((↑q : Int) + (1 : Int)))] (by kernel_rfl) (by omega) ?_
      refine st_slot 58 (iD ((↑q : Int) + (1 : Int))) (iD (↑(q + 1) : Int)) (by kernel_rfl) (by simp (disch := omega) only [cast_add1]) (by kernel_rfl) ?_
      refine st_run0 1 [] [] (True) [(5, iD (↑(q + 1) : Int))] (by kernel_rfl) trivial ?_
      refine st_nil ?_ (by kernel_rfl)
      refine block_normal (then_normal (next_same (awp_region rfl ?_)))
      refine st_run0 2 [] [] (-9223372036854775808 ≤ (↑j : Int) + (1 : Int) ∧ (↑j : Int) + (1 : Int) ≤ 9223372036854775807) [(36, iD (↑j : Int)), (37, iD ((↑j : Int) + (1 : Int)))] (by kernel_rfl) (by omega) ?_
      refine st_slot 37 (iD ((↑j : Int) + (1 : Int))) (iD (↑(j + 1) : Int)) (by kernel_rfl) (by simp (disch := omega) only [cast_add1]) (by kernel_rfl) ?_
      refine st_run0 1 [] [] (True) [(7, iD (↑(j + 1) : Int))] (by kernel_rfl) trivial ?_
      refine st_nil ?_ (by kernel_rfl)
      refine then_normal ?_
      rotate_left
      simp only [Bool.not_eq_false'] at hc
      refine awp_skip (block_normal (then_normal (next_same (awp_region rfl ?_))))
      refine st_run0 2 [] [] (-9223372036854775808 ≤ (↑j : Int) + (1 : Int) ∧ (↑j : Int) + (1 : Int) ≤ 9223372036854775807) [(36, iD (↑j : Int)), (37, iD ((↑j : Int) + (1 : Int)))] (by kernel_rfl) (by omega) ?_
      refine st_slot 37 (iD ((↑j : Int) + (1 : Int))) (iD (↑(j + 1) : Int)) (by kernel_rfl) (by simp (disch := omega) only [cast_add1]) (by kernel_rfl) ?_
      refine st_run0 1 [] [] (True) [(7, iD (↑(j + 1) : Int))] (by kernel_rfl) trivial ?_
      refine st_nil ?_ (by kernel_rfl)
      refine then_normal ?_
      rotate_left
      simp only [decide_eq_false_iff_not] at hc
      refine awp_exit (then_exit (then_exit (block_hit rfl (then_normal (next_same (awp_seq (awp_region rfl ?_)))))))
      refine st_run0 3 [] [] ((0 : Int) ≤ (↑q : Int) ∧ True ∧ True ∧ 0 < 1 ∧ Int.toNat (↑q : Int) ≤ List.length w ∧ List.length w ≤ List.length w ∧ List.length w = List.length w) [(59, D.osl 0 0 (List.length w) (List.length w) wh), (60, iD (↑q : Int)), (61, D.osl 0 (0 + Int.toNat (↑q : Int) * 1) (List.length w - Int.toNat (↑q : Int)) ((List.length w - Int.toNat (↑q : Int)) * 1) (wh && Option.isNone (Option.map (evD [D.osl 0 0 (List.length w) (List.length w) wh, D.clo (Fn.func 70) [] [], U, U, U, iD (↑q : Int), D.osl 0 k (List.length w - k) (List.length w - k) false, iD (↑j : Int), U, U, U, U, U, U, U, U, U, U, U, U, U, U, U, U, U, U, U, U, U, U, U, U, U, U, U, bD (decide ((↑j : Int) < (↑(List.length w - k) : Int))), U, U, U, U, U, U, U, U, U, U, U, U, U, U, U, U, U, U, U, U, U, U, U, D.osl 0 0 (List.length w) (List.length w) wh, iD (↑q : Int), U, U, U, U, U]) none) && Option.isNone (Option.map (evD [D.osl 0 0 (List.length w) (List.length w) wh, D.clo (Fn.func 70) [] [], U, U, U, iD (↑q : Int), D.osl 0 k (List.length w - k) (List.length w - k) false, iD (↑j : Int), U, U, U, U, U, U, U, U, U, U, U, U, U, U, U, U, U, U, U, U, U, U, U, U, U, U, U, bD (decide ((↑j : Int) < (↑(List.length w - k) : Int))), U, U, U, U, U, U, U, U, U, U, U, U, U, U, U, U, U, U, U, U, U, U, U, D.osl 0 0 (List.length w) (List.length w) wh, iD (↑q : Int), U, U, U, U, U]) (some (Operand.tmp 60)))))] (by kernel_rfl) ⟨(by omega), ⟨trivial, ⟨trivial, (by omega)⟩⟩⟩ ?_
      refine st_slot 61 (D.osl 0 (0 + Int.toNat (↑q : Int) * 1) (List.length w - Int.toNat (↑q : Int)) ((List.length w - Int.toNat (↑q : Int)) * 1) (wh && Option.isNone (Option.map (evD [D.osl 0 0 (List.length w) (List.length w) wh, D.clo (Fn.func 70) [] [], U, U, U, iD (↑q : Int), D.osl 0 k (List.length w - k) (List.length w - k) false, iD (↑j : Int), U, U, U, U, U, U, U, U, U, U, U, U, U, U, U, U, U, U, U, U, U, U, U, U, U, U, U, bD (decide ((↑j : Int) < (↑(List.length w - k) : Int))), U, U, U, U, U, U, U, U, U, U, U, U, U, U, U, U, U, U, U, U, U, U, U, D.osl 0 0 (List.length w) (List.length w) wh, iD (↑q : Int), U, U, U, U, U]) none) && Option.isNone (Option.map (evD [D.osl 0 0 (List.length w) (List.length w) wh, D.clo (Fn.func 70) [] [], U, U, U, iD (↑q : Int), D.osl 0 k (List.length w - k) (List.length w - k) false, iD (↑j : Int), U, U, U, U, U, U, U, U, U, U, U, U, U, U, U, U, U, U, U, U, U, U, U, U, U, U, U, bD (decide ((↑j : Int) < (↑(List.length w - k) : Int))), U, U, U, U, U, U, U, U, U, U, U, U, U, U, U, U, U, U, U, U, U, U, U, D.osl 0 0 (List.length w) (List.length w) wh, iD (↑q : Int), U, U, U, U, U]) (some (Operand.tmp 60))))) (D.osl 0 q (List.length w - q) (List.length w - q) false) (by kernel_rfl) (by simp (disch := omega) only [Int.toNat_natCast, Nat.mul_one, Nat.zero_add, Option.map_none, Option.isNone_none, Bool.and_true, Option.map_some, Option.isNone_some, Bool.and_false]) (by kernel_rfl) ?_
      refine st_end [] [] [6, 7, 35, 59, 60, 61] (Bk.fz (whyB cur) = false ∧ 0 < 1 ∧ q + (List.length w - q) * 1 ≤ List.length (Bk.cells (whyB cur))) [] [Bk.mk (setAt (List.map intsD cur) q (repL (List.length w - q) [nl])) (63 : TypeId) 1 true false] (by kernel_rfl) ⟨(by kernel_rfl), ⟨(by omega), (by (simp; omega))⟩⟩ ?_
      refine awp_seq (awp_region rfl ?_)
      refine st_run0 3 [] [] (True ∧ (0 : Int) ≤ (↑q : Int) ∧ True ∧ 0 < 1 ∧ 0 ≤ Int.toNat (↑q : Int) ∧ Int.toNat (↑q : Int) ≤ List.length w ∧ Int.toNat (↑q : Int) = Int.toNat (↑q : Int)) [(62, D.osl 0 0 (List.length w) (List.length w) wh), (63, iD (↑q : Int)), (64, D.osl 0 0 (Int.toNat (↑q : Int) - 0) ((Int.toNat (↑q : Int) - 0) * 1) (wh && Option.isNone (Option.map (evD [D.osl 0 0 (List.length w) (List.length w) wh, D.clo (Fn.func 70) [] [], U, U, U, iD (↑q : Int), U, U, U, U, U, U, U, U, U, U, U, U, U, U, U, U, U, U, U, U, U, U, U, U, U, U, U, U, U, U, U, U, U, U, U, U, U, U, U, U, U, U, U, U, U, U, U, U, U, U, U, U, U, U, U, U, D.osl 0 0 (List.length w) (List.length w) wh, iD (↑q : Int), U, U]) none) && Option.isNone (Option.map (evD [D.osl 0 0 (List.length w) (List.length w) wh, D.clo (Fn.func 70) [] [], U, U, U, iD (↑q : Int), U, U, U, U, U, U, U, U, U, U, U, U, U, U, U, U, U, U, U, U, U, U, U, U, U, U, U, U, U, U, U, U, U, U, U, U, U, U, U, U, U, U, U, U, U, U, U, U, U, U, U, U, U, U, U, U, D.osl 0 0 (List.length w) (List.length w) wh, iD (↑q : Int), U, U]) none)))] (by kernel_rfl) ⟨trivial, ⟨(by omega), ⟨trivial, (by omega)⟩⟩⟩ ?_
      refine st_slot 64 (D.osl 0 0 (Int.toNat (↑q : Int) - 0) ((Int.toNat (↑q : Int) - 0) * 1) (wh && Option.isNone (Option.map (evD [D.osl 0 0 (List.length w) (List.length w) wh, D.clo (Fn.func 70) [] [], U, U, U, iD (↑q : Int), U, U, U, U, U, U, U, U, U, U, U, U, U, U, U, U, U, U, U, U, U, U, U, U, U, U, U, U, U, U, U, U, U, U, U, U, U, U, U, U, U, U, U, U, U, U, U, U, U, U, U, U, U, U, U, U, D.osl 0 0 (List.length w) (List.length w) wh, iD (↑q : Int), U, U]) none) && Option.isNone (Option.map (evD [D.osl 0 0 (List.length w) (List.length w) wh, D.clo (Fn.func 70) [] [], U, U, U, iD (↑q : Int), U, U, U, U, U, U, U, U, U, U, U, U, U, U, U, U, U, U, U, U, U, U, U, U, U, U, U, U, U, U, U, U, U, U, U, U, U, U, U, U, U, U, U, U, U, U, U, U, U, U, U, U, U, U, U, U, D.osl 0 0 (List.length w) (List.length w) wh, iD (↑q : Int), U, U]) none))) (D.osl 0 0 q q wh) (by kernel_rfl) (by simp (disch := omega) only [Int.toNat_natCast, Nat.sub_zero, Nat.mul_one, Option.map_none, Option.isNone_none, Bool.and_true]) (by kernel_rfl) ?_
      refine st_end0 [] [] [62, 63, 64] (True) [(4, D.osl 0 0 q q wh)] (by kernel_rfl) trivial ?_
      refine awp_ret (block_ret (then_ret (then_ret (block_ret (then_ret ?_)))))
      refine ret_list (True) [D.osl 0 0 q q wh] (.inr rfl) (by kernel_rfl) trivial ?_
      rotate_left
    · refine ⟨j + 1, q + 1, cur.set q (cur.getD (k + j) []), ⟨by omega, by omega, by omega, by omega, by simpa using j5, ?_, ?_⟩, by omega, ?_⟩
      · rw [take_set_succ _ (by omega), j6, show k + (j + 1) = k + j + 1 by omega, dd_step [] (by omega) (by omega), if_neg, s5]
        rw [← s5, show k + j - 1 = k + (j - 1) by omega, ← s6]
        simpa using hc
      · intro t ht
        rw [getD_set_ne _ _ (by omega)]
        exact j7 t (by omega)
      · refine weak_run [(0, 1), (1, 1), (5, 1), (6, 1), (7, 1)] (D.osl 0 0 (List.length w) (List.length w) wh = D.osl 0 0 (List.length w) (List.length w) wh ∧ D.clo (Fn.func (70 : FuncId)) [] [] = D.clo (Fn.func (70 : FuncId)) [] [] ∧ iD (↑(q + 1) : Int) = iD (↑(q + 1) : Int) ∧ D.osl 0 k (List.length w - k) (List.length w - k) false = D.osl 0 k (List.length w - k) (List.length w - k) false ∧ iD (↑(j + 1) : Int) = iD (↑(j + 1) : Int)) 1 [] (by kernel_rfl) ⟨rfl, rfl, rfl, rfl, rfl⟩ (by kernel_rfl) ?_ (by simp [])
        exact keepF
    · refine ⟨j + 1, q, cur, ⟨by omega, by omega, by omega, by omega, j5, ?_, fun t ht => j7 t (by omega)⟩, by omega, ?_⟩
      · rw [j6, show k + (j + 1) = k + j + 1 by omega, dd_step [] (by omega) (by omega), if_pos]
        rw [← s5, show k + j - 1 = k + (j - 1) by omega, ← s6]
        simpa using hc
      · refine weak_run [(0, 1), (1, 1), (5, 1), (6, 1), (7, 1)] (D.osl 0 0 (List.length w) (List.length w) wh = D.osl 0 0 (List.length w) (List.length w) wh ∧ D.clo (Fn.func (70 : FuncId)) [] [] = D.clo (Fn.func (70 : FuncId)) [] [] ∧ iD (↑q : Int) = iD (↑q : Int) ∧ D.osl 0 k (List.length w - k) (List.length w - k) false = D.osl 0 k (List.length w - k) (List.length w - k) false ∧ iD (↑(j + 1) : Int) = iD (↑(j + 1) : Int)) 1 [] (by kernel_rfl) ⟨rfl, rfl, rfl, rfl, rfl⟩ (by kernel_rfl) ?_ (by kernel_rfl)
        exact keepF
    · have e : k + j = w.length := by omega
      rw [e, List.take_length] at j6
      have hq : (ddG w).length = q := by rw [← j6, List.length_take]; omega
      rw [← j6] at hq ⊢
      refine ⟨?_, ?_⟩
      · show D.osl 0 0 q q wh = _
        rw [hq]
      · rw [clear_tail j5 (by omega)]
        simp only [padB, hq]
  · refine ⟨k + 1, ⟨by omega, by omega, ?_⟩, by omega, ?_⟩
    · rw [dd_step [] k1 (by omega), if_neg (by simpa using hc), k3, List.take_succ_eq_append_getElem (by omega), getD_get [] (by omega)]
    · refine weak_run [(0, 1), (1, 1), (5, 1)] (D.osl 0 0 (List.length w) (List.length w) wh = D.osl 0 0 (List.length w) (List.length w) wh ∧ D.clo (Fn.func (70 : FuncId)) [] [] = D.clo (Fn.func (70 : FuncId)) [] [] ∧ iD (↑(k + 1) : Int) = iD (↑(k + 1) : Int)) 1 [] (by kernel_rfl) ⟨rfl, rfl, rfl⟩ (by kernel_rfl) ?_ (by kernel_rfl)
      exact keepF
  · obtain rfl : k = w.length := by omega
    rw [List.take_length] at k3
    refine ⟨by simp [oneD, k3], by simp [k3]⟩
end Go.Proofs.YtgbhoceamcomfaaGreat

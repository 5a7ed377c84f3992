/- Texts of this claim, joined: Str -/
import Derived.Test.YtgbhoceamcomfaaGreatQ05
import Derived.Test.YtgbhoceamcomfaaGreatProg
import Derived.BigQuiet
import Derived.Lib.SliceRun
import Derived.Lib.AppendZeros
import Derived.Laws.Append
import Derived.Lib.Bytealg
import Derived.Lib.Strings
import Derived.Deep.QuietTactic
namespace Go.Proofs.YtgbhoceamcomfaaGreat
open Go.RowKit
set_option linter.unusedVariables false
set_option linter.unusedSimpArgs false
def Tz : Par := ⟨fun _ => false, fun _ _ => none, fun _ => false⟩
theorem Tz_ok : MethOk Tryz.prog Tz := by intro t n f h; cases h
theorem mixed : Tryz.prog.follows .mixedOrders = true := by kernel_rfl
theorem relT_val {I : Im} {w : World} {β : Be} : ∀ (us vs : List Value), RelT I w β (us.map .val) vs → vs = us
  | [], vs, h => by simpa only [List.map_nil, RelT] using h
  | u :: us, vs, h => by
    simp only [List.map_cons, RelT, Rel] at h
    obtain ⟨v, vs', rfl, rfl, h⟩ := h
    rw [relT_val us vs' h]
theorem pure_of_val {P : Program} {f : FuncId} {us : List Value} {v : Value} (h : ∀ w, Calls P f us.toArray w fun e w' => e = .returned v ∧ w = w') : Pure P f (us.map .val) [] (.val v) := by
  intro I w vs hr hi
  rw [relT_val us vs hr]
  refine (h w).mono ?_
  rintro e w' ⟨rfl, rfl⟩
  exact ⟨v, I, noB, rfl, Ext.refl _, hi, Fix.refl _ _, fun _ _ h => .inl h, fun _ _ _ h => (by cases h), fun _ _ _ h => (by cases h), fun _ _ _ _ _ h => (by cases h), fun _ _ _ _ _ h => (by cases h), fun _ _ h => (by cases h), by simp only [Rel], by simp⟩
theorem pure_room {P : Program} {f : FuncId} {args : List D} {e : TypeId} {sz : Nat} (h : ∀ I w vs, RelT I w noB args vs → Calls P f vs.toArray w fun x w' => (x = .returned (.slice none 0 0) ∧ Ext w w') ∨ ∃ (g : Nat) (cur : List Value) (cap : Nat), x = .returned (.slice (some ⟨g, 0, none⟩) 0 cap) ∧ w.heap.size ≤ g ∧ Ext w w' ∧ w'.heap[g]? = some (.cells cur.toArray e (0, 0)) ∧ cur.length = cap * sz ∧ cap ≤ maxLen) :
    Pure P f args [⟨[], e, sz, true, false⟩] (.osl 0 0 0 0 true) := by
  intro I w vs hr hi
  refine (h I w vs hr).mono ?_
  rintro x w' (⟨rfl, he⟩ | ⟨g, cur, cap, rfl, hgs, he, h1, h2, h3⟩)
  · exact ⟨_, I, noB, rfl, he, fun b o hb => Nat.lt_of_lt_of_le (hi b o hb) he.size, fun b o hb => ⟨hb, fun v hv => he.cell hv⟩, fun _ _ h => .inl h, fun _ _ _ h => (by cases h), fun _ _ _ h => (by cases h), fun _ _ _ _ _ h => (by cases h), fun _ _ _ _ _ h => (by cases h), fun _ _ h => (by cases h), by rw [Rel]; exact .inl ⟨rfl, rfl, rfl⟩, by simp⟩
  · have hg : ∀ k y, (if k = 0 then some (g, cap) else none : Option (Nat × Nat)) = some y → k = 0 ∧ y = (g, cap) := by
      intro k y hy
      split at hy
      · exact ⟨by assumption, by cases hy; rfl⟩
      · cases hy
    refine ⟨_, I, fun k => if k = 0 then some (g, cap) else none, rfl, he, fun b o hb => Nat.lt_of_lt_of_le (hi b o hb) he.size, fun b o hb => ⟨hb, fun v hv => he.cell hv⟩, fun _ _ h => .inl h, ?_, ?_, ?_, ?_, ?_, ?_, by simp⟩
    · intro k b c hk
      obtain ⟨_, e⟩ := hg k _ hk
      cases e; exact hgs
    · intro k b c hk
      obtain ⟨rfl, e⟩ := hg k _ hk
      cases e
      exact ⟨_, rfl, cur, h1, Nat.zero_le _, by simp only [List.length_nil, List.take_zero, RelL], fun _ => h2, h3⟩
    · intro k k' b c c' hk hk'
      rw [(hg k _ hk).1, (hg k' _ hk').1]
    · intro k b c j e hk hE hI
      obtain ⟨rfl, e'⟩ := hg k _ hk
      cases e'
      exact absurd (hi _ _ hI) (by omega)
    · intro k y hk
      rw [(hg k _ hk).1]; simp
    · rw [Rel]
      exact .inr (.inr ⟨_, _, cap, if_pos rfl, rfl, Nat.zero_le _, h3, fun _ => ⟨rfl, rfl⟩⟩)
theorem info_nat : (Tryz.prog.info? 144).map (fun i => (i.zero, i.size, i.bytes)) = some (some (.int .u32 0), 1, 4) := by kernel_rfl
set_option maxHeartbeats 400000 in
theorem clone0_nat : Pure Tryz.prog 128 [.row [] 0] [⟨[], 144, 1, true, false⟩] (.osl 0 0 0 0 true) := by
  refine pure_room fun I w vs hr => ?_
  simp only [RelT, Rel] at hr
  obtain ⟨v, ys, rfl, ⟨a, c, rfl, _, _, hc, _⟩, rfl⟩ := hr
  cases a with
  | none =>
    obtain rfl := hc rfl
    have he := fun (w : World) => Lib.run_eql_slice_nil (P := Tryz.prog) w 23 144 none 0 0 0 0 Tryz.underlying23
    go_enter Tryz.func128, Tryz.ntmps128
    go_wp2
    go_ret
    exact .inl ⟨rfl, Ext.refl _⟩
  | some x =>
    obtain ⟨i0, hi, hz0, hz1, hz2⟩ := info_parts info_nat
    have he := fun (w : World) => Lib.run_eql_slice_nil (P := Tryz.prog) w 23 144 (some x) 0 c 0 0 Tryz.underlying23
    have hS : RowAt (fun _ => True) w (some x) [] := .inl rfl
    go_enter Tryz.func128, Tryz.ntmps128
    go_wp2_with (at_builtin; refine wpList_append_row rfl _ _ 23 rfl w.heap.size 144 i0 (.int .u32 0) 1 4 Tryz.underlying23 hi hz0 hz1 hz2 rfl (by decide) (.slice (some ⟨w.heap.size, 0, none⟩) 0 0) 0 [] rfl (World.ownsRow_made _ #[] 0 (Nat.le_refl _) (Nat.zero_le _) rfl) (some x) 0 c [] rfl (by simp) (hS.ext (Ext.alloc _ _)) (by simp) (by simp) (by decide) (by decide) (by simp) ?_; intro v' w' hown hgrow)
    go_ret
    have hext : Ext w w' := ((Below.refl _ _).alloc (Nat.le_refl _) _).grown hgrow (by simp) (by simp [Value.ownBlock])
    obtain ⟨_, ⟨rfl, _⟩ | ⟨g, cap, cur, rfl, hb, hg, _, hc1, hs, _⟩⟩ := hown
    · exact .inl ⟨rfl, hext⟩
    · exact .inr ⟨g, cur.toList, cap, rfl, hb, hext, by rw [Array.toArray_toList]; exact hg, by simpa using hs, hc1⟩
theorem info_ints : (Tryz.prog.info? 3).map (fun i => (i.zero, i.size, i.bytes)) = some (some (.int .i64 0), 1, 8) := by kernel_rfl
set_option maxHeartbeats 400000 in
theorem clone0_ints : Pure Tryz.prog 107 [.row [] 0] [⟨[], 3, 1, true, false⟩] (.osl 0 0 0 0 true) := by
  refine pure_room fun I w vs hr => ?_
  simp only [RelT, Rel] at hr
  obtain ⟨v, ys, rfl, ⟨a, c, rfl, _, _, hc, _⟩, rfl⟩ := hr
  cases a with
  | none =>
    obtain rfl := hc rfl
    have he := fun (w : World) => Lib.run_eql_slice_nil (P := Tryz.prog) w 63 3 none 0 0 0 0 Tryz.underlying63
    go_enter Tryz.func107, Tryz.ntmps107
    go_wp2
    go_ret
    exact .inl ⟨rfl, Ext.refl _⟩
  | some x =>
    obtain ⟨i0, hi, hz0, hz1, hz2⟩ := info_parts info_ints
    have he := fun (w : World) => Lib.run_eql_slice_nil (P := Tryz.prog) w 63 3 (some x) 0 c 0 0 Tryz.underlying63
    have hS : RowAt (fun _ => True) w (some x) [] := .inl rfl
    go_enter Tryz.func107, Tryz.ntmps107
    go_wp2_with (at_builtin; refine wpList_append_row rfl _ _ 63 rfl w.heap.size 3 i0 (.int .i64 0) 1 8 Tryz.underlying63 hi hz0 hz1 hz2 rfl (by decide) (.slice (some ⟨w.heap.size, 0, none⟩) 0 0) 0 [] rfl (World.ownsRow_made _ #[] 0 (Nat.le_refl _) (Nat.zero_le _) rfl) (some x) 0 c [] rfl (by simp) (hS.ext (Ext.alloc _ _)) (by simp) (by simp) (by decide) (by decide) (by simp) ?_; intro v' w' hown hgrow)
    go_ret
    have hext : Ext w w' := ((Below.refl _ _).alloc (Nat.le_refl _) _).grown hgrow (by simp) (by simp [Value.ownBlock])
    obtain ⟨_, ⟨rfl, _⟩ | ⟨g, cap, cur, rfl, hb, hg, _, hc1, hs, _⟩⟩ := hown
    · exact .inl ⟨rfl, hext⟩
    · exact .inr ⟨g, cur.toList, cap, rfl, hb, hext, by rw [Array.toArray_toList]; exact hg, by simpa using hs, hc1⟩
theorem infog_ints : (Tryz.prog.info? 3).map (fun i => (i.zero, i.size, i.bytes)) = some (some (.int .i64 0), 1, 8) := by kernel_rfl
set_option maxHeartbeats 1000000 in
set_option maxRecDepth 100000 in
theorem grow_ints (n : Nat) (hn : n ≤ 1000000) : Pure Tryz.prog 114 [.val (.slice none 0 0), .val (.int .i64 n)] [⟨[], 3, 1, true, false⟩] (.osl 0 0 0 0 true) := by
  refine pure_room fun I w vs hr => ?_
  rw [relT_val [.slice none 0 0, .int .i64 n] vs hr]
  obtain ⟨i0, hi, hz0, hz1, hz2⟩ := info_parts infog_ints
  by_cases h0 : n = 0
  · subst h0
    go_enter Tryz.func114, Tryz.ntmps114
    go_wp2
    go_ret
    exact .inl ⟨rfl, Ext.refl _⟩
  · have hrz : ∀ ty, (Builtin.append_ #[63, 3] ty #[.slice none 0 0, .int .i64 (n : Int)]).run Tryz.prog w = .ok (.slice (some ⟨w.heap.size, 0, none⟩) n (grownCap w n 0 3)) (w.drew.alloc (.cells (Builtin.zeroCells (Value.cells (.int .i64 0)) n ++ Builtin.zeroCells (Value.cells (.int .i64 0)) (grownCap w n 0 3 - n)) 3)) := fun ty =>
      Lib.run_append_nil_zeros w 63 3 ty 3 i0 (.int .i64 0) .i64 .i64 Tryz.underlying63 Tryz.underlying3 hi hz0 n (by omega) (by rw [hz1]; decide) (by omega) (by rw [hz2]; omega)
    have hGn : n ≤ grownCap w n 0 3 := grownCap_ge w _ _ _
    obtain ⟨G, hG⟩ : ∃ G, G = grownCap w n 0 3 := ⟨_, rfl⟩
    rw [← hG] at hrz hGn
    have hG63 : G ≤ maxLen := by
      have := grownCap_le_maxLen w n 0 3 (by unfold maxLen; omega)
      rw [← hG] at this; exact this
    have h1 : ¬ ((n : Int) < 0) := by omega
    have h4 : (n : Int) > 0 := by omega
    have hG' : G ≤ 9223372036854775807 := by unfold maxLen at hG63; omega
    clear hG
    go_enter Tryz.func114, Tryz.ntmps114
    go_wp2_with (at_builtin; refine Lib.wpList_append_run _ rfl _ _ _ _ rfl _ _ rfl rfl _ _ (hrz _) ?_)
    all_goals
      go_ret
      refine .inr ⟨w.heap.size, (Builtin.zeroCells (Value.cells (.int .i64 0)) n ++ Builtin.zeroCells (Value.cells (.int .i64 0)) (G - n)).toList, G, rfl, Nat.le_refl _, (Ext.alloc _ _).trans (Ext.drew _), ?_, ?_, hG63⟩
      · show (w.heap.push (Obj.cells (Builtin.zeroCells (Value.cells (.int .i64 0)) n ++ Builtin.zeroCells (Value.cells (.int .i64 0)) (G - n)) 3 (0, 0)))[w.heap.size]? = _
        rw [Array.getElem?_push_size, Array.toArray_toList]
      · simp only [Array.length_toList, Array.size_append, size_zeroCells]
        rw [show (Value.cells (.int .i64 0)).size = 1 from rfl]
        omega
theorem infog_why : (Tryz.prog.info? 63).map (fun i => (i.zero, i.size, i.bytes)) = some (some (.slice none 0 0), 1, 24) := by kernel_rfl
set_option maxHeartbeats 1000000 in
set_option maxRecDepth 100000 in
theorem grow_why (n : Nat) (hn : n ≤ 1000000) : Pure Tryz.prog 113 [.val (.slice none 0 0), .val (.int .i64 n)] [⟨[], 63, 1, true, false⟩] (.osl 0 0 0 0 true) := by
  refine pure_room fun I w vs hr => ?_
  rw [relT_val [.slice none 0 0, .int .i64 n] vs hr]
  obtain ⟨i0, hi, hz0, hz1, hz2⟩ := info_parts infog_why
  by_cases h0 : n = 0
  · subst h0
    go_enter Tryz.func113, Tryz.ntmps113
    go_wp2
    go_ret
    exact .inl ⟨rfl, Ext.refl _⟩
  · have hrz : ∀ ty, (Builtin.append_ #[35, 3] ty #[.slice none 0 0, .int .i64 (n : Int)]).run Tryz.prog w = .ok (.slice (some ⟨w.heap.size, 0, none⟩) n (grownCap w n 0 63)) (w.drew.alloc (.cells (Builtin.zeroCells (Value.cells (.slice none 0 0)) n ++ Builtin.zeroCells (Value.cells (.slice none 0 0)) (grownCap w n 0 63 - n)) 63)) := fun ty =>
      Lib.run_append_nil_zeros w 35 3 ty 63 i0 (.slice none 0 0) .i64 .i64 Tryz.underlying35 Tryz.underlying3 hi hz0 n (by omega) (by rw [hz1]; decide) (by omega) (by rw [hz2]; omega)
    have hGn : n ≤ grownCap w n 0 63 := grownCap_ge w _ _ _
    obtain ⟨G, hG⟩ : ∃ G, G = grownCap w n 0 63 := ⟨_, rfl⟩
    rw [← hG] at hrz hGn
    have hG63 : G ≤ maxLen := by
      have := grownCap_le_maxLen w n 0 63 (by unfold maxLen; omega)
      rw [← hG] at this; exact this
    have h1 : ¬ ((n : Int) < 0) := by omega
    have h4 : (n : Int) > 0 := by omega
    have hG' : G ≤ 9223372036854775807 := by unfold maxLen at hG63; omega
    clear hG
    go_enter Tryz.func113, Tryz.ntmps113
    go_wp2_with (at_builtin; refine Lib.wpList_append_run _ rfl _ _ _ _ rfl _ _ rfl rfl _ _ (hrz _) ?_)
    all_goals
      go_ret
      refine .inr ⟨w.heap.size, (Builtin.zeroCells (Value.cells (.slice none 0 0)) n ++ Builtin.zeroCells (Value.cells (.slice none 0 0)) (G - n)).toList, G, rfl, Nat.le_refl _, (Ext.alloc _ _).trans (Ext.drew _), ?_, ?_, hG63⟩
      · show (w.heap.push (Obj.cells (Builtin.zeroCells (Value.cells (.slice none 0 0)) n ++ Builtin.zeroCells (Value.cells (.slice none 0 0)) (G - n)) 63 (0, 0)))[w.heap.size]? = _
        rw [Array.getElem?_push_size, Array.toArray_toList]
      · simp only [Array.length_toList, Array.size_append, size_zeroCells]
        rw [show (Value.cells (.slice none 0 0)).size = 1 from rfl]
        omega
end Go.Proofs.YtgbhoceamcomfaaGreat

/- A set of integers kept as the keys of a map that the call made: an entry asked for and stored into, and the number of entries. No program. -/
import Derived.Test.YtbbnpicddmplbaaMix
import Derived.Maps.Keyed
import Derived.WideKeyEntry
namespace Go.Proofs.Ytbbnpicddmplbaa
open Go.RowKit Go.MapKept Go.ChangeMaps
set_option linter.unusedVariables false
set_option linter.unusedSimpArgs false

/-- Block b is a map whose keys are the integers ks, in the order in which they came. -/
def SetAt (w : World) (b : Nat) (q : IntKind) (ks : List Int) : Prop :=
  ∃ es clock, w.heap[b]? = some (.map es clock) ∧ es.toList.map (·.key) = ks.map (Value.int q) ∧ (∀ x ∈ es.toList, x.born < clock) ∧ (es.toList.map (·.born)).Nodup ∧ ∀ k ∈ ks, (Lit.int q k).wf = true
def insK (k : Int) (ks : List Int) : List Int := if k ∈ ks then ks else ks ++ [k]
theorem SetAt.lt {w : World} {b : Nat} {q : IntKind} {ks : List Int} (h : SetAt w b q ks) : b < w.heap.size := by
  obtain ⟨es, c, h1, -⟩ := h
  exact lt_of_block h1
theorem SetAt.ext {w w' : World} {b : Nat} {q : IntKind} {ks : List Int} (h : SetAt w b q ks) (e : Ext w w') : SetAt w' b q ks := by
  have hl := h.lt
  obtain ⟨es, c, h1, h2⟩ := h
  exact ⟨es, c, by rw [Below.block e b hl]; exact h1, h2⟩
theorem SetAt.but {G : Nat → Prop} {w w' : World} {b : Nat} {q : IntKind} {ks : List Int} (h : SetAt w b q ks) (hg : ¬ G b) (e : ExtBut G w w') : SetAt w' b q ks := by
  have hl := h.lt
  obtain ⟨es, c, h1, h2⟩ := h
  exact ⟨es, c, by rw [e.2.1 b hl hg]; exact h1, h2⟩
theorem ExtBut.setBlock (w : World) (b : Nat) (o : Obj) : ExtBut (fun x => x = b) w (ChangeMaps.setBlock w b o) := by
  refine ⟨by simp [ChangeMaps.setBlock], fun k _ hk => ?_, rfl, rfl, rfl⟩
  simp only [ChangeMaps.setBlock]
  rw [Array.getElem?_setIfInBounds, if_neg (fun h => hk h.symm)]
theorem heap_setBlock (w : World) (b : Nat) (o : Obj) (h : b < w.heap.size) : (ChangeMaps.setBlock w b o).heap[b]? = some o := by
  simp only [ChangeMaps.setBlock]
  rw [Array.getElem?_setIfInBounds, if_pos rfl, if_pos h]
theorem modify_last' {α : Type} (f : α → α) (a : α) : ∀ l : List α, (l ++ [a]).modify l.length f = l ++ [f a]
  | [] => rfl
  | b :: r => by simp [modify_last' f a r]
theorem SetAt.store {P : Program} {w : World} {b : Nat} {q : IntKind} {ks : List Int} {kt t e : TypeId} {z : Value} {k : Int}
    (hk : P.underlying kt = some (.int q)) (ht : P.underlying t = some (.map kt e)) (hz : ∀ u : World, (zeroValue e).run P u = .ok z u) (h : SetAt w b q ks) (hwf : (Lit.int q k).wf = true) :
    ∃ v0 st w1, (Instr.mapEntry t (.map (some b)) (.int q k)).run P w = .ok (.tuple #[v0, st]) w1 ∧ ExtBut (fun x => x = b) w w1 ∧
      ∀ val, ∃ w2, (Instr.entryStore t (.map (some b)) st val).run P w1 = .ok () w2 ∧ ExtBut (fun x => x = b) w1 w2 ∧ SetAt w2 b q (insK k ks) := by
  have K := Maps.int_keyed hk
  have hkey : keyOf P kt (.int q k) = some (.int q k) := Maps.keyOf_int_mk hk hwf
  have hl := h.lt
  obtain ⟨es, clock, hb, h1, h2, h3, h4⟩ := h
  have hks : ∀ x ∈ es.toList, ∃ l, keyOf P kt x.key = some l := fun x hx => by
    have : x.key ∈ es.toList.map (·.key) := List.mem_map_of_mem hx
    rw [h1] at this
    obtain ⟨j, hj, e1⟩ := List.mem_map.1 this
    rw [← e1]
    exact ⟨_, Maps.keyOf_int_mk hk (h4 j hj)⟩
  rcases K.find w hkey es.toList hks with ⟨f1, f2⟩ | ⟨j, e0, f1, f2, f3⟩
  · have hno : k ∉ ks := fun hm => by
      have : Value.int q k ∈ es.toList.map (·.key) := by rw [h1]; exact List.mem_map_of_mem hm
      obtain ⟨x, hx, ex⟩ := List.mem_map.1 this
      exact f2 x hx ex
    refine ⟨z, goInt clock, ChangeMaps.setBlock w b (.map (es.push ⟨.int q k, z, clock⟩) (clock + 1)), ?_, ExtBut.setBlock _ _ _, fun val => ?_⟩
    · simp [Instr.mapEntry, run_underlying ht, MapKept.run_getObj_map hb, K.check w false hkey, f1, hz, MapKept.run_setObj_map _ hb, Result.andThen, ChangeMaps.setBlock]
    · have hw2 := heap_setBlock w b (.map (es.push ⟨.int q k, z, clock⟩) (clock + 1)) hl
      generalize ChangeMaps.setBlock w b (.map (es.push ⟨.int q k, z, clock⟩) (clock + 1)) = w1 at hw2 ⊢
      have hn : ((es.push ⟨.int q k, z, clock⟩ : Array MapEntry).toList.map (·.born)).Nodup := by
        simp only [Array.toList_push, List.map_append, List.map_cons, List.map_nil]
        refine List.nodup_append.2 ⟨h3, by simp, fun a ha c hc e1 => ?_⟩
        simp only [List.mem_singleton] at hc
        obtain ⟨x, hx, rfl⟩ := List.mem_map.1 ha
        have := h2 x hx
        omega
      have hidx : (es.push ⟨.int q k, z, clock⟩).findIdx? (fun e => ((e.born : Nat) : Int) == ((clock : Nat) : Int)) = some es.size := by
        rw [WideElems.findIdx_arr]
        exact WideElems.findIdx_born (l := (es.push ⟨.int q k, z, clock⟩).toList) (j := es.size) (e0 := ⟨.int q k, z, clock⟩) hn (by simp)
      have hmod : (es.push ⟨.int q k, z, clock⟩).modify es.size (fun e => { e with val := val }) = es.push ⟨.int q k, val, clock⟩ := by
        apply Array.ext'
        rw [Array.toList_modify, Array.toList_push, Array.toList_push, ← Array.length_toList, modify_last']
      refine ⟨ChangeMaps.setBlock w1 b (.map (es.push ⟨.int q k, val, clock⟩) (clock + 1)), ?_, ExtBut.setBlock _ _ _, es.push ⟨.int q k, val, clock⟩, clock + 1, heap_setBlock _ _ _ (lt_of_block hw2), ?_, ?_, ?_, ?_⟩
      · simp [Instr.entryStore, MapKept.run_getObj_map hw2, asInt, asIntOf, goInt, hidx, hmod, MapKept.run_setObj_map _ hw2, Result.andThen, ChangeMaps.setBlock]
      · rw [insK, if_neg hno]; simp [h1]
      · intro x hx
        simp only [Array.toList_push, List.mem_append, List.mem_singleton] at hx
        rcases hx with hx | rfl
        · have := h2 x hx; omega
        · simp
      · simpa using hn
      · rw [insK, if_neg hno]
        intro x hx
        rcases List.mem_append.1 hx with hx | hx
        · exact h4 x hx
        · simp only [List.mem_singleton] at hx; subst hx; exact hwf
  · have hj : es[j]? = some e0 := by simpa using f2
    have hin : k ∈ ks := by
      have : Value.int q k ∈ es.toList.map (·.key) := List.mem_map.2 ⟨e0, List.mem_of_getElem? f2, f3⟩
      rw [h1] at this
      obtain ⟨x, hx, ex⟩ := List.mem_map.1 this
      cases ex
      exact hx
    have hsame : es.modify j (fun e => { e with key := .int q k }) = es := by
      apply Array.ext'
      rw [Array.toList_modify, modify_eq_set _ _ _ _ f2]
      have : ({ e0 with key := Value.int q k } : MapEntry) = e0 := by rw [← f3]
      rw [this]
      exact WideElems.set_self _ _ _ f2
    have hidx : es.findIdx? (fun e => ((e.born : Nat) : Int) == ((e0.born : Nat) : Int)) = some j := by
      rw [WideElems.findIdx_arr]
      exact WideElems.findIdx_born h3 f2
    refine ⟨e0.val, goInt e0.born, ChangeMaps.setBlock w b (.map es clock), ?_, ExtBut.setBlock _ _ _, fun val => ?_⟩
    · simp [Instr.mapEntry, run_underlying ht, MapKept.run_getObj_map hb, K.check w false hkey, f1, hj, f3, K.stays w hkey, hsame, MapKept.run_setObj_map _ hb, Result.andThen, ChangeMaps.setBlock]
    · have hw2 := heap_setBlock w b (.map es clock) hl
      generalize ChangeMaps.setBlock w b (.map es clock) = w1 at hw2 ⊢
      refine ⟨ChangeMaps.setBlock w1 b (.map (es.modify j fun e => { e with val := val }) clock), ?_, ExtBut.setBlock _ _ _, es.modify j (fun e => { e with val := val }), clock, heap_setBlock _ _ _ (lt_of_block hw2), ?_, ?_, ?_, ?_⟩
      · simp [Instr.entryStore, MapKept.run_getObj_map hw2, asInt, asIntOf, goInt, hidx, MapKept.run_setObj_map _ hw2, Result.andThen, ChangeMaps.setBlock]
      · rw [insK, if_pos hin, ← h1, Array.toList_modify, modify_eq_set _ _ _ _ f2, List.map_set]
        exact WideElems.set_self _ _ _ (by rw [List.getElem?_map, f2]; rfl)
      · intro x hx
        rw [Array.toList_modify, modify_eq_set _ _ _ _ f2] at hx
        rcases List.mem_or_eq_of_mem_set hx with hx | rfl
        · exact h2 x hx
        · exact h2 e0 (List.mem_of_getElem? f2)
      · rw [Array.toList_modify, modify_eq_set _ _ _ _ f2, List.map_set]
        rw [WideElems.set_self _ _ _ (by rw [List.getElem?_map, f2]; rfl)]
        exact h3
      · rw [insK, if_pos hin]; exact h4
theorem SetAt.made (w : World) (q : IntKind) : SetAt (w.alloc (.map #[] 0)) w.heap.size q [] :=
  ⟨#[], 0, heap_alloc_new w _, rfl, fun x hx => by simp at hx, by simp, fun k hk => by simp at hk⟩
theorem SetAt.len {P : Program} {w : World} {b : Nat} {q : IntKind} {ks : List Int} {kt t e : TypeId} (ht : P.underlying t = some (.map kt e)) (h : SetAt w b q ks) (ty : TypeId) :
    (Builtin.len_ #[t] ty #[.map (some b)]).run P w = .ok (.int .i64 ks.length) w := by
  obtain ⟨es, clock, hb, h1, -⟩ := h
  have hn : es.size = ks.length := by
    have := congrArg List.length h1
    simpa using this
  have hr := MapKept.run_getObj_map (P := P) hb
  simp [Builtin.len_, run_underlying ht, hr, hn, goInt, Result.andThen]
section
variable {P : Program} {y : Array Value → Nat → Option Bool} {Q : Exit → Act → World → Prop} {R : World → World → Prop}
/-- A step that yields a value and changes the world. -/
theorem mx_ev {n : Nat} {o : Oper} {rest : List (Oper × Nat)} {a : Act} {w w' : World} {v : Value} (hg : Region.wanted o (y a.tmps) = true)
    (hy : (execOp a.eval o).run P w = .ok (.value v) w') (hR : R w w') (h : wpMixL P y Q R n rest (a.put o.dst v) w') : wpMixL P y Q R (n + 1) ((o, 1) :: rest) a w := by
  refine mx_ef hg ?_
  simp only [Oper.wp, hy, Oper.upon]
  exact ⟨hR, h⟩
end
end Go.Proofs.Ytbbnpicddmplbaa

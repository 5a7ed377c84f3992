/- Texts of this claim, joined: Dz -/
import Derived.Test.YtgbhoceamcomfaaGreatM05
import Derived.Test.YtgbhoceamcomfaaGreatShelf
namespace Go.Proofs.YtgbhoceamcomfaaGreat
open Go.RowKit
attribute [local irreducible] seqW awp thenW nextW blockW Weak updS deadS retL Pure Acts
set_option linter.unusedVariables false
set_option linter.unusedSimpArgs false
theorem compact_len (l : List Int) : (Lib.compact l).length ≤ l.length := by
  unfold Lib.compact Lib.compactUpTo
  rw [List.length_map]
  exact Nat.le_trans (List.length_filter_le _ _) (by simp)
abbrev vI (l : List Int) : List Value := l.map (Value.int .i64)
theorem compact_acts {st : List Bk} {k n : Nat} {e : Bk} {wh : Bool} {zs : List Int} (he : st[k]? = some e) (ha : e.arr = true) (hf : e.fz = false) (hc : e.cells = (vI zs).map .val) (hn : zs.length = n) (hb : n ≤ 1000000) :
    Acts Tryz.prog 109 [.osl k 0 n n wh] st [] (.osl k 0 (Lib.compact zs).length (Lib.compact zs).length wh) (st.set k { e with cells := (vI (Lib.compact zs ++ List.replicate (n - (Lib.compact zs).length) 0)).map .val }) := by
  have hcl := compact_len zs
  refine acts_row he ha hf hc (by simp [hn]) (by simp; omega) (by omega) (fun v hv => by obtain ⟨z, _, rfl⟩ := List.mem_map.1 hv; rfl) (fun _ a c w => Tryz.slices_Compact_int_empty a c w) (fun h0 b c w h1 h2 h3 => ?_)
  refine (Tryz.slices_Compact_int_cells b 0 n c zs w (by omega) (by omega) h3 (fun j hj => ?_) h2).mono ?_
  · rw [h1 j (by omega)]
    simp only [vI, List.getD_eq_getElem?_getD, List.getElem?_map]
    rw [List.getElem?_eq_getElem (by omega)]; rfl
  · rw [show zs.take n = zs from List.take_of_length_le (by omega)]
    exact fun x w' h => h
def unint : List D → Option (List Int)
  | [] => some []
  | .val (.int .i64 z) :: r => (unint r).map (z :: ·)
  | _ => none
theorem unint_ok : ∀ {ds : List D} {l : List Int}, unint ds = some l → ds = (vI l).map .val
  | [], l, h => by cases h; rfl
  | d :: r, l, h => by
    unfold unint at h
    split at h
    · cases h; rename_i h; cases h
    · rename_i z r' e
      cases e
      rw [Option.map_eq_some_iff] at h
      obtain ⟨l', h1, rfl⟩ := h
      rw [unint_ok h1]; rfl
    · cases h
def specA0 (f : FuncId) (args : List D) (st : List Bk) : Option (D × List Bk) := if f == 109 then match args with
    | [.osl k 0 n m wh] => match st[k]? with
      | some e => match unint e.cells with
        | some zs => if e.arr && !e.fz && zs.length == n && m == n && decide (n ≤ 1000000) then some (.osl k 0 (Lib.compact zs).length (Lib.compact zs).length wh, st.set k { e with cells := (vI (Lib.compact zs ++ List.replicate (n - (Lib.compact zs).length) 0)).map .val }) else none
        | none => none
      | none => none
    | _ => none
  else none
theorem specA0_ok (f : FuncId) (args : List D) (st : List Bk) (x : D) (st' : List Bk) (h : specA0 f args st = some (x, st')) : Acts Tryz.prog f args st [] x st' := by
  unfold specA0 at h
  split at h
  · rename_i hf
    rw [beq_iff_eq] at hf
    subst hf
    split at h
    · rename_i k n m wh
      split at h
      · rename_i e he
        split at h
        · rename_i zs hz
          split at h
          · rename_i hc
            simp only [Bool.and_eq_true, Bool.not_eq_true', beq_iff_eq, decide_eq_true_eq] at hc
            obtain ⟨⟨⟨⟨c1, c2⟩, c3⟩, rfl⟩, c5⟩ := hc
            cases h
            exact compact_acts he c1 c2 (unint_ok hz) c3 c5
          · cases h
        · cases h
      · cases h
    · cases h
  · cases h
def byRef (f : FuncId) : Bool := f == 109 || f == 112 || f == 108 || f == 110 || f == 125 || f == 127 || f == 135 || f == 145
def Ti : Par := ⟨byRef, fun _ _ => none, fun _ => false⟩
theorem Ti_ok : MethOk Tryz.prog Ti := by intro t n f h; cases h
theorem awake_c : Pure Tryz.prog 10 [] [] (.val (.bool true)) := pure_by_run Ti_ok mixed spec0_ok specA0_ok 40 (by kernel_rfl)
end Go.Proofs.YtgbhoceamcomfaaGreat

/- Package wtree: balance whole, compare, put. -/
import Derived.Test.YtbbnpicddmplbaaWt2
import Derived.Test.YtbbnpicddmplbaaAvl2
namespace Go.Proofs.Ytbbnpicddmplbaa
open Go.RowKit Go.Deep
set_option linter.unusedVariables false
set_option linter.unusedSimpArgs false
variable {S : Nat → Prop}


/-- balance: a balanced tree of two balanced trees and an entry between them -/
theorem balance_c {w : World} (hS : Fresh S w) {lp rp : Option Addr} {l r : T} {e : GV × Nat} {wv : Value} (hl : TreeV S w lp l) (hr : TreeV S w rp r) (hw : NatV S w wv e.2) (hs : sz l + sz r < 50000000000) (hb : tot l + e.2 + tot r < bigN)
    (al : Avl l) (ar : Avl r) (h1 : ht l ≤ ht r + 2) (h2 : ht r ≤ ht l + 2) :
    Calls Try.prog 59 #[.pointer lp, .agg #[.int .i64 e.1.kind, .int .i64 e.1.num, .string e.1.str, wv], .pointer rp] w
      fun e' w' => ∃ p t, e' = .returned (.pointer p) ∧ Ext w w' ∧ TreeV S w' p t ∧ Bal l e r t := by
  rcases Nat.lt_or_ge (ht r + 1) (ht l) with k1 | k1
  · cases l with
    | nil => simp [ht] at k1
    | node lb lo le ll lr =>
      have hH : ht (.node lb lo le ll lr) = ht r + 2 := by omega
      rcases Nat.lt_or_ge (ht ll) (ht lr) with k2 | k2
      · cases lr with
        | nil => simp [ht] at k2
        | node mb mo me ml mr =>
          refine (bal_A2 hS hl hr hw (by simp only [sz] at hs; omega) (by simp only [tot] at hb; omega) (by simp only [ht] at k1; omega) (by simp only [ht] at k2; omega)).mono ?_
          rintro e' w' ⟨b, b1, b2, rfl, h3, h4⟩
          exact ⟨_, _, rfl, h3, h4, balA2 al ar hH k2⟩
      · refine (bal_A1 hS hl hr hw (by simp only [sz] at hs; omega) (by simp only [tot] at hb; omega) (by simp only [ht] at k1; omega) k2).mono ?_
        rintro e' w' ⟨b, b', rfl, h3, h4⟩
        exact ⟨_, _, rfl, h3, h4, balA1 al ar hH k2⟩
  · rcases Nat.lt_or_ge (ht l + 1) (ht r) with k3 | k3
    · cases r with
      | nil => simp [ht] at k3
      | node rb ro re rl rr =>
        have hH : ht (.node rb ro re rl rr) = ht l + 2 := by omega
        rcases Nat.lt_or_ge (ht rr) (ht rl) with k2 | k2
        · cases rl with
          | nil => simp [ht] at k2
          | node mb mo me ml mr =>
            refine (bal_B2 hS hl hr hw (by simp only [sz] at hs; omega) (by simp only [tot] at hb; omega) (by simp only [ht] at k3; omega) (by simp only [ht] at k2; omega)).mono ?_
            rintro e' w' ⟨b, b1, b2, rfl, h3, h4⟩
            exact ⟨_, _, rfl, h3, h4, balB2 al ar hH k2⟩
        · refine (bal_B1 hS hl hr hw (by simp only [sz] at hs; omega) (by simp only [tot] at hb; omega) (by simp only [ht] at k3; omega) k2).mono ?_
          rintro e' w' ⟨b, b', rfl, h3, h4⟩
          exact ⟨_, _, rfl, h3, h4, balB1 al ar hH k2⟩
    · refine (bal_C hS hl hr hw (by omega) hb k1 k3).mono ?_
      rintro e' w' ⟨b, rfl, h3, h4⟩
      exact ⟨_, _, rfl, h3, h4, balC al ar k1 k3⟩

set_option maxHeartbeats 1000000 in
/-- compare -/
theorem compare_c (d : Bool) (rp : Option Addr) (a b : GV) (w : World) :
    Calls Try.prog 52 #[.agg #[.bool d, .pointer rp], .agg #[.int .i64 a.kind, .int .i64 a.num, .string a.str], .agg #[.int .i64 b.kind, .int .i64 b.num, .string b.str]] w fun e w' => e = .returned (.int .i64 (tcmp d a b)) ∧ Ext w w' := by
  obtain ⟨ak, an, sa⟩ := a
  obtain ⟨bk, bn, sb⟩ := b
  cases d
  · go_enter Try.func52, Try.ntmps52
    go_wp2_with (go_at_call 62; refine (value_compare ⟨ak, an, sa⟩ ⟨bk, bn, sb⟩ _).mono ?_; rintro e w' ⟨rfl, he⟩)
    go_ret
    exact ⟨rfl, (ext3 _ _ _ _).trans he⟩
  · go_enter Try.func52, Try.ntmps52
    go_wp2_with (go_at_call 62; refine (value_compare ⟨bk, bn, sb⟩ ⟨ak, an, sa⟩ _).mono ?_; rintro e w' ⟨rfl, he⟩)
    go_ret
    exact ⟨rfl, (ext3 _ _ _ _).trans he⟩

/-- Two boxes. -/
theorem box2 (w : World) (c1 c2 : List Value) (t1 t2 : TypeId) (W : World) (hW : (w.alloc (.cells c1.toArray t1)).alloc (.cells c2.toArray t2) = W) : Ext w W ∧ Blk W w.heap.size c1 t1 ∧ Blk W (w.heap.size + 1) c2 t2 := by
  subst hW
  refine ⟨ext2 _ _ _, (Blk.new w c1 t1).ext (Ext.alloc _ _), ?_⟩
  have := Blk.new (w.alloc (.cells c1.toArray t1)) c2 t2
  simpa using this
/-- What a tree's box holds, now and later. -/
theorem boxT {w : World} {g : Nat} {d : Bool} {p : Option Addr} {t : TypeId} (h : Blk w g [.bool d, .pointer p] t) :
    (∀ W, Ext w W → W.cell? ⟨g, 0, none⟩ = some (.bool d)) ∧ (∀ W, Ext w W → W.cell? ⟨g, 1, none⟩ = some (.pointer p)) :=
  ⟨fun W e => (h.ext e).cell 0, fun W e => (h.ext e).cell 1⟩
theorem boxV {w : World} {g : Nat} {k n : Int} {s : ByteArray} {t : TypeId} (h : Blk w g [.int .i64 k, .int .i64 n, .string s] t) :
    (∀ W, Ext w W → W.cell? ⟨g, 0, none⟩ = some (.int .i64 k)) ∧ (∀ W, Ext w W → W.cell? ⟨g, 1, none⟩ = some (.int .i64 n)) ∧ (∀ W, Ext w W → W.cell? ⟨g, 2, none⟩ = some (.string s)) :=
  ⟨fun W e => (h.ext e).cell 0, fun W e => (h.ext e).cell 1, fun W e => (h.ext e).cell 2⟩

set_option maxHeartbeats 1000000 in
theorem put_nil {w : World} (hS : Fresh S w) (d : Bool) (rp : Option Addr) (e : GV × Nat) {wv : Value} (hw : NatV S w wv e.2) (hb : e.2 < bigN) :
    Calls Try.prog 39 #[.agg #[.bool d, .pointer rp], .pointer none, .agg #[.int .i64 e.1.kind, .int .i64 e.1.num, .string e.1.str, wv]] w
      fun e' w' => ∃ b, e' = .returned (.pointer (some ⟨b, 0, none⟩)) ∧ Ext w w' ∧ TreeV S w' (some ⟨b, 0, none⟩) (.node b 0 e .nil .nil) := by
  obtain ⟨⟨ek, en, es⟩, ew⟩ := e
  obtain ⟨sa, sk, sc, rfl⟩ := slice_of_nat hw
  have HW := Lib.hid hw
  have HB := Lib.hid hb
  clear hw hb
  go_enter Try.func39, Try.ntmps39
  go_wp2_with fail
  generalize hW0 : (w.alloc (.cells #[.bool d, .pointer rp] 27)).alloc (.cells #[.int .i64 ek, .int .i64 en, .string es, .slice sa sk sc] 84) = w0
  obtain ⟨he0, hb1, hb2⟩ := box2 w [.bool d, .pointer rp] [.int .i64 ek, .int .i64 en, .string es, .slice sa sk sc] _ _ w0 hW0
  clear hW0
  obtain ⟨q0, q1⟩ := boxT hb1
  obtain ⟨x0, x1, x2, x3⟩ := boxE (w1 := w) hb2
  clear hb1 hb2
  have Ew0 := Lib.hid he0
  have Fw0 := Lib.hid (Ext.refl w0)
  with_reducible refine (join_c (hS.ext he0) (e := (⟨ek, en, es⟩, ew)) (TreeV.nil _) (TreeV.nil _) (HW.out.ext he0) (by simp [sz]) (by have := HB.out; simp only [tot] at this ⊢; omega)).mono ?_
  rintro e w1 ⟨b, rfl, hw1, t1⟩
  go_wp2_with fail
  go_ret
  exact ⟨b, rfl, he0.trans hw1, t1⟩
end Go.Proofs.Ytbbnpicddmplbaa

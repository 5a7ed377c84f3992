/- Package wtree: Check whole. -/
import Derived.Test.YtbbnpicddmplbaaWt15
import Derived.Laws.EntriesVeiled
namespace Go.Proofs.Ytbbnpicddmplbaa
open Go.RowKit Go.Deep
set_option linter.unusedVariables false
set_option linter.unusedSimpArgs false
variable {S : Nat → Prop}

theorem vis_c (d : Bool) (rp : Option Addr) (gc gv gl gt : Nat) (hne : (gc ≠ gl ∧ gv ≠ gl ∧ gt ≠ gl) ∧ ∀ b, S b → b ≠ gl) : ∀ u : T, VisSaid S d rp gc gv gl gt u
  | .nil => vis_nil d rp gc gv gl gt
  | .node b o e l r => vis_node d rp gc gv gl gt b o e l r hne (vis_c d rp gc gv gl gt hne l) (vis_c d rp gc gv gl gt hne r)
set_option maxHeartbeats 1000000 in
/-- Check -/
theorem Check_c {w : World} (hS : Fresh S w) (d : Bool) (rp : Option Addr) {t : T} (ht : TreeV S w rp t) (ha : Avl t) (hso : Sorted d (lst t)) (hg : GoodL (lst t)) (hs : sz t < 10000000000) (hb : tot t < bigN) :
    Calls Try.prog 32 #[.agg #[.bool d, .pointer rp]] w fun e w' => e = .returned (.bool true) ∧ Ext w w' := by
  have HT := Lib.hid (And.intro ht (And.intro ha (And.intro hso (And.intro hg (And.intro hb hS)))))
  clear ht ha hso hg hb hS
  have hrun : ∀ (args : Array Value) (w : World), (callFunc 55 args).run Try.prog w = .ok (.enter 55 args) w := fun args w => by kernel_rfl
  go_enter Try.func32, Try.ntmps32
  go_wp2_with fail
  generalize hW0 : (((w.alloc (.cells #[.bool d, .pointer rp] 27)).alloc (.cells #[.bool true] 4)).alloc (.cells #[.pointer none] 25)).alloc (.cells #[.func (.func 55) #[] #[.pointer (some ⟨w.heap.size + 1, 0, none⟩), .pointer (some ⟨w.heap.size + 1 + 1 + 1, 0, none⟩), .pointer (some ⟨w.heap.size + 1 + 1, 0, none⟩), .pointer (some ⟨w.heap.size, 0, none⟩)]] 96) = w0
  obtain ⟨he0, hb1, hb2, hb3, hb4⟩ := box4 w [.bool d, .pointer rp] [.bool true] [.pointer none] [.func (.func 55) #[] #[.pointer (some ⟨w.heap.size + 1, 0, none⟩), .pointer (some ⟨w.heap.size + 1 + 1 + 1, 0, none⟩), .pointer (some ⟨w.heap.size + 1 + 1, 0, none⟩), .pointer (some ⟨w.heap.size, 0, none⟩)]] _ _ _ _ w0 hW0
  clear hW0 hrun
  have hlt := hb4.lt
  have hI := vis_c (S := fun b => S b ∧ b ≠ w.heap.size + 1 + 1) d rp (w.heap.size + 1) (w.heap.size + 1 + 1 + 1) (w.heap.size + 1 + 1) w.heap.size ⟨⟨by omega, by omega, by omega⟩, fun b h => h.2⟩ t w0 rp none none (fun b h => ⟨HT.out.2.2.2.2.2.ext he0 b h, by omega⟩) ((HT.out.1.old.mono (fun b h => ⟨h.1, by have := h.2; omega⟩)).ext he0) HT.out.2.1 HT.out.2.2.1 HT.out.2.2.2.1 hs HT.out.2.2.2.2.1 hb2 hb4 hb3 hb1 (.inl ⟨rfl, rfl⟩) (fun v hv => by cases hv)
  with_reducible refine hI.mono ?_
  clear hI
  rintro x w1 ⟨⟨xv, rfl⟩, hx, -⟩
  have c1 := (hb2.but (by omega) hx).cell 0
  have hX : Ext w w1 := hx.ext he0 (fun b h => by omega)
  clear hx hb1 hb2 hb3 hb4
  go_wp2_with fail
  go_ret
  exact ⟨rfl, hX⟩
end Go.Proofs.Ytbbnpicddmplbaa

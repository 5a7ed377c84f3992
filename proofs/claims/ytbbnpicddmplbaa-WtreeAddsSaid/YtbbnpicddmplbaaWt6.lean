/- Package wtree: Len, Height, Total; walk, whatever its closure does. -/
import Derived.Test.YtbbnpicddmplbaaWt5
namespace Go.Proofs.Ytbbnpicddmplbaa
open Go.RowKit Go.Deep
set_option linter.unusedVariables false
set_option linter.unusedSimpArgs false
variable {S : Nat → Prop}


set_option maxHeartbeats 1000000 in
theorem Len_c {w : World} {d : Bool} {p : Option Addr} {t : T} (h : TreeV S w p t) :
    Calls Try.prog 18 #[.agg #[.bool d, .pointer p]] w fun e w' => e = .returned (.int .i64 (sz t : Nat)) ∧ Ext w w' := by
  have HT := Lib.hid h
  clear h
  go_enter Try.func18, Try.ntmps18
  go_wp2_with (go_at_call 43; refine (sizeOf_c (HT.out.ext (Ext.alloc _ _))).mono ?_; rintro e w' ⟨rfl, rfl⟩)
  go_ret
  exact ⟨rfl, Ext.alloc _ _⟩
set_option maxHeartbeats 1000000 in
theorem Height_c {w : World} {d : Bool} {p : Option Addr} {t : T} (h : TreeV S w p t) :
    Calls Try.prog 24 #[.agg #[.bool d, .pointer p]] w fun e w' => e = .returned (.int .i64 (ht t : Nat)) ∧ Ext w w' := by
  have HT := Lib.hid h
  clear h
  go_enter Try.func24, Try.ntmps24
  go_wp2_with (go_at_call 50; refine (heightOf_c (HT.out.ext (Ext.alloc _ _))).mono ?_; rintro e w' ⟨rfl, rfl⟩)
  go_ret
  exact ⟨rfl, Ext.alloc _ _⟩
set_option maxHeartbeats 1000000 in
/-- Total -/
theorem Total_c {w : World} (hS : Fresh S w) {d : Bool} {p : Option Addr} {t : T} (h : TreeV S w p t) (hb : tot t < bigN) :
    Calls Try.prog 16 #[.agg #[.bool d, .pointer p]] w fun e w' => ∃ v, e = .returned v ∧ Ext w w' ∧ NatV S w' v (tot t) := by
  obtain ⟨a, k, c, hn, hc⟩ := totalOf_c h
  have HC := Lib.hid hc
  have HN := Lib.hid hn
  have HSF := Lib.hid hS
  have HB := Lib.hid hb
  clear h hc hn hS hb
  go_enter Try.func16, Try.ntmps16
  go_wp2_with fail
  refine (HC.out _ (Ext.alloc _ _)).mono ?_
  rintro e w' ⟨rfl, rfl⟩
  go_wp2_with fail
  obtain ⟨l, hd, nl, el⟩ := HN.out
  have hI := norm_nat (HSF.out.ext (Ext.alloc w _)) (hd.ext (Ext.alloc w (.cells #[.bool d, .pointer p] 27))) (by have := bigK_le (nl.length_of_lt (by rw [el]; exact HB.out)); omega)
  refine hI.mono ?_
  clear hI
  rintro e w2 ⟨v, rfl, hw2, hv⟩
  go_wp2_with fail
  go_ret
  exact ⟨v, rfl, (Ext.alloc _ _).trans hw2, by rw [el] at hv; exact hv⟩

/-- What is asked of a closure that walk calls: at a node it hands back a number; I is what holds on the way, D at the end; n nodes have been visited. -/
structure Chooses (S G : Nat → Prop) (I : T → Nat → World → Prop) (D : Nat → World → Prop) (k : FuncId) (cap : Array Value) : Prop where
  apart : ∀ b, S b → ¬ G b
  keeps : ∀ t n w w', I t n w → Ext w w' → I t n w'
  ends : ∀ n w, I .nil n w → D n w
  runs : ∀ args w, (callFunc k args).run Try.prog w = .ok (.enter k args) w
  step : ∀ b e l r n w, TreeV S w (some ⟨b, 0, none⟩) (.node b 0 e l r) → I (.node b 0 e l r) n w → Calls Try.prog k (#[.pointer (some ⟨b, 0, none⟩)] ++ cap) w fun x w' => ∃ c : Int, x = .returned (.int .i64 c) ∧ ExtBut G w w' ∧ (c < 0 → I l (n + 1) w') ∧ (0 < c → I r (n + 1) w') ∧ (c = 0 → D (n + 1) w')
set_option maxHeartbeats 2000000 in
theorem walk_c {G : Nat → Prop} {I : T → Nat → World → Prop} {D : Nat → World → Prop} {k : FuncId} {cap : Array Value} (hch : Chooses S G I D k cap) {w : World} {d : Bool} {p : Option Addr} {t : T} (h : TreeV S w p t) (hs : sz t < 100000000000) (hi : I t 0 w) :
    Calls Try.prog 44 #[.agg #[.bool d, .pointer p], .func (.func k) #[] cap] w fun e w' => ∃ n : Nat, e = .returned (.int .i64 n) ∧ D n w' ∧ ExtBut G w w' ∧ n ≤ ht t := by
  have HC := Lib.hid hch
  have HT := Lib.hid (And.intro h hi)
  have hht := ht_le_sz t
  clear hch h hi
  go_enter Try.func44, Try.ntmps44
  go_wp2_with fail
  go_loopw [5, 6] (fun vv pv wr => ∃ (n : Nat) (q : Option Addr) (u : T), vv = .int .i64 n ∧ pv = .pointer q ∧ n + ht u ≤ ht t ∧ Hid (TreeV S wr q u ∧ I u n wr ∧ ExtBut G w wr)) (fun vv _ _ => ht t + 1 - (intOf vv).toNat)
  case atStart => exact ⟨0, p, t, rfl, rfl, by omega, HT.out.1.ext (Ext.alloc _ _), HC.out.keeps _ _ _ _ HT.out.2 (Ext.alloc _ _), (Ext.alloc _ _).but G⟩
  case round =>
    obtain ⟨n, q, u, rfl, rfl, hn, HR⟩ := hrel
    clear HT
    cases u with
    | nil =>
      obtain rfl : q = none := HR.out.1.none_iff.2 rfl
      go_wp2_with fail
      go_ret
      simp only [ht] at hn
      exact ⟨n, rfl, HC.out.ends _ _ HR.out.2.1, HR.out.2.2, by omega⟩
    | node b o e l r =>
      obtain ⟨rfl, rfl, wv, tv, lp, rp, -, -, -, -, -⟩ := HR.out.1.open
      have hn' : n + (max (ht l) (ht r) + 1) ≤ ht t := hn
      have hrun := HC.out.runs
      go_wp2_with fail
      clear hrun
      refine (HC.out.step b e l r n wr HR.out.1 HR.out.2.1).mono ?_
      rintro x w1 ⟨c, rfl, hx, k1, k2, k3⟩
      have t1 := HR.out.1.but HC.out.apart hx
      obtain ⟨-, -, wv', tv', lp', rp', hb', -, -, hl', hr'⟩ := t1.open
      have c4 : w1.cell? ⟨b, 4, none⟩ = some (.pointer lp') := hb'.cell 4
      have c5 : w1.cell? ⟨b, 5, none⟩ = some (.pointer rp') := hb'.cell 5
      have HX := Lib.hid (And.intro (HR.out.2.2.trans hx) (And.intro hl' (And.intro hr' (And.intro k1 (And.intro k2 k3)))))
      clear t1 hb' hl' hr' k1 k2 k3 hx HR hn
      rcases Int.lt_trichotomy c 0 with h0 | h0 | h0
      · go_wp2_with fail
        go_roundw
        case rel => exact ⟨n + 1, lp', l, by go_num, rfl, by omega, HX.out.2.1, HX.out.2.2.2.1 h0, HX.out.1⟩
        case measure => simp [intOf]; omega
      · subst h0
        go_wp2_with fail
        go_ret
        exact ⟨n + 1, by go_num, HX.out.2.2.2.2.2 (by first | rfl | trivial), HX.out.1, by omega⟩
      · go_wp2_with fail
        go_roundw
        case rel => exact ⟨n + 1, rp', r, by go_num, rfl, by omega, HX.out.2.2.1, HX.out.2.2.2.2.1 h0, HX.out.1⟩
        case measure => simp [intOf]; omega
end Go.Proofs.Ytbbnpicddmplbaa

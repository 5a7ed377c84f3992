/- Laws of chapter 39: New, is, awake. -/
import Derived.Test.YtbbnpicddmplbaaWt11
namespace Go.Proofs.Ytbbnpicddmplbaa
open Go.RowKit Go.Deep
set_option linter.unusedVariables false
set_option linter.unusedSimpArgs false
variable {S : Nat → Prop}


set_option maxHeartbeats 1000000 in
theorem New_c {w : World} (d : Bool) :
    Calls Try.prog 11 #[.bool d] w fun e w' => e = .returned (.agg #[.bool d, .pointer none]) ∧ Ext w w' := by
  go_enter Try.func11, Try.ntmps11
  go_wp2_with fail
  have hk := Blk.new w [.bool d, .pointer none] 27
  have hx := Ext.alloc w (.cells #[.bool d, .pointer none] 27)
  generalize w.alloc (.cells #[.bool d, .pointer none] 27) = w9 at hk hx ⊢
  have c0 := hk.cell 0
  have c1 := hk.cell 1
  clear hk
  refine bodyPost_ret (v := .agg #[.bool d, .pointer none]) (by simp [results, Try.results11, go_sem, c0, c1]) rfl ?_
  exact ⟨rfl, hx⟩
set_option maxHeartbeats 1000000 in
theorem is_c {w : World} {v : Value} {m : Nat} (h : NatV S w v m) (n : Nat) (hn : n < 18446744073709551616) :
    Calls Try.prog 25 #[v, .int .u64 n] w fun e w' => e = .returned (.bool (decide (m = n))) ∧ Ext w w' := by
  obtain ⟨l, hd, nl, el⟩ := h
  obtain ⟨a, c, rfl, hcap, hcap', -, hdg, hrow⟩ := id hd
  have HD := Lib.hid hd
  have HR := Lib.hid (And.intro hrow (And.intro nl hdg))
  clear hd hrow nl hdg
  go_enter Try.func25, Try.ntmps25
  go_wp2_with fail
  with_reducible refine (uint64_nat HD.out).mono ?_
  rintro e w' ⟨rfl, rfl⟩
  rw [el]
  by_cases hm : m < 18446744073709551616
  · rw [u64Res_in hm]
    by_cases he : m = n
    · subst he
      rcases Nat.eq_zero_or_pos l.length with h0 | h0
      · have hb : ((l.length : Int) == 0) = true := by simp [h0]
        go_wp2_with fail
        go_ret
        exact ⟨rfl, Ext.refl _⟩
      · have hb : ((l.length : Int) == 0) = false := by simp; intro h; simp [h] at h0
        obtain ⟨b, o, rfl, hc⟩ := row_cell HR.out.1 (i := l.length - 1) (by omega)
        have hnz : l.getD (l.length - 1) 0 ≠ 0 := by rcases HR.out.2.1 with h | h; (simp [h] at h0); exact h
        generalize l.getD (l.length - 1) 0 = x at *
        have hx0 : ((x : Int) == 0) = false := by simp; omega
        generalize l.length = k at *
        have hx1 : ((x : Int) != 0) = true := by simp; omega
        go_wp2_with fail
        go_ret
        refine ⟨?_, Ext.refl _⟩
        rfl
    · have hb : ((m : Int) == (n : Int)) = false := by simp; omega
      go_wp2_with fail
      go_ret
      exact ⟨by simp [he], Ext.refl _⟩
  · rw [u64Res_out hm]
    go_wp2_with fail
    go_ret
    have he : m ≠ n := by omega
    exact ⟨by simp [he], Ext.refl _⟩
end Go.Proofs.Ytbbnpicddmplbaa

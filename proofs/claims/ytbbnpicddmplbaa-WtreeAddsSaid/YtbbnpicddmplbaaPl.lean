/- Chapter 39's statements: great, played. -/
import Derived.Test.YtbbnpicddmplbaaPlP
import Derived.Test.YtbbnpicddmplbaaRf2
import Derived.Test.YtbbnpicddmplbaaLw2
import Derived.Test.YtbbnpicddmplbaaWt16
namespace Go.Proofs.Ytbbnpicddmplbaa
open Go.RowKit Go.Deep
set_option linter.unusedVariables false
set_option linter.unusedSimpArgs false
variable {S : Nat → Prop}


def BoolRes (r : Bool) (w : World) (e : Ending) (w' : World) : Prop := e = .returned (.bool r) ∧ Ext w w'
set_option maxHeartbeats 1000000 in
theorem great_c {w : World} {lv : Value} {l : List GAct} (hl : ActsV w lv l) : Calls Try.prog 21 #[lv] w (BoolRes (greatB l) w) := by
  obtain ⟨a, cap, rfl, hc1, hc2, hc3, hrow, hall⟩ := hl
  have HR := Lib.hid (And.intro hrow hall)
  clear hrow hc3 hall
  go_enter Try.func21, Try.ntmps21
  go_wp2_with fail
  go_loopw [3] (fun i wr => ∃ k : Nat, k ≤ l.length ∧ i = .int .i64 k ∧ Hid (Ext w wr ∧ (l.take k).any (fun x => decide (100 < x.v.str.size)) = false)) (fun i _ => l.length - (intOf i).toNat)
  case atStart => exact ⟨0, Nat.zero_le _, rfl, Ext.refl _, rfl⟩
  case round =>
    obtain ⟨k, hk, rfl, HL⟩ := hrel
    have ewr := HL.out.1
    by_cases hkl : k < l.length
    · have hx : l[k]? = some l[k] := List.getElem?_eq_getElem hkl
      obtain ⟨b1, o1, rfl, -, y0, y1, y2, y3, y4⟩ := row_act HR.out.1 hx
      have htk : l.take (k + 1) = l.take k ++ [l[k]] := List.take_succ_eq_append_getElem hkl
      have hmem : l[k] ∈ l := List.getElem_mem _
      have hsz := (HR.out.2 _ hmem).2.2
      generalize l[k] = x at *
      obtain ⟨xq, ⟨xk, xn, xs⟩, xw⟩ := x
      simp only at *
      have HD := Lib.hid (And.intro htk hmem)
      clear htk hx hmem
      by_cases hc : 100 < xs.size
      · have hcb : decide ((100 : Int) < (xs.size : Int)) = true := by simp; omega
        go_wp2_with fail
        go_ret
        refine ⟨?_, ewr⟩
        have : greatB l = true := by
          unfold greatB
          rw [Bool.or_eq_true]
          exact .inl (List.any_eq_true.2 ⟨_, HD.out.2, by simpa using hc⟩)
        rw [this]
        rfl
      · have hcb : decide ((100 : Int) < (xs.size : Int)) = false := by simp; omega
        go_wp2_with fail
        go_roundw
        case rel =>
          refine ⟨k + 1, by omega, by go_num, HL.out.1, ?_⟩
          rw [HD.out.1, List.any_append, HL.out.2]
          simpa using hc
        case measure => simp [intOf]; omega
    · obtain rfl : k = l.length := by omega
      have hany := HL.out.2
      rw [List.take_length] at hany
      have HA := Lib.hid hany
      clear hany
      go_wp2_with fail
      go_ret
      refine ⟨?_, ewr⟩
      have : greatB l = decide ((150 : Int) < (l.length : Int)) := by
        unfold greatB
        rw [HA.out, Bool.false_or]
        simp only [decide_eq_decide]
        omega
      rw [this]
      rfl
end Go.Proofs.Ytbbnpicddmplbaa

/- slices.Compare of numbers: what it returns, and that it changes nothing. -/
import Derived.Test.YtgbhoceamcomfaaGreatWhP
import Derived.Test.YtgbhoceamcomfaaGreatBase
import Derived.Test.YtgbhoceamcomfaaGreatShelf
namespace Go.Proofs.YtgbhoceamcomfaaGreat
open Go.RowKit
set_option linter.unusedVariables false
set_option linter.unusedSimpArgs false
theorem cmpInt_cases (x y : Int) : (x < y ∧ Lib.compareInt x y = -1) ∨ (x = y ∧ Lib.compareInt x y = 0) ∨ (y < x ∧ Lib.compareInt x y = 1) := by
  unfold Lib.compareInt
  by_cases h1 : x < y
  · exact .inl ⟨h1, by simp [h1]⟩
  · by_cases h2 : y < x
    · exact .inr (.inr ⟨h2, by simp [h1, h2]⟩)
    · exact .inr (.inl ⟨by omega, by simp [h1, h2]⟩)
theorem lc_step {a b : List Int} {i : Nat} (ha : i < a.length) (hb : i < b.length) : lcmp (a.drop i) (b.drop i) = if a.getD i 0 < b.getD i 0 then -1 else if b.getD i 0 < a.getD i 0 then 1 else lcmp (a.drop (i + 1)) (b.drop (i + 1)) := by
  rw [List.drop_eq_getElem_cons ha, List.drop_eq_getElem_cons hb]
  simp [lcmp, ha, hb]
theorem lc_end1 {a b : List Int} {i : Nat} (ha : i < a.length) (hb : b.length ≤ i) : lcmp (a.drop i) (b.drop i) = 1 := by
  rw [List.drop_eq_getElem_cons ha, List.drop_of_length_le hb]; rfl
theorem lc_end2 {a b : List Int} {i : Nat} (ha : a.length ≤ i) (hb : i < b.length) : lcmp (a.drop i) (b.drop i) = -1 := by
  rw [List.drop_eq_getElem_cons hb, List.drop_of_length_le ha]; rfl
theorem lc_end3 {a b : List Int} {i : Nat} (ha : a.length ≤ i) (hb : b.length ≤ i) : lcmp (a.drop i) (b.drop i) = 0 := by
  rw [List.drop_of_length_le ha, List.drop_of_length_le hb]; rfl
theorem cells_int {w : World} {p : Option Addr} {a : List Int} (h : RowAt (fun _ => True) w p (a.map (Value.int .i64))) {i : Nat} (hi : i < a.length) : ∃ b o, p = some ⟨b, o, none⟩ ∧ w.cell? ⟨b, o + i, none⟩ = some (.int .i64 (a.getD i 0)) := by
  rcases h with h | ⟨b, o, rfl, _, h⟩
  · rw [List.map_eq_nil_iff] at h; subst h; simp at hi
  · refine ⟨b, o, rfl, ?_⟩
    rw [h i (by simpa using hi)]
    simp [List.getD, hi]
set_option maxHeartbeats 1000000 in
theorem scompare_walk (a b : List Int) (p q : Option Addr) (c d : Nat) (w : World) (ha : RowAt (fun _ => True) w p (a.map (Value.int .i64))) (hb : RowAt (fun _ => True) w q (b.map (Value.int .i64))) (la : a.length ≤ 9223372036854775807) (lb : b.length ≤ 9223372036854775807) :
    Calls Tryz.prog 111 #[.slice p a.length c, .slice q b.length d] w fun e w' => e = .returned (.int .i64 (lcmp a b)) ∧ w' = w := by
  have H1 := Lib.hid ha
  have H2 := Lib.hid hb
  clear ha hb
  go_enter Tryz.func111, Tryz.ntmps111
  go_wp2_with fail
  go_loopw [11] (fun iv wr => ∃ i : Nat, i ≤ a.length ∧ i ≤ b.length ∧ iv = .int .i64 i ∧ Hid (lcmp (a.drop i) (b.drop i) = lcmp a b) ∧ wr = w) (fun iv _ => a.length - (intOf iv).toNat)
  case atStart => exact ⟨0, Nat.zero_le _, Nat.zero_le _, rfl, Lib.hid (by simp), rfl⟩
  case round =>
    obtain ⟨i, h1, h2, rfl, HD, rfl⟩ := hrel
    by_cases h3 : i < a.length
    · obtain ⟨b1, o1, rfl, hc1⟩ := cells_int H1.out h3
      by_cases h4 : i < b.length
      · obtain ⟨b2, o2, rfl, hc2⟩ := cells_int H2.out h4
        have HS := Lib.hid (HD.out.symm.trans (lc_step h3 h4))
        generalize hx : a.getD i 0 = x at *
        generalize hy : b.getD i 0 = y at *
        have HX := Lib.hid (And.intro hx hy)
        clear hx hy
        rcases cmpInt_cases x y with ⟨h5, h6⟩ | ⟨h5, h6⟩ | ⟨h5, h6⟩
        · have HC := Lib.hid h5
          clear h5
          go_wp2_with (go_at_call 99; refine (Tryz.cmp_Compare_int _ _ _).mono ?_; rintro e w' ⟨rfl, rfl⟩; rw [h6])
          go_ret
          exact ⟨by rw [HS.out, if_pos HC.out]; rfl, rfl⟩
        · have HC := Lib.hid h5
          clear h5
          go_wp2_with (go_at_call 99; refine (Tryz.cmp_Compare_int _ _ _).mono ?_; rintro e w' ⟨rfl, rfl⟩; rw [h6])
          go_roundw
          case rel => exact ⟨i + 1, by omega, by omega, by simp, Lib.hid (by rw [HS.out, if_neg (by have := HC.out; omega), if_neg (by have := HC.out; omega)]), by first | rfl | trivial⟩
          case measure => simp [intOf]; omega
        · have HC := Lib.hid h5
          clear h5
          go_wp2_with (go_at_call 99; refine (Tryz.cmp_Compare_int _ _ _).mono ?_; rintro e w' ⟨rfl, rfl⟩; rw [h6])
          go_ret
          exact ⟨by rw [HS.out, if_neg (by have := HC.out; omega), if_pos HC.out]; rfl, rfl⟩
      · have HS := Lib.hid (HD.out.symm.trans (lc_end1 h3 (by omega)))
        go_wp2_with fail
        go_ret
        exact ⟨by rw [HS.out]; rfl, rfl⟩
    · by_cases h4 : i < b.length
      · have HS := Lib.hid (HD.out.symm.trans (lc_end2 (by omega) h4))
        go_wp2_with fail
        go_ret
        exact ⟨by rw [HS.out]; rfl, rfl⟩
      · have HS := Lib.hid (HD.out.symm.trans (lc_end3 (a := a) (b := b) (i := i) (by omega) (by omega)))
        go_wp2_with fail
        go_ret
        exact ⟨by rw [HS.out]; rfl, rfl⟩
end Go.Proofs.YtgbhoceamcomfaaGreat

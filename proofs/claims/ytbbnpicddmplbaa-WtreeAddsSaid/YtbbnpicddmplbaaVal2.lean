/- Values: the contracts of the functions that compare them or ask whether they are valid. -/
import Derived.Test.YtbbnpicddmplbaaVal
namespace Go.Proofs.Ytbbnpicddmplbaa
open Go.RowKit
set_option linter.unusedVariables false
set_option linter.unusedSimpArgs false

set_option maxHeartbeats 400000 in
theorem isNaN_int64 (a : Int) (w : World) :
    Calls Try.prog 68 #[.int .i64 a] w fun e w' => e = .returned (.bool false) ∧ w = w' := by
  go_enter Try.func68, Try.ntmps68
  go_wp2
  go_ret
  exact ⟨by simp, rfl⟩
set_option maxHeartbeats 400000 in
theorem compare_int64 (a b : Int) (w : World) :
    Calls Try.prog 66 #[.int .i64 a, .int .i64 b] w fun e w' => e = .returned (.int .i64 (cmpI a b)) ∧ w = w' := by
  by_cases h1 : a < b
  · go_enter Try.func66, Try.ntmps66
    go_wp2_with (go_at_call 68; refine (isNaN_int64 _ _).mono ?_; rintro e w' ⟨rfl, rfl⟩)
    go_ret
    exact ⟨ret_int (cmpI_lt h1).symm, rfl⟩
  · by_cases h2 : b < a
    · go_enter Try.func66, Try.ntmps66
      go_wp2_with (go_at_call 68; refine (isNaN_int64 _ _).mono ?_; rintro e w' ⟨rfl, rfl⟩)
      go_ret
      exact ⟨ret_int (cmpI_gt h2).symm, rfl⟩
    · go_enter Try.func66, Try.ntmps66
      go_wp2_with (go_at_call 68; refine (isNaN_int64 _ _).mono ?_; rintro e w' ⟨rfl, rfl⟩)
      go_ret
      exact ⟨ret_int (cmpI_eq (by omega)).symm, rfl⟩
set_option maxHeartbeats 1000000 in
set_option maxRecDepth 100000 in
theorem bytealg_compare (a b : ByteArray) (w : World) :
    Calls Try.prog 69 #[.string a, .string b] w fun e w' => e = .returned (.int .i64 (Lib.compareBytes a.data.toList b.data.toList)) ∧ w = w' := by
  go_enter Try.func69, Try.ntmps69
  go_wp2
  rw [run_callFunc_extern Try.func70 (by kernel_rfl) (by kernel_rfl) (by kernel_rfl) (e := Extern.BytealgCompare.compare) (by kernel_rfl), Lib.run_compareString]
  simp only [Result.andThen]
  rw [Oper.upon_value]
  go_wp2
  go_ret
  exact ⟨rfl, rfl⟩
set_option maxHeartbeats 1000000 in
theorem strings_compare (a b : ByteArray) (w : World) :
    Calls Try.prog 67 #[.string a, .string b] w fun e w' => e = .returned (.int .i64 (Lib.compareBytes a.data.toList b.data.toList)) ∧ w = w' := by
  go_enter Try.func67, Try.ntmps67
  go_wp2_with (go_at_call 69; refine (bytealg_compare _ _ _).mono ?_; rintro e w' ⟨rfl, rfl⟩)
  go_ret
  exact ⟨rfl, rfl⟩
theorem ext2 (w : World) (o p : Obj) : Ext w ((w.alloc o).alloc p) := (Ext.alloc _ _).trans (Ext.alloc _ _)
theorem ext3 (w : World) (o p q : Obj) : Ext w (((w.alloc o).alloc p).alloc q) := (ext2 _ _ _).trans (Ext.alloc _ _)
set_option maxHeartbeats 1000000 in
/-- value.Compare -/
theorem value_compare (a b : GV) (w : World) :
    Calls Try.prog 62 #[.agg #[.int .i64 a.kind, .int .i64 a.num, .string a.str], .agg #[.int .i64 b.kind, .int .i64 b.num, .string b.str]] w fun e w' => e = .returned (.int .i64 (vcmp a b)) ∧ Ext w w' := by
  obtain ⟨ak, an, sa⟩ := a
  obtain ⟨bk, bn, sb⟩ := b
  by_cases h1 : ak = bk
  · by_cases h2 : an = bn
    · subst h1 h2
      have hv : vcmp ⟨ak, an, sa⟩ ⟨ak, an, sb⟩ = Lib.compareBytes sa.data.toList sb.data.toList := by simp [vcmp, GV.bytes]
      rw [hv]
      clear hv
      go_enter Try.func62, Try.ntmps62
      go_wp2_with (go_at_call 67; refine (strings_compare _ _ _).mono ?_; rintro e w' ⟨rfl, rfl⟩)
      go_ret
      exact ⟨rfl, ext2 _ _ _⟩
    · subst h1
      have hv : vcmp ⟨ak, an, sa⟩ ⟨ak, bn, sb⟩ = cmpI an bn := by simp [vcmp, h2]
      rw [hv]
      clear hv
      have hb : (an != bn) = true := by simpa using h2
      clear h2
      go_enter Try.func62, Try.ntmps62
      go_wp2_with (go_at_call 66; refine (compare_int64 _ _ _).mono ?_; rintro e w' ⟨rfl, rfl⟩)
      go_ret
      exact ⟨rfl, ext2 _ _ _⟩
  · have hv : vcmp ⟨ak, an, sa⟩ ⟨bk, bn, sb⟩ = cmpI ak bk := by simp [vcmp, h1]
    rw [hv]
    clear hv
    have hb : (ak != bk) = true := by simpa using h1
    clear h1
    go_enter Try.func62, Try.ntmps62
    go_wp2_with (go_at_call 40; refine (compare_int _ _ _).mono ?_; rintro e w' ⟨rfl, rfl⟩)
    go_ret
    exact ⟨rfl, ext2 _ _ _⟩
theorem size_bytes (s : ByteArray) : s.size = s.data.toList.length := Lib.size_eq s
theorem isEmpty_bytes (s : ByteArray) (h : s.data.toList.isEmpty = true) : s.toList = [] ∧ (s.toList.isEmpty = true) := by
  rw [ByteArray.toList_eq]; exact ⟨by simpa using h, h⟩
set_option maxHeartbeats 1000000 in
/-- ordinal/value.Valid -/
theorem value_valid (a : GV) (w : World) :
    Calls Try.prog 38 #[.agg #[.int .i64 a.kind, .int .i64 a.num, .string a.str]] w fun e w' => e = .returned (.bool a.valid) ∧ Ext w w' := by
  obtain ⟨k, n, s⟩ := a
  by_cases h1 : k = 1
  · subst h1
    by_cases h2 : s.data.toList.isEmpty = true
    · have hv : GV.valid ⟨1, n, s⟩ = true := by simp [GV.valid, GV.bytes, h2]
      rw [hv]
      clear hv
      obtain ⟨e1, e2⟩ := isEmpty_bytes s h2
      clear h2
      go_enter Try.func38, Try.ntmps38
      go_wp2
      go_ret
      exact ⟨rfl, Ext.alloc _ _⟩
    · have hv : GV.valid ⟨1, n, s⟩ = false := by
        have h2 : s.data.toList.isEmpty = false := by simpa using h2
        simp [GV.valid, GV.bytes]; simpa using h2
      rw [hv]
      clear hv
      have e1 : s.toList.isEmpty = false := by rw [ByteArray.toList_eq]; simpa using h2
      have e2 : ¬ s.toList = [] := by rw [ByteArray.toList_eq]; simpa using h2
      clear h2
      go_enter Try.func38, Try.ntmps38
      go_wp2
      go_ret
      exact ⟨by simp [e1, e2], Ext.alloc _ _⟩
  · by_cases h2 : k = 2
    · subst h2
      by_cases h3 : n = 0
      · subst h3
        have hv : GV.valid ⟨2, 0, s⟩ = decide (s.size ≤ 24) := by simp [GV.valid, GV.bytes]; exact decide_eq_decide.2 Iff.rfl
        rw [hv]
        clear hv
        by_cases h4 : s.size ≤ 24
        · go_enter Try.func38, Try.ntmps38
          go_wp2
          go_ret
          exact ⟨by simp [h4]; omega, Ext.alloc _ _⟩
        · have h5 : ¬ ((s.size : Int) ≤ 24) := by omega
          go_enter Try.func38, Try.ntmps38
          go_wp2
          go_ret
          exact ⟨by simp [h4], Ext.alloc _ _⟩
      · have hv : GV.valid ⟨2, n, s⟩ = false := by simp [GV.valid, h3]
        rw [hv]
        clear hv
        have hb : (n == 0) = false := by simpa using h3
        clear h3
        go_enter Try.func38, Try.ntmps38
        go_wp2
        go_ret
        exact ⟨rfl, Ext.alloc _ _⟩
    · have hv : GV.valid ⟨k, n, s⟩ = false := by simp [GV.valid, h1, h2]
      rw [hv]
      clear hv
      have b1 : (k == 1) = false := by simpa using h1
      have b2 : (k == 2) = false := by simpa using h2
      clear h1 h2
      go_enter Try.func38, Try.ntmps38
      go_wp2
      go_ret
      exact ⟨rfl, Ext.alloc _ _⟩
set_option maxHeartbeats 1000000 in
/-- ordinal/ordinalref03.Valid -/
theorem ref03_valid (a : GV) (w : World) :
    Calls Try.prog 48 #[.agg #[.int .i64 a.kind, .int .i64 a.num, .string a.str]] w fun e w' => e = .returned (.bool a.valid) ∧ Ext w w' := by
  obtain ⟨k, n, s⟩ := a
  by_cases h1 : k = 1
  · subst h1
    by_cases h2 : s.data.toList.isEmpty = true
    · have hv : GV.valid ⟨1, n, s⟩ = true := by simp [GV.valid, GV.bytes, h2]
      rw [hv]
      clear hv
      obtain ⟨e1, e2⟩ := isEmpty_bytes s h2
      clear h2
      go_enter Try.func48, Try.ntmps48
      go_wp2
      go_ret
      exact ⟨rfl, Ext.alloc _ _⟩
    · have hv : GV.valid ⟨1, n, s⟩ = false := by
        have h2 : s.data.toList.isEmpty = false := by simpa using h2
        simp [GV.valid, GV.bytes]; simpa using h2
      rw [hv]
      clear hv
      have e1 : s.toList.isEmpty = false := by rw [ByteArray.toList_eq]; simpa using h2
      have e2 : ¬ s.toList = [] := by rw [ByteArray.toList_eq]; simpa using h2
      clear h2
      go_enter Try.func48, Try.ntmps48
      go_wp2
      go_ret
      exact ⟨by simp [e1, e2], Ext.alloc _ _⟩
  · by_cases h2 : k = 2
    · subst h2
      by_cases h3 : n = 0
      · subst h3
        have hv : GV.valid ⟨2, 0, s⟩ = decide (s.size ≤ 24) := by simp [GV.valid, GV.bytes]; exact decide_eq_decide.2 Iff.rfl
        rw [hv]
        clear hv
        by_cases h4 : s.size ≤ 24
        · go_enter Try.func48, Try.ntmps48
          go_wp2
          go_ret
          exact ⟨by simp [h4]; omega, Ext.alloc _ _⟩
        · have h5 : ¬ ((s.size : Int) ≤ 24) := by omega
          go_enter Try.func48, Try.ntmps48
          go_wp2
          go_ret
          exact ⟨by simp [h4], Ext.alloc _ _⟩
      · have hv : GV.valid ⟨2, n, s⟩ = false := by simp [GV.valid, h3]
        rw [hv]
        clear hv
        have hb : (n == 0) = false := by simpa using h3
        clear h3
        go_enter Try.func48, Try.ntmps48
        go_wp2
        go_ret
        exact ⟨rfl, Ext.alloc _ _⟩
    · have hv : GV.valid ⟨k, n, s⟩ = false := by simp [GV.valid, h1, h2]
      rw [hv]
      clear hv
      have b1 : (k == 1) = false := by simpa using h1
      have b2 : (k == 2) = false := by simpa using h2
      clear h1 h2
      go_enter Try.func48, Try.ntmps48
      go_wp2
      go_ret
      exact ⟨rfl, Ext.alloc _ _⟩

set_option maxHeartbeats 1000000 in
/-- ref03.Compare: the same order -/
theorem ref03_compare (a b : GV) (w : World) :
    Calls Try.prog 63 #[.agg #[.int .i64 a.kind, .int .i64 a.num, .string a.str], .agg #[.int .i64 b.kind, .int .i64 b.num, .string b.str]] w fun e w' => e = .returned (.int .i64 (vcmp a b)) ∧ Ext w w' := by
  obtain ⟨ak, an, sa⟩ := a
  obtain ⟨bk, bn, sb⟩ := b
  by_cases h1 : ak = bk
  · subst h1
    by_cases h2 : an < bn
    · have hv : vcmp ⟨ak, an, sa⟩ ⟨ak, bn, sb⟩ = -1 := by
        have : ¬ an = bn := by omega
        simp [vcmp, this, cmpI_lt h2]
      rw [hv]
      clear hv
      go_enter Try.func63, Try.ntmps63
      go_wp2
      go_ret
      exact ⟨rfl, ext2 _ _ _⟩
    · by_cases h3 : an = bn
      · subst h3
        have hv : vcmp ⟨ak, an, sa⟩ ⟨ak, an, sb⟩ = Lib.compareBytes sa.data.toList sb.data.toList := by simp [vcmp, GV.bytes]
        rw [hv]
        clear hv
        by_cases h4 : Lib.compareBytes sa.data.toList sb.data.toList = -1
        · rw [h4]
          have hl : Op.bytesLess sa.toList sb.toList = true := by rw [bl_iff, ByteArray.toList_eq, ByteArray.toList_eq]; simpa using h4
          clear h4
          go_enter Try.func63, Try.ntmps63
          go_wp2
          go_ret
          exact ⟨rfl, ext2 _ _ _⟩
        · have hl : Op.bytesLess sa.toList sb.toList = false := by rw [bl_iff, ByteArray.toList_eq, ByteArray.toList_eq]; simpa using h4
          by_cases h5 : sa.data.toList = sb.data.toList
          · rw [h5, cb_refl]
            have he : sa = sb := by
              have := GV.ext (a := ⟨0, 0, sa⟩) (b := ⟨0, 0, sb⟩) rfl rfl h5
              exact congrArg GV.str this
            subst he
            clear h4 h5
            go_enter Try.func63, Try.ntmps63
            go_wp2
            go_ret
            exact ⟨rfl, ext2 _ _ _⟩
          · have h6 : Lib.compareBytes sa.data.toList sb.data.toList = 1 := by
              rcases cb_range sa.data.toList sb.data.toList with h | h | h
              · exact absurd h h4
              · exact absurd (cb_eq h) h5
              · exact h
            rw [h6]
            have he : (sa.toList == sb.toList) = false := by rw [ByteArray.toList_eq, ByteArray.toList_eq]; simpa using h5
            have he2 : ¬ sa.toList = sb.toList := by rw [ByteArray.toList_eq, ByteArray.toList_eq]; exact h5
            clear h4 h5 h6
            go_enter Try.func63, Try.ntmps63
            go_wp2
            go_ret
            exact ⟨rfl, ext2 _ _ _⟩
      · have hv : vcmp ⟨ak, an, sa⟩ ⟨ak, bn, sb⟩ = 1 := by
          simp [vcmp, h3, cmpI_gt (show bn < an by omega)]
        rw [hv]
        clear hv
        have hb : (an == bn) = false := by simpa using h3
        clear h3
        go_enter Try.func63, Try.ntmps63
        go_wp2
        go_ret
        exact ⟨rfl, ext2 _ _ _⟩
  · have hb : (ak != bk) = true := by simpa using h1
    by_cases h2 : ak < bk
    · have hv : vcmp ⟨ak, an, sa⟩ ⟨bk, bn, sb⟩ = -1 := by simp [vcmp, h1, cmpI_lt h2]
      rw [hv]
      clear hv h1
      go_enter Try.func63, Try.ntmps63
      go_wp2
      go_ret
      exact ⟨rfl, ext2 _ _ _⟩
    · have hv : vcmp ⟨ak, an, sa⟩ ⟨bk, bn, sb⟩ = 1 := by simp [vcmp, h1, cmpI_gt (show bk < ak by omega)]
      rw [hv]
      clear hv h1
      go_enter Try.func63, Try.ntmps63
      go_wp2
      go_ret
      exact ⟨rfl, ext2 _ _ _⟩
end Go.Proofs.Ytbbnpicddmplbaa

/- The functions of package nat, each by its contract: trim, Of, Norm, Cmp, Add, Mul, Sum, Uint64 compute what they should, for all numbers that have few digits. -/
import Derived.Test.YtbbnpicddmplbaaRows
import Derived.Test.YtbbnpicddmplbaaBase
import Derived.BigQuiet
import Derived.Lib.SliceRun
import Derived.Deep.QuietTactic
namespace Go.Proofs.Ytbbnpicddmplbaa
open Go.RowKit
set_option linter.unusedVariables false
set_option linter.unusedSimpArgs false
variable {S : Nat → Prop}

/-- -1, 0 or 1 -/
def cmpI (a b : Int) : Int := if a < b then -1 else if b < a then 1 else 0
theorem cmpI_lt {a b : Int} (h : a < b) : cmpI a b = -1 := by simp [cmpI, h]
theorem cmpI_gt {a b : Int} (h : b < a) : cmpI a b = 1 := by
  have : ¬ a < b := by omega
  simp [cmpI, h, this]
theorem cmpI_eq {a b : Int} (h : a = b) : cmpI a b = 0 := by subst h; simp [cmpI]
theorem ret_int {k : IntKind} {a b : Int} (h : a = b) : Ending.returned (.int k a) = .returned (.int k b) := by rw [h]
set_option maxHeartbeats 400000 in
theorem isNaN_int (a : Int) (w : World) :
    Calls Try.prog 60 #[.int .i64 a] w fun e w' => e = .returned (.bool false) ∧ w = w' := by
  go_enter Try.func60, Try.ntmps60
  go_wp2
  go_ret
  exact ⟨by simp, rfl⟩
set_option maxHeartbeats 400000 in
theorem compare_int (a b : Int) (w : World) :
    Calls Try.prog 40 #[.int .i64 a, .int .i64 b] w fun e w' => e = .returned (.int .i64 (cmpI a b)) ∧ w = w' := by
  by_cases h1 : a < b
  · go_enter Try.func40, Try.ntmps40
    go_wp2_with (go_at_call 60; refine (isNaN_int _ _).mono ?_; rintro e w' ⟨rfl, rfl⟩)
    go_ret
    exact ⟨ret_int (cmpI_lt h1).symm, rfl⟩
  · by_cases h2 : b < a
    · go_enter Try.func40, Try.ntmps40
      go_wp2_with (go_at_call 60; refine (isNaN_int _ _).mono ?_; rintro e w' ⟨rfl, rfl⟩)
      go_ret
      exact ⟨ret_int (cmpI_gt h2).symm, rfl⟩
    · go_enter Try.func40, Try.ntmps40
      go_wp2_with (go_at_call 60; refine (isNaN_int _ _).mono ?_; rintro e w' ⟨rfl, rfl⟩)
      go_ret
      exact ⟨ret_int (cmpI_eq (by omega)).symm, rfl⟩
set_option maxHeartbeats 400000 in
theorem isNaN_uint32 (a : Int) (w : World) :
    Calls Try.prog 61 #[.int .u32 a] w fun e w' => e = .returned (.bool false) ∧ w = w' := by
  go_enter Try.func61, Try.ntmps61
  go_wp2
  go_ret
  exact ⟨by simp, rfl⟩
set_option maxHeartbeats 400000 in
theorem compare_uint32 (a b : Int) (w : World) :
    Calls Try.prog 41 #[.int .u32 a, .int .u32 b] w fun e w' => e = .returned (.int .i64 (cmpI a b)) ∧ w = w' := by
  by_cases h1 : a < b
  · go_enter Try.func41, Try.ntmps41
    go_wp2_with (go_at_call 61; refine (isNaN_uint32 _ _).mono ?_; rintro e w' ⟨rfl, rfl⟩)
    go_ret
    exact ⟨ret_int (cmpI_lt h1).symm, rfl⟩
  · by_cases h2 : b < a
    · go_enter Try.func41, Try.ntmps41
      go_wp2_with (go_at_call 61; refine (isNaN_uint32 _ _).mono ?_; rintro e w' ⟨rfl, rfl⟩)
      go_ret
      exact ⟨ret_int (cmpI_gt h2).symm, rfl⟩
    · go_enter Try.func41, Try.ntmps41
      go_wp2_with (go_at_call 61; refine (isNaN_uint32 _ _).mono ?_; rintro e w' ⟨rfl, rfl⟩)
      go_ret
      exact ⟨ret_int (cmpI_eq (by omega)).symm, rfl⟩

set_option maxHeartbeats 400000 in
theorem trim_walk (a : Option Addr) (cap : Nat) (l : List Nat) (w : World) (hl : l.length ≤ cap) (hcap : cap ≤ 9223372036854775807) (hn : a = none → cap = 0)
    (hr : RowAt S w a (l.map fun x => Value.int .u32 (x : Nat))) :
    Calls Try.prog 37 #[.slice a l.length cap] w fun e w' => e = .returned (.slice a (trimLen l l.length) (trimLen l l.length)) ∧ w = w' := by
  have HR := Lib.hid hr
  have HN := Lib.hid hn
  clear hr hn
  go_enter Try.func37, Try.ntmps37
  go_wp2
  go_loop [3] (fun n => ∃ k : Nat, k ≤ l.length ∧ trimLen l l.length = trimLen l k ∧ n = .int .i64 k) (fun n => (intOf n).toNat)
  case atStart => exact ⟨l.length, Nat.le_refl _, rfl, rfl⟩
  case round =>
    obtain ⟨k, hk, hkt, rfl⟩ := hrel
    have HT := Lib.hid hkt; clear hkt
    by_cases h0 : 0 < k
    · obtain ⟨j, rfl⟩ : ∃ j, k = j + 1 := ⟨k-1, by omega⟩
      obtain ⟨b, o, rfl, hcell⟩ := row_cell HR.out (i := j) (by omega)
      clear HN HR
      by_cases hz : l.getD j 0 = 0
      · rw [hz] at hcell
        have HZ := Lib.hid hz; clear hz
        go_wp2
        go_round
        case rel => exact ⟨j, by omega, by rw [HT.out, trimLen, if_pos HZ.out], by go_num⟩
        case measure => simp [intOf]
      · generalize hx : l.getD j 0 = x at *
        have HZ := Lib.hid hz
        have HX := Lib.hid hx
        have hz' : ((x : Int) == 0) = false := by simp; omega
        clear hz hx
        go_wp2
        go_ret
        exact ⟨by rw [HT.out, trimLen, if_neg (by rw [HX.out]; exact HZ.out)]; rfl, rfl⟩
    · obtain rfl : k = 0 := by omega
      cases a with
      | none =>
        obtain rfl : cap = 0 := HN.out rfl
        clear HN HR
        go_wp2
        go_ret
        exact ⟨by rw [HT.out, trimLen]; rfl, rfl⟩
      | some x =>
        clear HN HR
        go_wp2
        go_ret
        exact ⟨by rw [HT.out, trimLen]; rfl, rfl⟩

theorem trim_dig {w : World} {v : Value} {l : List Nat} (h : DigV S w v l) :
    Calls Try.prog 37 #[v] w fun e w' => ∃ v', e = .returned v' ∧ w = w' ∧ DigV S w v' (l.take (trimLen l l.length)) := by
  obtain ⟨a, cap, rfl, h2, h3, h4, h5, h6⟩ := h
  refine (trim_walk a cap l w h2 h3 h4 h6).mono ?_
  rintro e w' ⟨rfl, rfl⟩
  have hle := trimLen_le l l.length
  have hlen : (l.take (trimLen l l.length)).length = trimLen l l.length := by rw [List.length_take]; omega
  refine ⟨_, rfl, rfl, a, trimLen l l.length, by rw [hlen], by rw [hlen]; exact Nat.le_refl _, by omega, fun e => ?_, h5.take _, ?_⟩
  · have := h4 e
    omega
  · rw [List.map_take]; exact h6.take _
/-- trim: the number without leading zeros. -/
theorem trim_nat {w : World} {v : Value} {l : List Nat} (h : DigV S w v l) :
    Calls Try.prog 37 #[v] w fun e w' => ∃ v', e = .returned v' ∧ w = w' ∧ NatV S w v' (nval l) := by
  refine (trim_dig h).mono ?_
  rintro e w' ⟨v', rfl, rfl, h1⟩
  refine ⟨v', rfl, rfl, _, h1, normal_trim l _ (Nat.le_refl _), ?_⟩
  rw [nval_trim l _ (Nat.le_refl _), List.take_length]

/-- Of -/
theorem of_nat {w : World} (hS : Fresh S w) (n : Nat) (hn : n < 18446744073709551616) :
    Calls Try.prog 14 #[.int .u64 n] w fun e w' => ∃ v', e = .returned v' ∧ Ext w w' ∧ NatV S w' v' n := by
  have hd : DigV S (w.alloc (Obj.cells #[Value.int IntKind.u32 (↑n % 4294967296), Value.int IntKind.u32 (↑n / 4294967296)] 32)) (Value.slice (some { block := w.heap.size, off := 0 }) 2 2) [n % 4294967296, n / 4294967296] := by
    refine ⟨_, _, rfl, by simp, by simp, by simp, Digs.mk (by omega) (Digs.mk (by omega) Digs.nil), ?_⟩
    exact rowAt_alloc w (hS _ (Nat.le_refl _)) _ _
  have HD := Lib.hid hd
  clear hd hS
  go_enter Try.func14, Try.ntmps14
  go_wp2_with (go_at_call 37; refine (trim_nat HD.out).mono ?_; rintro e w' ⟨v', rfl, rfl, hv⟩)
  go_ret
  refine ⟨v', rfl, Ext.alloc _ _, ?_⟩
  have e : nval [n % 4294967296, n / 4294967296] = n := by simp [nval]; omega
  rw [e] at hv
  exact hv

set_option maxHeartbeats 400000 in
theorem clone_nil (w : World) :
    Calls Try.prog 36 #[.slice none 0 0] w fun e w' => e = .returned (.slice none 0 0) ∧ w = w'  := by
  have he := fun (w : World) => Lib.run_eql_slice_nil (P := Try.prog) w 30 32 none 0 0 0 0 Try.underlying30
  go_enter Try.func36, Try.ntmps36
  go_wp2
  go_ret
  exact ⟨rfl, rfl⟩
theorem info_u32 : (Try.prog.info? 32).map (fun i => (i.zero, i.size, i.bytes)) = some (some (.int .u32 0), 1, 4) := by kernel_rfl
set_option maxHeartbeats 400000 in
theorem clone_some (x : Addr) (cap : Nat) (l : List Nat) (w : World) (hl : l.length ≤ 35184372088832) (hr : RowAt S w (some x) (l.map fun x => Value.int .u32 (x : Nat))) :
    Calls Try.prog 36 #[.slice (some x) l.length cap] w fun e w' => ∃ v', e = .returned v' ∧ Ext w w' ∧ w'.ownsRow w.heap.size 32 1 v' l.length (l.map fun x => Value.int .u32 (x : Nat)) := by
  obtain ⟨i0, hi, hz0, hz1, hz2⟩ := info_parts info_u32
  have he := fun (w : World) => Lib.run_eql_slice_nil (P := Try.prog) w 30 32 (some x) l.length cap 0 0 Try.underlying30
  have HR := Lib.hid hr
  have HL := Lib.hid hl
  clear hr hl
  go_enter Try.func36, Try.ntmps36
  go_wp2_with (at_builtin; refine wpList_append_row rfl _ _ 30 rfl w.heap.size 32 i0 (.int .u32 0) 1 4 Try.underlying30 hi hz0 hz1 hz2 rfl (by decide) (.slice (some ⟨w.heap.size, 0, none⟩) 0 0) 0 [] rfl (World.ownsRow_made _ #[] 0 (Nat.le_refl _) (Nat.zero_le _) rfl) (some x) l.length cap (l.map fun x => Value.int .u32 (x : Nat)) rfl (by simp) (HR.out.ext (Ext.alloc _ _)) (oneCells_int _ _) (by simp) (by decide) (by have := HL.out; omega) (by simp) ?_; intro v' w' hown hgrow)
  go_ret
  refine ⟨v', rfl, ?_, by simpa using hown⟩
  exact ((Below.refl _ _).alloc (Nat.le_refl _) _).grown hgrow (by simp) (by simp [Value.ownBlock])
/-- slices.Clone: the same digits in new memory -/
theorem clone_dig {w : World} (hS : Fresh S w) {v : Value} {l : List Nat} (h : DigV S w v l) (hl : l.length ≤ 35184372088832) :
    Calls Try.prog 36 #[v] w fun e w' => ∃ v', e = .returned v' ∧ Ext w w' ∧ DigV S w' v' l := by
  obtain ⟨a, cap, rfl, h2, h3, h4, h5, h6⟩ := h
  cases a with
  | none =>
    obtain rfl : cap = 0 := h4 rfl
    obtain rfl : l = [] := List.eq_nil_of_length_eq_zero (by omega)
    refine (clone_nil w).mono ?_
    rintro e w' ⟨rfl, rfl⟩
    exact ⟨_, rfl, Ext.refl _, none, 0, rfl, by simp, by simp, fun _ => rfl, Digs.nil, .inl rfl⟩
  | some x =>
    refine (clone_some x cap l w hl h6).mono ?_
    rintro e w' ⟨v', rfl, he, ho⟩
    obtain ⟨a, c, h7, h8, h9, h10, h11⟩ := own_row (S := S) hS ho
    exact ⟨v', rfl, he, a, c, h7, h8, h9, h10, h5, h11⟩
set_option maxHeartbeats 400000 in
/-- Norm -/
theorem norm_nat {w : World} (hS : Fresh S w) {v : Value} {l : List Nat} (h : DigV S w v l) (hl : l.length ≤ 35184372088832) :
    Calls Try.prog 12 #[v] w fun e w' => ∃ v', e = .returned v' ∧ Ext w w' ∧ NatV S w' v' (nval l) := by
  have HD := Lib.hid h
  have HL := Lib.hid hl
  have HSF := Lib.hid hS
  clear h hl hS
  go_enter Try.func12, Try.ntmps12
  go_wp2_with (first | (go_at_call 37; refine (trim_dig HD.out).mono ?_; rintro e w' ⟨v', rfl, rfl, hv⟩; have HV := Lib.hid hv; clear hv) | (go_at_call 36; refine (clone_dig HSF.out HV.out (by have := HL.out; simp; omega)).mono ?_; rintro e w' ⟨v2, rfl, he, hv2⟩))
  go_ret
  refine ⟨v2, rfl, he, _, hv2, normal_trim l _ (Nat.le_refl _), ?_⟩
  rw [nval_trim l _ (Nat.le_refl _), List.take_length]

set_option maxHeartbeats 400000 in
/-- Cmp -/
theorem cmp_nat {w : World} {v u : Value} {l m : List Nat} (h : DigV S w v l) (h' : DigV S w u m) :
    Calls Try.prog 15 #[v, u] w fun e w' => e = .returned (.int .i64 (cmpI (nval l) (nval m))) ∧ ∃ n, w' = w.drewN n := by
  have H := Lib.hid h
  have H' := Lib.hid h'
  clear h h'
  go_enter Try.func15, Try.ntmps15
  go_wp2_with fail
  refine (trim_nat H.out).mono ?_
  rintro e w' ⟨v', rfl, rfl, a, hv, na, ea⟩
  obtain ⟨aa, acap, rfl, ha1, ha2, ha3, ha4, ha5⟩ := hv
  have H1 := Lib.hid (And.intro ha3 (And.intro ha4 (And.intro ha5 (And.intro na ea))))
  clear ha3 ha4 ha5 na ea
  go_wp2_with fail
  refine (trim_nat H'.out).mono ?_
  rintro e w' ⟨v', rfl, rfl, b, hv, nb, eb⟩
  obtain ⟨ba, bcap, rfl, hb1, hb2, hb3, hb4, hb5⟩ := hv
  have H2 := Lib.hid (And.intro hb3 (And.intro hb4 (And.intro hb5 (And.intro nb eb))))
  clear hb3 hb4 hb5 nb eb
  by_cases hlen : a.length = b.length
  · have hne : ((a.length : Int) != (b.length : Int)) = false := by simp; omega
    have HL := Lib.hid hlen; clear hlen
    go_wp2_with fail
    go_loopw [5] (fun i wr => ∃ k n : Nat, k ≤ a.length ∧ i = .int .i64 ((k : Int) - 1) ∧ a.drop k = b.drop k ∧ wr = w.drewN n) (fun i _ => (intOf i + 1).toNat)
    case atStart => exact ⟨a.length, 0, Nat.le_refl _, rfl, by rw [List.drop_length, HL.out, List.drop_length], rfl⟩
    case round =>
      obtain ⟨k, n, hk, rfl, hd, rfl⟩ := hrel
      have HD := Lib.hid hd; clear hd
      by_cases h0 : 0 < k
      · obtain ⟨j, rfl⟩ : ∃ j, k = j + 1 := ⟨k-1, by omega⟩
        obtain ⟨b1, o1, rfl, hc1⟩ := row_cell H1.out.2.2.1 (i := j) (by omega)
        obtain ⟨b2, o2, rfl, hc2⟩ := row_cell H2.out.2.2.1 (i := j) (by have := HL.out; omega)
        have hlt : (j : Int) < b.length := by have := HL.out; omega
        have ej : ((j + 1 : Nat) : Int) - 1 = (j : Int) := by omega
        rw [ej]
        clear ej
        generalize hx : a.getD j 0 = x at *
        generalize hy : b.getD j 0 = y at *
        have HX := Lib.hid hx
        have HY := Lib.hid hy
        clear hx hy
        by_cases hxy : x = y
        · have hb : ((x : Int) != (y : Int)) = false := by simp; omega
          have HXY := Lib.hid hxy; clear hxy
          go_wp2_with fail
          go_quiet (fail)
          go_wp2_with fail
          go_roundw
          case rel => exact ⟨j, n + nq, by omega, rfl, by rw [drop_step a j (by omega), drop_step b j (by omega), HD.out, HX.out, HY.out, HXY.out], rfl⟩
          case measure => simp [intOf]
        · have hb : ((x : Int) != (y : Int)) = true := by simp; omega
          have HXY := Lib.hid hxy; clear hxy
          go_wp2_with fail
          go_quiet (fail)
          go_wp2_with fail
          go_quiet ((go_at_call 41; first | exact quiet_eq (compare_uint32 _ _ _) | exact quiet_eq_add (compare_uint32 _ _ _) | exact quiet_eq_add3 (compare_uint32 _ _ _)))
          go_wp2_with fail
          go_ret
          refine ⟨ret_int ?_, _, by rw [World.drewN_drewN, World.drewN_drewN]⟩
          obtain ⟨-, da, -, na, ea⟩ := H1.out
          obtain ⟨-, db, -, nb, eb⟩ := H2.out
          rw [← ea, ← eb]
          rcases Nat.lt_or_gt_of_ne HXY.out with h1 | h1
          · have := nval_lt_of_digit da (by omega) (by omega) HD.out (by rw [HX.out, HY.out]; exact h1)
            rw [cmpI_lt (by omega), cmpI_lt (by omega)]
          · have := nval_lt_of_digit db (by omega) (by omega) HD.out.symm (by rw [HX.out, HY.out]; exact h1)
            rw [cmpI_gt (by omega), cmpI_gt (by omega)]
      · obtain rfl : k = 0 := by omega
        go_wp2_with fail
        go_ret
        refine ⟨ret_int ?_, n, rfl⟩
        obtain ⟨-, da, -, na, ea⟩ := H1.out
        obtain ⟨-, db, -, nb, eb⟩ := H2.out
        have hd := HD.out
        simp only [List.drop_zero] at hd
        rw [← ea, ← eb, hd, cmpI_eq rfl]
  · have hne : ((a.length : Int) != (b.length : Int)) = true := by simp; omega
    have HL := Lib.hid hlen; clear hlen
    go_wp2_with (go_at_call 40; refine (compare_int _ _ _).mono ?_; rintro e w' ⟨rfl, rfl⟩)
    go_ret
    refine ⟨ret_int ?_, 0, rfl⟩
    obtain ⟨-, da, -, na, ea⟩ := H1.out
    obtain ⟨-, db, -, nb, eb⟩ := H2.out
    rw [← ea, ← eb]
    rcases Nat.lt_or_gt_of_ne HL.out with h1 | h1
    · rw [cmpI_lt (by omega), cmpI_lt (by have := nb.lt_of_length da h1; omega)]
    · rw [cmpI_gt (by omega), cmpI_gt (by have := na.lt_of_length db h1; omega)]

end Go.Proofs.Ytbbnpicddmplbaa

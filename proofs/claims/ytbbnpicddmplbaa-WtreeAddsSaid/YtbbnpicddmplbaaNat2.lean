/- The functions of package nat, each by its contract, the second part: Add, Mul, Sum, Uint64. -/
import Derived.Test.YtbbnpicddmplbaaNat
namespace Go.Proofs.Ytbbnpicddmplbaa
open Go.RowKit
set_option linter.unusedVariables false
set_option linter.unusedSimpArgs false
variable {S : Nat → Prop}

/-- What holds of a sum at the head of a round. -/
def AddRel (w wr : World) (L S' : List Nat) (k c : Nat) (cur : List Nat) (t : TypeId) : Prop :=
  Ext w wr ∧ cur.length = L.length + 1 ∧ Digs cur ∧ nval (cur.take k) + 4294967296 ^ k * c = nval (L.take k) + nval (S'.take k) ∧ Blk wr w.heap.size (cur.map fun x => Value.int .u32 (x : Nat)) t
theorem add_rel {w wr : World} {L S' cur : List Nat} {k c : Nat} {t : TypeId} (hL : Digs L) (hS : Digs S') (hk : k < L.length) (hc : c ≤ 1) (h : AddRel w wr L S' k c cur t) :
    AddRel w (wr.setCell ⟨w.heap.size, k, none⟩ (.int .u32 (((c : Int) + (L.getD k 0 : Nat) + (S'.getD k 0 : Nat)) % 4294967296))) L S' (k + 1) ((c + L.getD k 0 + S'.getD k 0) / 4294967296) (cur.set k ((c + L.getD k 0 + S'.getD k 0) % 4294967296)) t := by
  obtain ⟨h1, h2, h3, h4, h5⟩ := h
  obtain ⟨h6, h7⟩ := add_step (by omega) hc hL hS h4
  refine ⟨h1.setCell (Nat.le_refl _) _ _, by rw [List.length_set]; exact h2, h3.set _ _ (by omega) (by omega), h7, ?_⟩
  have := h5.set k (.int .u32 (((c + L.getD k 0 + S'.getD k 0) % 4294967296 : Nat) : Int))
  rw [map_set_u32] at this
  simpa using this
theorem add_end {w wr : World} {L S' cur : List Nat} {c : Nat} {t : TypeId} (hS : S w.heap.size) (hc : c ≤ 1) (hk : S'.length ≤ L.length) (hl : L.length ≤ 1000) (h : AddRel w wr L S' L.length c cur t) :
    Ext w (wr.setCell ⟨w.heap.size, L.length, none⟩ (.int .u32 (c : Int))) ∧
    DigV S (wr.setCell ⟨w.heap.size, L.length, none⟩ (.int .u32 (c : Int))) (.slice (some ⟨w.heap.size, 0, none⟩) (L.length + 1) (L.length + 1)) (cur.set L.length c) ∧ nval (cur.set L.length c) = nval L + nval S' := by
  obtain ⟨h1, h2, h3, h4, h5⟩ := h
  have hlen : (cur.set L.length c).length = L.length + 1 := by rw [List.length_set]; exact h2
  refine ⟨h1.setCell (Nat.le_refl _) _ _, ⟨_, L.length + 1, by rw [hlen], by rw [hlen]; exact Nat.le_refl _, by omega, by simp, h3.set _ _ (by omega) (by omega), ?_⟩, ?_⟩
  · have := h5.set L.length (.int .u32 (c : Int))
    rw [map_set_u32] at this
    exact this.row hS
  · have e := nval_take_succ (cur.set L.length c) L.length
    rw [List.take_of_length_le (by omega), take_set, getD_set _ _ _ _ (by omega), if_pos rfl, h4, List.take_length, List.take_of_length_le hk] at e
    exact e
set_option maxHeartbeats 1000000 in
/-- Add -/
theorem add_nat {w : World} (hS : Fresh S w) {v u : Value} {l m : List Nat} (h : DigV S w v l) (h' : DigV S w u m) (hl : nval l < bigN) (hm : nval m < bigN) :
    Calls Try.prog 31 #[v, u] w fun e w' => ∃ v', e = .returned v' ∧ Ext w w' ∧ NatV S w' v' (nval l + nval m) := by
  have H := Lib.hid h
  have H' := Lib.hid h'
  have HLM := Lib.hid (And.intro hl hm)
  obtain ⟨i0, hi, hz0, hz1, hz2⟩ := info_parts info_u32
  have HI := Lib.hid (And.intro hi (And.intro hz0 (And.intro hz1 hz2)))
  have HSF := Lib.hid hS
  clear h h' hl hm hi hz0 hz1 hz2 hS
  go_enter Try.func31, Try.ntmps31
  go_wp2_with fail
  refine (trim_nat H.out).mono ?_
  rintro e w' ⟨v', rfl, rfl, a, hv, na, ea⟩
  obtain ⟨aa, acap, rfl, ha1, ha2, ha3, ha4, ha5⟩ := hv
  have hak : a.length ≤ 1000 := bigK_le (na.length_of_lt (by rw [ea]; exact HLM.out.1))
  have H1 := Lib.hid (And.intro ha4 (And.intro ha5 (And.intro na ea)))
  clear ha3 ha4 ha5 na ea
  go_wp2_with fail
  refine (trim_nat H'.out).mono ?_
  rintro e w' ⟨v', rfl, rfl, b, hv, nb, eb⟩
  obtain ⟨ba, bcap, rfl, hb1, hb2, hb3, hb4, hb5⟩ := hv
  have hbk : b.length ≤ 1000 := bigK_le (nb.length_of_lt (by rw [eb]; exact HLM.out.2))
  have H2 := Lib.hid (And.intro hb4 (And.intro hb5 (And.intro nb eb)))
  clear hb3 hb4 hb5 nb eb H H' HLM
  by_cases hlt : a.length < b.length
  · skip
    go_wp2_with (at_make; refine wpList_make_blk rfl _ _ 30 rfl 32 i0 (.int .u32 0) 4 Try.underlying30 HI.out.1 HI.out.2.1 HI.out.2.2.1 HI.out.2.2.2 rfl .i64 .i64 _ _ (b.length + 1) rfl rfl (by simp) (by simp) (by omega) (by omega) ?_; intro w1 he hblk hsz; have HB := Lib.hid (And.intro he hblk); clear he hblk hsz)
    go_loopw [6, 25] (fun cv i wr => ∃ (k c : Nat) (cur : List Nat), k ≤ b.length ∧ c ≤ 1 ∧ cv = .int .u64 c ∧ i = .int .i64 k ∧ AddRel w wr b a k c cur 32) (fun _ i _ => b.length - (intOf i).toNat)
    case atStart => exact ⟨0, 0, List.replicate (b.length + 1) 0, Nat.zero_le _, by omega, rfl, rfl, HB.out.1, by simp, Digs.replicate _, by simp [nval], by have := HB.out.2; simpa using this⟩
    case round =>
      obtain ⟨k, c, cur, hk, hc, rfl, rfl, hrel⟩ := hrel
      have HR := Lib.hid hrel
      clear hrel HB
      by_cases hkl : k < b.length
      · obtain ⟨b1, o1, rfl, hc1⟩ := row_cell (H2.out.2.1.ext HR.out.1) (i := k) hkl
        have hx := H2.out.1 k
        have hfree := HR.out.2.2.2.2.free k
        obtain ⟨old, hcell⟩ : ∃ old, wr.cell? ⟨w.heap.size, k, none⟩ = some old := by
          rw [HR.out.2.2.2.2.cell k, List.getElem?_map, List.getElem?_eq_getElem (by have := HR.out.2.1; omega)]; exact ⟨_, rfl⟩
        by_cases hks : k < a.length
        · obtain ⟨b2, o2, rfl, hc2⟩ := row_cell (H1.out.2.1.ext HR.out.1) (i := k) hks
          have hy := H1.out.1 k
          have HS := Lib.hid (add_rel H2.out.1 H1.out.1 hkl hc HR.out)
          generalize b.getD k 0 = x at *
          generalize a.getD k 0 = y at *
          go_wp2
          go_roundw
          case rel => exact ⟨k + 1, (c + x + y) / 4294967296, cur.set k ((c + x + y) % 4294967296), by omega, by omega, by congr 1, by go_num, HS.out⟩
          case measure => simp [intOf]; omega
        · have hy : a.getD k 0 = 0 := by rw [List.getD_eq_getElem?_getD, List.getElem?_eq_none (by omega)]; rfl
          have hs := add_rel H2.out.1 H1.out.1 hkl hc HR.out
          rw [hy, Nat.add_zero] at hs
          have HS := Lib.hid hs
          clear hy hs
          generalize b.getD k 0 = x at *
          go_wp2
          go_roundw
          case rel => exact ⟨k + 1, (c + x) / 4294967296, cur.set k ((c + x) % 4294967296), by omega, by omega, by congr 1, by go_num, HS.out⟩
          case measure => simp [intOf]; omega
      · obtain rfl : k = b.length := by omega
        have hfree := HR.out.2.2.2.2.free b.length
        obtain ⟨old, hcell⟩ : ∃ old, wr.cell? ⟨w.heap.size, b.length, none⟩ = some old := by
          rw [HR.out.2.2.2.2.cell b.length, List.getElem?_map, List.getElem?_eq_getElem (by have := HR.out.2.1; omega)]; exact ⟨_, rfl⟩
        have HF := Lib.hid (add_end (S := S) (HSF.out _ (Nat.le_refl _)) hc (by omega) (by omega) HR.out)
        go_wp2_with (go_at_call 37; refine (trim_nat HF.out.2.1).mono ?_; rintro e w' ⟨v', rfl, rfl, hv⟩; have HV := Lib.hid hv; clear hv)
        go_ret
        refine ⟨v', rfl, HF.out.1, ?_⟩
        have hv := HV.out
        rw [HF.out.2.2, H2.out.2.2.2, H1.out.2.2.2] at hv
        first | exact hv | (rw [Nat.add_comm]; exact hv)
  · skip
    go_wp2_with (at_make; refine wpList_make_blk rfl _ _ 30 rfl 32 i0 (.int .u32 0) 4 Try.underlying30 HI.out.1 HI.out.2.1 HI.out.2.2.1 HI.out.2.2.2 rfl .i64 .i64 _ _ (a.length + 1) rfl rfl (by simp) (by simp) (by omega) (by omega) ?_; intro w1 he hblk hsz; have HB := Lib.hid (And.intro he hblk); clear he hblk hsz)
    go_loopw [6, 25] (fun cv i wr => ∃ (k c : Nat) (cur : List Nat), k ≤ a.length ∧ c ≤ 1 ∧ cv = .int .u64 c ∧ i = .int .i64 k ∧ AddRel w wr a b k c cur 32) (fun _ i _ => a.length - (intOf i).toNat)
    case atStart => exact ⟨0, 0, List.replicate (a.length + 1) 0, Nat.zero_le _, by omega, rfl, rfl, HB.out.1, by simp, Digs.replicate _, by simp [nval], by have := HB.out.2; simpa using this⟩
    case round =>
      obtain ⟨k, c, cur, hk, hc, rfl, rfl, hrel⟩ := hrel
      have HR := Lib.hid hrel
      clear hrel HB
      by_cases hkl : k < a.length
      · obtain ⟨b1, o1, rfl, hc1⟩ := row_cell (H1.out.2.1.ext HR.out.1) (i := k) hkl
        have hx := H1.out.1 k
        have hfree := HR.out.2.2.2.2.free k
        obtain ⟨old, hcell⟩ : ∃ old, wr.cell? ⟨w.heap.size, k, none⟩ = some old := by
          rw [HR.out.2.2.2.2.cell k, List.getElem?_map, List.getElem?_eq_getElem (by have := HR.out.2.1; omega)]; exact ⟨_, rfl⟩
        by_cases hks : k < b.length
        · obtain ⟨b2, o2, rfl, hc2⟩ := row_cell (H2.out.2.1.ext HR.out.1) (i := k) hks
          have hy := H2.out.1 k
          have HS := Lib.hid (add_rel H1.out.1 H2.out.1 hkl hc HR.out)
          generalize a.getD k 0 = x at *
          generalize b.getD k 0 = y at *
          go_wp2
          go_roundw
          case rel => exact ⟨k + 1, (c + x + y) / 4294967296, cur.set k ((c + x + y) % 4294967296), by omega, by omega, by congr 1, by go_num, HS.out⟩
          case measure => simp [intOf]; omega
        · have hy : b.getD k 0 = 0 := by rw [List.getD_eq_getElem?_getD, List.getElem?_eq_none (by omega)]; rfl
          have hs := add_rel H1.out.1 H2.out.1 hkl hc HR.out
          rw [hy, Nat.add_zero] at hs
          have HS := Lib.hid hs
          clear hy hs
          generalize a.getD k 0 = x at *
          go_wp2
          go_roundw
          case rel => exact ⟨k + 1, (c + x) / 4294967296, cur.set k ((c + x) % 4294967296), by omega, by omega, by congr 1, by go_num, HS.out⟩
          case measure => simp [intOf]; omega
      · obtain rfl : k = a.length := by omega
        have hfree := HR.out.2.2.2.2.free a.length
        obtain ⟨old, hcell⟩ : ∃ old, wr.cell? ⟨w.heap.size, a.length, none⟩ = some old := by
          rw [HR.out.2.2.2.2.cell a.length, List.getElem?_map, List.getElem?_eq_getElem (by have := HR.out.2.1; omega)]; exact ⟨_, rfl⟩
        have HF := Lib.hid (add_end (S := S) (HSF.out _ (Nat.le_refl _)) hc (by omega) (by omega) HR.out)
        go_wp2_with (go_at_call 37; refine (trim_nat HF.out.2.1).mono ?_; rintro e w' ⟨v', rfl, rfl, hv⟩; have HV := Lib.hid hv; clear hv)
        go_ret
        refine ⟨v', rfl, HF.out.1, ?_⟩
        have hv := HV.out
        rw [HF.out.2.2, H1.out.2.2.2, H2.out.2.2.2] at hv
        first | exact hv | (rw [Nat.add_comm]; exact hv)
/-- Uint64's two results -/
def u64Res (n : Nat) : Value := .tuple #[.int .u64 (if n < 18446744073709551616 then n else 0 : Nat), .bool (decide (n < 18446744073709551616))]
theorem u64Res_in {n : Nat} (h : n < 18446744073709551616) : u64Res n = .tuple #[.int .u64 n, .bool true] := by simp [u64Res, h]
theorem u64Res_out {n : Nat} (h : ¬ n < 18446744073709551616) : u64Res n = .tuple #[.int .u64 0, .bool false] := by simp [u64Res, h]
theorem nval_lt_two {a : List Nat} (h : Digs a) (h2 : a.length ≤ 2) : nval a < 18446744073709551616 := by
  have h1 := nval_lt a h
  have h3 : 4294967296 ^ a.length ≤ 4294967296 ^ 2 := Nat.pow_le_pow_right (by omega) h2
  omega
theorem nval_ge_two {a : List Nat} (h : Normal a) (h2 : 2 < a.length) : 18446744073709551616 ≤ nval a := by
  have h1 := h.ge (by intro e; subst e; simp at h2)
  have h3 : 4294967296 ^ 2 ≤ 4294967296 ^ (a.length - 1) := Nat.pow_le_pow_right (by omega) (by omega)
  omega
theorem or_digits (x y : Nat) (hx : x < 4294967296) (hy : y < 4294967296) : bits .or .u64 (y : Int) ((x : Int) * 4294967296) = ((y + 4294967296 * x : Nat) : Int) := by
  have e : ((x : Int) * 4294967296) = ((x * 4294967296 : Nat) : Int) := by simp
  rw [e, u64_or_nat y (x * 4294967296) (by omega) (by omega)]
  have h : x * 4294967296 ||| y = x * 4294967296 + y := by
    have := Nat.two_pow_add_eq_or_of_lt (i := 32) (b := y) hy x
    rw [show (2 : Nat) ^ 32 * x = x * 4294967296 from by rw [Nat.mul_comm]] at this
    exact this.symm
  rw [Nat.or_comm, h, Nat.add_comm, Nat.mul_comm]
set_option maxHeartbeats 1000000 in
/-- Uint64 -/
theorem uint64_nat {w : World} {v : Value} {l : List Nat} (h : DigV S w v l) :
    Calls Try.prog 30 #[v] w fun e w' => e = .returned (u64Res (nval l)) ∧ w = w' := by
  have H := Lib.hid h
  clear h
  go_enter Try.func30, Try.ntmps30
  go_wp2_with fail
  refine (trim_nat H.out).mono ?_
  rintro e w' ⟨v', rfl, rfl, a, hv, na, ea⟩
  obtain ⟨aa, acap, rfl, ha1, ha2, ha3, ha4, ha5⟩ := hv
  have H1 := Lib.hid (And.intro ha4 (And.intro ha5 (And.intro na ea)))
  clear ha3 ha4 ha5 na ea
  by_cases h2 : a.length ≤ 2
  · have hd2 : decide ((2 : Int) < (a.length : Int)) = false := by simp; omega
    go_wp2_with fail
    go_loop [4, 13] (fun nv i => ∃ k : Nat, k ≤ a.length ∧ nv = .int .u64 (nval (a.take k) : Nat) ∧ i = .int .i64 k) (fun _ i => a.length - (intOf i).toNat)
    case atStart => exact ⟨0, Nat.zero_le _, by simp [nval], rfl⟩
    case round =>
      obtain ⟨k, hk, rfl, rfl⟩ := hrel
      by_cases hkl : k < a.length
      · obtain ⟨b1, o1, rfl, hc1⟩ := row_cell H1.out.2.1 (i := k) hkl
        have hx := H1.out.1 k
        have HN := Lib.hid (nval_take_succ a k)
        generalize a.getD k 0 = x at *
        by_cases hk0 : k = 0
        · subst hk0
          simp only [List.take_zero, nval, Nat.add_zero] at hc1 ⊢
          go_wp2
          go_round
          case rel =>
            refine ⟨1, by omega, ?_, rfl⟩
            rw [HN.out]
            have := u64_or_nat 0 x (by omega) (by omega)
            simp only [Nat.zero_or] at this
            simpa [nval] using this
          case measure => simp [intOf]; omega
        · obtain rfl : k = 1 := by omega
          have hy := nval_lt (a.take 1) (H1.out.1.take 1)
          have hy1 : (a.take 1).length = 1 := by simp; omega
          rw [hy1] at hy
          generalize nval (a.take 1) = y at *
          have hy' : y < 4294967296 := hy
          clear hy hy1
          go_wp2
          go_round
          case rel =>
            refine ⟨2, by omega, ?_, rfl⟩
            rw [HN.out, or_digits x y hx hy']
          case measure => simp [intOf]; omega
      · obtain rfl : k = a.length := by omega
        go_wp2
        go_ret2
        refine ⟨?_, rfl⟩
        rw [← H1.out.2.2.2, u64Res_in (nval_lt_two H1.out.1 h2)]
        rfl
  · go_wp2
    go_ret2
    refine ⟨?_, rfl⟩
    rw [← H1.out.2.2.2, u64Res_out (by have := nval_ge_two H1.out.2.2.1 (by omega); omega)]
    rfl

/-- The values vs read as the numbers ns. -/
def NatsV (S : Nat → Prop) (w : World) (vs : List Value) (ns : List Nat) : Prop := vs.length = ns.length ∧ ∀ i, i < vs.length → NatV S w (vs.getD i undef) (ns.getD i 0)
theorem NatsV.ext {w w' : World} {vs : List Value} {ns : List Nat} (h : NatsV S w vs ns) (e : Ext w w') : NatsV S w' vs ns := ⟨h.1, fun i hi => (h.2 i hi).ext e⟩
theorem sum_take_succ (ns : List Nat) (k : Nat) (h : k < ns.length) : (ns.take (k + 1)).sum = (ns.take k).sum + ns.getD k 0 := by
  rw [take_snoc ns k h]; simp
theorem sum_take_le (ns : List Nat) (k : Nat) : (ns.take k).sum ≤ ns.sum := by
  have : ((ns.take k) ++ (ns.drop k)).sum = ns.sum := by rw [List.take_append_drop]
  rw [List.sum_append] at this
  omega
theorem getD_le_sum (ns : List Nat) (k : Nat) (h : k < ns.length) : ns.getD k 0 ≤ ns.sum := by
  have h1 := sum_take_succ ns k h
  have h2 := sum_take_le ns (k + 1)
  omega
set_option maxHeartbeats 1000000 in
/-- Sum -/
theorem sum_nat {w : World} (hS : Fresh S w) {a : Option Addr} {cap : Nat} {vs : List Value} {ns : List Nat} (hr : RowAt S w a vs) (hv : NatsV S w vs ns) (hs : ns.sum < bigN) (hl : vs.length ≤ 1000000) :
    Calls Try.prog 64 #[.slice a vs.length cap] w fun e w' => ∃ v', e = .returned v' ∧ Ext w w' ∧ NatV S w' v' ns.sum := by
  have HR := Lib.hid hr
  have HV := Lib.hid hv
  have HS := Lib.hid hs
  have HSF := Lib.hid hS
  clear hr hv hs hS
  go_enter Try.func64, Try.ntmps64
  go_wp2_with fail
  go_loopw [3, 7] (fun out i wr => ∃ k : Nat, k ≤ vs.length ∧ i = .int .i64 k ∧ Ext w wr ∧ NatV S wr out (ns.take k).sum) (fun _ i _ => vs.length - (intOf i).toNat)
  case atStart => exact ⟨0, Nat.zero_le _, rfl, Ext.refl _, NatV.zero _⟩
  case round =>
    rename_i out _
    obtain ⟨k, hk, rfl, he, hn⟩ := hrel
    have HN := Lib.hid (And.intro he hn)
    clear he hn
    by_cases hkl : k < vs.length
    · obtain ⟨b1, o1, rfl, hc1⟩ := (HR.out.ext HN.out.1).get (i := k) (v := vs.getD k undef) (by rw [List.getD_eq_getElem?_getD, List.getElem?_eq_getElem hkl]; rfl)
      have HX := Lib.hid ((HV.out.ext HN.out.1).2 k hkl)
      obtain ⟨x, hx⟩ : ∃ x, vs.getD k undef = x := ⟨_, rfl⟩
      rw [hx] at hc1 HX
      have hkn : k < ns.length := by have := HV.out.1; omega
      have HE := Lib.hid (sum_take_succ ns k hkn)
      have HL1 := Lib.hid (sum_take_le ns k)
      have HL2 := Lib.hid (getD_le_sum ns k hkn)
      obtain ⟨dx, hdx, nx, ex⟩ := HX.out
      obtain ⟨dy, hdy, ny, ey⟩ := HN.out.2
      have HD := Lib.hid (And.intro hdx (And.intro hdy (And.intro ex ey)))
      obtain ⟨xa, xc, rfl, -⟩ := hdx
      clear hdy ex ey nx ny HX hx
      go_wp2_with (go_at_call 31; refine (add_nat (HSF.out.ext HN.out.1) HD.out.2.1 HD.out.1 (by rw [HD.out.2.2.2]; have := HS.out; have := HL1.out; omega) (by rw [HD.out.2.2.1]; have := HS.out; have := HL2.out; omega)).mono ?_; rintro e w' ⟨v', rfl, he, hv⟩; have HA := Lib.hid (And.intro he hv); clear he hv)
      go_roundw
      case rel => exact ⟨k + 1, by omega, by go_num, HN.out.1.trans HA.out.1, by have := HA.out.2; rw [HD.out.2.2.1, HD.out.2.2.2] at this; rw [HE.out]; exact this⟩
      case measure => simp [intOf]; omega
    · obtain rfl : k = vs.length := by omega
      go_wp2
      go_ret
      refine ⟨_, rfl, HN.out.1, ?_⟩
      have := HN.out.2
      rw [HV.out.1, List.take_length] at this
      exact this

theorem sum_nat' {w : World} (hS : Fresh S w) {a : Option Addr} {n cap : Nat} {vs : List Value} {ns : List Nat} (hn : vs.length = n) (hr : RowAt S w a vs) (hv : NatsV S w vs ns) (hs : ns.sum < bigN) (hl : n ≤ 1000000) :
    Calls Try.prog 64 #[.slice a n cap] w fun e w' => ∃ v', e = .returned v' ∧ Ext w w' ∧ NatV S w' v' ns.sum := by
  subst hn
  exact sum_nat hS hr hv hs hl
/-- What holds of a product's memory. -/
def MulMem (w wr : World) (cur : List Nat) (t : TypeId) : Prop := Ext w wr ∧ Blk wr w.heap.size (cur.map fun x => Value.int .u32 (x : Nat)) t
theorem MulMem.drewN {w wr : World} {cur : List Nat} {t : TypeId} (h : MulMem w wr cur t) (n : Nat) : MulMem w (wr.drewN n) cur t := ⟨h.1.trans (Ext.drewN _ _), h.2.ext (Ext.drewN _ _)⟩
theorem MulMem.set {w wr : World} {cur : List Nat} {t : TypeId} (h : MulMem w wr cur t) (k : Nat) (v : Nat) (n : Int) (hn : n = v) : MulMem w (wr.setCell ⟨w.heap.size, k, none⟩ (.int .u32 n)) (cur.set k v) t := by
  subst hn
  refine ⟨h.1.setCell (Nat.le_refl _) _ _, ?_⟩
  have := h.2.set k (.int .u32 (v : Int))
  rw [map_set_u32] at this
  exact this
theorem MulMem.cell {w wr : World} {cur : List Nat} {t : TypeId} (h : MulMem w wr cur t) {k : Nat} (hk : k < cur.length) : wr.cell? ⟨w.heap.size, k, none⟩ = some (.int .u32 (cur.getD k 0 : Nat)) := by
  rw [h.2.cell k, List.getElem?_map, List.getD_eq_getElem?_getD, List.getElem?_eq_getElem hk]; rfl
set_option maxHeartbeats 1000000 in
/-- Mul -/
theorem mul_nat {w : World} (hS : Fresh S w) {v u : Value} {l m : List Nat} (h : DigV S w v l) (h' : DigV S w u m) (hl : nval l < bigN) (hm : nval m < bigN) :
    Calls Try.prog 17 #[v, u] w fun e w' => ∃ v', e = .returned v' ∧ Ext w w' ∧ NatV S w' v' (nval l * nval m) := by
  have H := Lib.hid h
  have H' := Lib.hid h'
  have HLM := Lib.hid (And.intro hl hm)
  obtain ⟨i0, hi, hz0, hz1, hz2⟩ := info_parts info_u32
  have HI := Lib.hid (And.intro hi (And.intro hz0 (And.intro hz1 hz2)))
  have HSF := Lib.hid hS
  clear h h' hl hm hi hz0 hz1 hz2 hS
  go_enter Try.func17, Try.ntmps17
  go_wp2_with fail
  refine (trim_nat H.out).mono ?_
  rintro e w' ⟨v', rfl, rfl, a, hv, na, ea⟩
  obtain ⟨aa, acap, rfl, ha1, ha2, ha3, ha4, ha5⟩ := hv
  have hak : a.length ≤ 1000 := bigK_le (na.length_of_lt (by rw [ea]; exact HLM.out.1))
  have H1 := Lib.hid (And.intro ha4 (And.intro ha5 (And.intro na ea)))
  clear ha3 ha4 ha5 na ea
  go_wp2_with fail
  refine (trim_nat H'.out).mono ?_
  rintro e w' ⟨v', rfl, rfl, b, hv, nb, eb⟩
  obtain ⟨ba, bcap, rfl, hb1, hb2, hb3, hb4, hb5⟩ := hv
  have hbk : b.length ≤ 1000 := bigK_le (nb.length_of_lt (by rw [eb]; exact HLM.out.2))
  have H2 := Lib.hid (And.intro hb4 (And.intro hb5 (And.intro nb eb)))
  clear hb3 hb4 hb5 nb eb H H' HLM
  go_wp2_with (at_make; refine wpList_make_blk rfl _ _ 30 rfl 32 i0 (.int .u32 0) 4 Try.underlying30 HI.out.1 HI.out.2.1 HI.out.2.2.1 HI.out.2.2.2 rfl .i64 .i64 _ _ (a.length + b.length) rfl rfl (by simp) (by simp) (by omega) (by omega) ?_; intro w1 he hblk hsz; have HB := Lib.hid (And.intro he hblk); clear he hblk hsz)
  go_loopw [21] (fun iv wr => ∃ (i : Nat) (cur : List Nat), i ≤ a.length ∧ iv = .int .i64 i ∧ Hid (MulMem w wr cur 32 ∧ cur.length = a.length + b.length ∧ Digs cur ∧ (∀ t, i + b.length ≤ t → cur.getD t 0 = 0) ∧ nval cur = nval (a.take i) * nval b)) (fun iv _ => a.length - (intOf iv).toNat)
  case atStart =>
    refine ⟨0, List.replicate (a.length + b.length) 0, Nat.zero_le _, rfl, ⟨HB.out.1, by have := HB.out.2; simpa using this⟩, by simp, Digs.replicate _, fun t ht => ?_, by simp [nval, nval_replicate]⟩
    rw [List.getD_eq_getElem?_getD, List.getElem?_replicate]; split <;> simp
  case round =>
    obtain ⟨i, cur, hi, rfl, HR⟩ := hrel
    clear HB
    by_cases hil : i < a.length
    · obtain ⟨wo, rfl⟩ : ∃ wo : World, wo = wr := ⟨_, rfl⟩
      go_wp2_with fail
      go_loopw [7, 26] (fun cv jv wr => ∃ (j c : Nat) (cur : List Nat), j ≤ b.length ∧ c < 4294967296 ∧ cv = .int .u64 c ∧ jv = .int .i64 j ∧ Hid (MulMem w wr cur 32 ∧ MulRel a b i j c cur)) (fun _ jv _ => b.length - (intOf jv).toNat)
      case atStart => exact ⟨0, 0, cur, Nat.zero_le _, by omega, rfl, rfl, HR.out.1, mul_start HR.out.2.1 HR.out.2.2.1 HR.out.2.2.2.1 HR.out.2.2.2.2⟩
      case round =>
        obtain ⟨j, c, cur, hj, hc, rfl, rfl, HQ⟩ := hrel
        clear HR
        by_cases hjl : j < b.length
        · obtain ⟨b1, o1, rfl, hc1⟩ := row_cell (H1.out.2.1.ext HQ.out.1.1) (i := i) hil
          obtain ⟨b2, o2, rfl, hc2⟩ := row_cell (H2.out.2.1.ext HQ.out.1.1) (i := j) hjl
          have hlen : cur.length = a.length + b.length := HQ.out.2.1
          have hc3 := HQ.out.1.cell (k := i + j) (by omega)
          have hfree := HQ.out.1.2.free (i + j)
          have HS := Lib.hid (mul_step hil hjl HQ.out.2)
          have hx := H1.out.1 i
          have hy := H2.out.1 j
          have ho := HQ.out.2.2.1 (i + j)
          generalize a.getD i 0 = x at *
          generalize b.getD j 0 = y at *
          generalize cur.getD (i + j) 0 = o at *
          obtain ⟨m1, m2, m3⟩ := mul_bound hx hy hc ho
          obtain ⟨p, hp⟩ : ∃ p, x * y = p := ⟨_, rfl⟩
          have HP := Lib.hid hp
          rw [hp] at m1 m2 m3 HS
          have e2 : IntKind.u64.wrap ((x : Int) * (y : Int)) = (p : Int) := by
            rw [← hp, Int.natCast_mul]
            exact IntWalk.u64_in _ (by rw [← Int.natCast_mul, hp]; omega)
          clear hp
          have e1 : IntKind.i64.wrap ((i : Int) + (j : Int)) = (i : Int) + (j : Int) := IntWalk.i64_in _ (by omega)
          have e3 : IntKind.u64.wrap ((p : Int) + (o : Int)) = (p : Int) + (o : Int) := IntWalk.u64_in _ (by omega)
          have e4 : IntKind.u64.wrap ((c : Int) + ((p : Int) + (o : Int))) = (c : Int) + ((p : Int) + (o : Int)) := IntWalk.u64_in _ (by omega)
          have k1 : (0 : Int) ≤ (i : Int) + (j : Int) := by omega
          have k2 : (i : Int) + (j : Int) < (a.length : Int) + (b.length : Int) := by omega
          have k3 : ((i : Int) + (j : Int)).toNat = i + j := by omega
          go_wp2_with fail
          go_quiet (fail)
          clear e2 e3 e4
          go_wp2_with fail
          go_roundw
          case rel => exact ⟨j + 1, (c + (p + o)) / 4294967296, cur.set (i + j) ((c + (p + o)) % 4294967296), by omega, m3, by congr 1, by go_num, (HQ.out.1.drewN _).set _ _ _ (by simp), HS.out⟩
          case measure => simp [intOf]; omega
        · obtain rfl : j = b.length := by omega
          have hlen : cur.length = a.length + b.length := HQ.out.2.1
          have hfree := HQ.out.1.2.free (i + b.length)
          have hc3 := HQ.out.1.cell (k := i + b.length) (by omega)
          go_wp2_with fail
          go_roundw
          case rel =>
            obtain ⟨r1, r2, r3, r4⟩ := mul_end hil hc HQ.out.2
            exact ⟨i + 1, cur.set (i + b.length) c, by omega, by go_num, HQ.out.1.set _ _ _ rfl, r1, r2, r3, r4⟩
          case measure => simp [intOf]; omega
    · obtain rfl : i = a.length := by omega
      have hd : DigV S wr (.slice (some ⟨w.heap.size, 0, none⟩) (a.length + b.length) (a.length + b.length)) cur := ⟨_, _, by rw [HR.out.2.1], by rw [HR.out.2.1]; exact Nat.le_refl _, by omega, by simp, HR.out.2.2.1, HR.out.1.2.row (HSF.out _ (Nat.le_refl _))⟩
      have HD := Lib.hid hd
      clear hd
      go_wp2_with (go_at_call 37; refine (trim_nat HD.out).mono ?_; rintro e w' ⟨v', rfl, rfl, hv⟩; have HV := Lib.hid hv; clear hv)
      go_ret
      refine ⟨v', rfl, HR.out.1.1, ?_⟩
      have hv := HV.out
      rw [HR.out.2.2.2.2, List.take_length, H1.out.2.2.2, H2.out.2.2.2] at hv
      exact hv
end Go.Proofs.Ytbbnpicddmplbaa

/- The elements that came in, as data. -/
import Derived.Test.YtgbhoceamcomfaaGreatRe
import Derived.Test.YtgbhoceamcomfaaGreatDe
namespace Go.Proofs.YtgbhoceamcomfaaGreat
open Go.RowKit
set_option linter.unusedVariables false
set_option linter.unusedSimpArgs false
set_option maxRecDepth 100000
section
variable {P : Program} {n : Nat} {t : TypeId}
theorem in_digits {e : TypeId} (hu : P.underlying t = some (.slice e)) (he : P.underlying e = some (.int .u32)) {ds : List D} (h : Shp P n t ds) : ∃ l : List Nat, ds = [digR l] ∧ Digs l := by
  obtain ⟨m, ls, rfl, h1, _⟩ := shp_slice hu h
  obtain ⟨bs, h2, h3, h4⟩ := lift_rows (g := dig) (Q := fun x => x < 4294967296) fun x hx => by
    obtain ⟨z, rfl, h5⟩ := shp_int he (h1 x hx)
    simp only [inK] at h5
    exact ⟨z.toNat, by show _ = [D.val (.int .u32 ((z.toNat : Nat) : Int))]; rw [show ((z.toNat : Nat) : Int) = z by omega], by omega⟩
  refine ⟨bs, by rw [h2, ← h3], fun i => ?_⟩
  rw [List.getD_eq_getElem?_getD]
  cases hi : bs[i]? with
  | none => simp
  | some x => simpa using h4 x (List.mem_of_getElem? hi)
theorem in_ints {e : TypeId} (hu : P.underlying t = some (.slice e)) (he : P.underlying e = some (.int .i64)) {ds : List D} (h : Shp P n t ds) : ∃ l : List Int, ds = [intsD l] ∧ ∀ z ∈ l, inK .i64 z := by
  obtain ⟨m, ls, rfl, h1, _⟩ := shp_slice hu h
  obtain ⟨bs, h2, h3, h4⟩ := lift_rows (g := intD) (Q := fun x => inK .i64 x) fun x hx => by
    obtain ⟨z, rfl, h5⟩ := shp_int he (h1 x hx)
    exact ⟨z, rfl, h5⟩
  exact ⟨bs, by rw [h2, ← h3], h4⟩
theorem in_why {e e' : TypeId} (hu : P.underlying t = some (.slice e)) (he : P.underlying e = some (.slice e')) (he' : P.underlying e' = some (.int .i64)) {ds : List D} (h : Shp P n t ds) : ∃ w : List (List Int), ds = [whyD w] ∧ ∀ s ∈ w, ∀ z ∈ s, inK .i64 z := by
  obtain ⟨m, ls, rfl, h1, _⟩ := shp_slice hu h
  obtain ⟨bs, h2, h3, h4⟩ := lift_rows (g := intsD) (Q := fun s => ∀ z ∈ s, inK .i64 z) fun x hx => in_ints he he' (h1 x hx)
  exact ⟨bs, by rw [h2, ← h3], h4⟩
theorem len31 {α : Type} {l : List α} (h : l.length = 31) : ∃ a0 a1 a2 a3 a4 a5 a6 a7 a8 a9 a10 a11 a12 a13 a14 a15 a16 a17 a18 a19 a20 a21 a22 a23 a24 a25 a26 a27 a28 a29 a30, l = [a0, a1, a2, a3, a4, a5, a6, a7, a8, a9, a10, a11, a12, a13, a14, a15, a16, a17, a18, a19, a20, a21, a22, a23, a24, a25, a26, a27, a28, a29, a30] := by
  match l, h with
  | [a0, a1, a2, a3, a4, a5, a6, a7, a8, a9, a10, a11, a12, a13, a14, a15, a16, a17, a18, a19, a20, a21, a22, a23, a24, a25, a26, a27, a28, a29, a30], _ => exact ⟨a0, a1, a2, a3, a4, a5, a6, a7, a8, a9, a10, a11, a12, a13, a14, a15, a16, a17, a18, a19, a20, a21, a22, a23, a24, a25, a26, a27, a28, a29, a30, rfl⟩
end
theorem in_extreme {n : Nat} {a b c d e : D} (h : Shp Tryz.prog n 32 [a, b, c, d, e]) : ∃ x : Ex, [a, b, c, d, e] = [.val (.bool x.some), .val (.bool x.top), .val (.int .i64 x.k), .val (.int .i64 x.n), .val (.string x.s)] ∧ x.s.size ≤ maxLen ∧ inK .i64 x.k ∧ inK .i64 x.n := by
  obtain ⟨_, m, hf⟩ := shp_struct Tryz.underlying32 h
  have c1 : Tryz.prog.cellsOf 4 = 1 := by kernel_rfl
  have c2 : Tryz.prog.cellsOf 30 = 3 := by kernel_rfl
  simp only [List.mem_cons, List.not_mem_nil, or_false, forall_eq_or_imp, forall_eq, c1, c2, List.drop_zero, List.drop_succ_cons, List.take_succ_cons, List.take_zero] at hf
  obtain ⟨f0, f1, f2⟩ := hf
  obtain ⟨x0, e0⟩ := shp_bool Tryz.underlying4 f0
  obtain ⟨x1, e1⟩ := shp_bool Tryz.underlying4 f1
  obtain ⟨_, m, hf⟩ := shp_struct Tryz.underlying30 f2
  have c3 : Tryz.prog.cellsOf 3 = 1 := by kernel_rfl
  have c4 : Tryz.prog.cellsOf 2 = 1 := by kernel_rfl
  have c5 : Tryz.prog.cellsOf 9 = 1 := by kernel_rfl
  simp only [List.mem_cons, List.not_mem_nil, or_false, forall_eq_or_imp, forall_eq, c3, c4, c5, List.drop_zero, List.drop_succ_cons, List.take_succ_cons, List.take_zero] at hf
  obtain ⟨g0, g1, g2⟩ := hf
  obtain ⟨x2, e2, k2⟩ := shp_int Tryz.underlying3 g0
  obtain ⟨x3, e3, k3⟩ := shp_int Tryz.underlying2 g1
  obtain ⟨x4, e4, k4⟩ := shp_string Tryz.underlying9 g2
  simp only [List.cons.injEq, and_true] at e0 e1 e2 e3 e4
  subst e0 e1 e2 e3 e4
  exact ⟨⟨x0, x1, x2, x3, x4⟩, rfl, k4, k2, k3⟩
def El.ok (x : El) : Prop := Digs x.n0 ∧ Digs x.n1 ∧ Digs x.n2 ∧ (∀ s ∈ x.w0, ∀ z ∈ s, inK .i64 z) ∧ (∀ s ∈ x.w1, ∀ z ∈ s, inK .i64 z) ∧ (∀ s ∈ x.w2, ∀ z ∈ s, inK .i64 z) ∧
  inK .i16 x.s0 ∧ inK .i16 x.s1 ∧ inK .i16 x.s2 ∧ inK .u8 x.d0 ∧ inK .u8 x.d1 ∧ inK .u8 x.d2
theorem el_in {d : D} (h : ArgD Tryz.prog 38 d) : ∃ x : El, d = x.d ∧ x.ok := by
  obtain ⟨n, ds, rfl, hs⟩ := h.agg (by kernel_rfl)
  obtain ⟨hl, m, hf⟩ := shp_struct Tryz.underlying38 hs
  rw [show Tryz.prog.cellsOf 38 = 31 by kernel_rfl] at hl
  obtain ⟨a0, a1, a2, a3, a4, a5, a6, a7, a8, a9, a10, a11, a12, a13, a14, a15, a16, a17, a18, a19, a20, a21, a22, a23, a24, a25, a26, a27, a28, a29, a30, rfl⟩ := len31 hl
  have c1 : Tryz.prog.cellsOf 4 = 1 := by kernel_rfl
  have c2 : Tryz.prog.cellsOf 24 = 3 := by kernel_rfl
  have c3 : Tryz.prog.cellsOf 25 = 3 := by kernel_rfl
  have c4 : Tryz.prog.cellsOf 27 = 3 := by kernel_rfl
  have c5 : Tryz.prog.cellsOf 28 = 3 := by kernel_rfl
  have c6 : Tryz.prog.cellsOf 33 = 15 := by kernel_rfl
  have c7 : Tryz.prog.cellsOf 36 = 3 := by kernel_rfl
  simp only [List.mem_cons, List.not_mem_nil, or_false, forall_eq_or_imp, forall_eq, c1, c2, c3, c4, c5, c6, c7, List.drop_zero, List.drop_succ_cons, List.take_succ_cons, List.take_zero] at hf
  obtain ⟨f0, f1, f2, f3, f4, f5, f6⟩ := hf
  have d1 : Tryz.prog.cellsOf 23 = 1 := by kernel_rfl
  have d2 : Tryz.prog.cellsOf 26 = 1 := by kernel_rfl
  have d3 : Tryz.prog.cellsOf 5 = 1 := by kernel_rfl
  have d4 : Tryz.prog.cellsOf 32 = 5 := by kernel_rfl
  have d5 : Tryz.prog.cellsOf 35 = 1 := by kernel_rfl
  have three : ∀ {e m : Nat} {l : List D}, (∀ i, i < 3 → Shp Tryz.prog m e ((l.drop (i * Tryz.prog.cellsOf e)).take (Tryz.prog.cellsOf e))) → Shp Tryz.prog m e ((l.drop (0 * Tryz.prog.cellsOf e)).take (Tryz.prog.cellsOf e)) ∧ Shp Tryz.prog m e ((l.drop (1 * Tryz.prog.cellsOf e)).take (Tryz.prog.cellsOf e)) ∧ Shp Tryz.prog m e ((l.drop (2 * Tryz.prog.cellsOf e)).take (Tryz.prog.cellsOf e)) := fun h => ⟨h 0 (by decide), h 1 (by decide), h 2 (by decide)⟩
  obtain ⟨_, m0, h0⟩ := shp_array Tryz.underlying24 f0
  obtain ⟨_, m1, h1⟩ := shp_array Tryz.underlying25 f1
  obtain ⟨_, m2, h2⟩ := shp_array Tryz.underlying27 f2
  obtain ⟨_, m3, h3⟩ := shp_array Tryz.underlying28 f3
  obtain ⟨_, m4, h4⟩ := shp_array Tryz.underlying33 f4
  obtain ⟨_, m5, h5⟩ := shp_array Tryz.underlying36 f5
  have g0 := three h0
  have g1 := three h1
  have g2 := three h2
  have g3 := three h3
  have g4 := three h4
  have g5 := three h5
  simp only [d1, d2, d3, d4, d5, c1, Nat.zero_mul, Nat.one_mul, Nat.reduceMul, List.drop_zero, List.drop_succ_cons, List.take_succ_cons, List.take_zero] at g0 g1 g2 g3 g4 g5
  obtain ⟨n0, e0, k0⟩ := in_digits Tryz.underlying23 Tryz.underlying144 g0.1
  obtain ⟨n1, e1, k1⟩ := in_digits Tryz.underlying23 Tryz.underlying144 g0.2.1
  obtain ⟨n2, e2, k2⟩ := in_digits Tryz.underlying23 Tryz.underlying144 g0.2.2
  obtain ⟨b0, e3⟩ := shp_bool Tryz.underlying4 g1.1
  obtain ⟨b1, e4⟩ := shp_bool Tryz.underlying4 g1.2.1
  obtain ⟨b2, e5⟩ := shp_bool Tryz.underlying4 g1.2.2
  obtain ⟨s0, e6, k6⟩ := shp_int Tryz.underlying26 g2.1
  obtain ⟨s1, e7, k7⟩ := shp_int Tryz.underlying26 g2.2.1
  obtain ⟨s2, e8, k8⟩ := shp_int Tryz.underlying26 g2.2.2
  obtain ⟨t0, e9, k9⟩ := shp_int Tryz.underlying5 g3.1
  obtain ⟨t1, e10, k10⟩ := shp_int Tryz.underlying5 g3.2.1
  obtain ⟨t2, e11, k11⟩ := shp_int Tryz.underlying5 g3.2.2
  obtain ⟨x0, e12, _⟩ := in_extreme g4.1
  obtain ⟨x1, e13, _⟩ := in_extreme g4.2.1
  obtain ⟨x2, e14, _⟩ := in_extreme g4.2.2
  obtain ⟨w0, e15, k15⟩ := in_why Tryz.underlying35 Tryz.underlying63 Tryz.underlying3 g5.1
  obtain ⟨w1, e16, k16⟩ := in_why Tryz.underlying35 Tryz.underlying63 Tryz.underlying3 g5.2.1
  obtain ⟨w2, e17, k17⟩ := in_why Tryz.underlying35 Tryz.underlying63 Tryz.underlying3 g5.2.2
  obtain ⟨b3, e18⟩ := shp_bool Tryz.underlying4 f6
  simp only [List.cons.injEq, and_true] at e0 e1 e2 e3 e4 e5 e6 e7 e8 e9 e10 e11 e12 e13 e14 e15 e16 e17 e18
  obtain ⟨p0, p1, p2, p3, p4⟩ := e12
  obtain ⟨q0, q1, q2, q3, q4⟩ := e13
  obtain ⟨r0, r1, r2, r3, r4⟩ := e14
  subst e0 e1 e2 e3 e4 e5 e6 e7 e8 e9 e10 e11 p0 p1 p2 p3 p4 q0 q1 q2 q3 q4 r0 r1 r2 r3 r4 e15 e16 e17 e18
  exact ⟨⟨n0, n1, n2, b0, b1, b2, s0, s1, s2, t0, t1, t2, x0, x1, x2, w0, w1, w2, b3⟩, rfl, k0, k1, k2, k15, k16, k17, k6, k7, k8, k9, k10, k11⟩
end Go.Proofs.YtgbhoceamcomfaaGreat

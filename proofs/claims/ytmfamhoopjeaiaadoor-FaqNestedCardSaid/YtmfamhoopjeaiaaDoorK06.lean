/- Texts of this claim, joined: FmuP Og FmvP Oh Dmg Dmu FeP RvP FcP Rle Rpu Rn Ef Rch Dch -/
import Derived.Test.YtmfamhoopjeaiaaDoorK05
import Derived.Test.YtmfamhoopjeaiaaDoorProg
set_option linter.unusedVariables false
set_option linter.unusedSimpArgs false
namespace Go.Proofs.YtmfamhoopjeaiaaDoor
section
open Go.RowKit
theorem zKl {U : List Nat} (h : Asc U) : zZx (msk U) = U := by
 refine Asc.ext ⟨(List.pairwise_lt_range (n := 32)).filter _, fun v hv => ?_⟩ h fun v => ?_
 ·have := (List.mem_filter.1 hv).1; simpa using this
 ·simp only [zZx, List.mem_filter, zBx, decide_eq_true_eq, List.mem_range]
  exact ⟨fun h => h.2, fun hv => ⟨h.2 v hv, hv⟩⟩
theorem zBn {A : List Nat} (h : Asc A) : A.length ≤ 32 := by
 rw [← zKl h]
 exact Nat.le_trans (List.length_filter_le _ _) (by simp)
theorem zTe {A : List Nat} (h : Asc A) (p : Nat → Bool) : Asc (A.filter p) := ⟨h.1.filter _, fun v hv => h.2 v (List.mem_filter.1 hv).1⟩
theorem zNc (p : Nat → Bool) (A : List Nat) : (zB1 p A).map (fun j => A.getD j 0) = A.filter p := by
 have e : A = (List.range A.length).map (fun j => A.getD j 0) := by
  apply List.ext_getElem (by simp)
  intro i h1 h2
  simp [List.getD_eq_getElem?_getD, h1]
 conv => rhs; rw [e]
 rw [List.filter_map]; rfl
theorem zJn {p : Nat → Bool} {A : List Nat} {j : Nat} : j ∈ zB1 p A ↔ j < A.length ∧ p (A.getD j 0) = true := by simp [zB1]
theorem zNd (p : Nat → Bool) (A : List Nat) : (zB1 p A).length ≤ A.length := Nat.le_trans (List.length_filter_le _ _) (by simp)
theorem zFg {A : List Nat} (hA : A.Nodup) (p : Nat → Bool) (x : List Va) : zAc x (zB1 p A) = (A.filter p).map (asg A x) := by
 rw [← zNc, List.map_map]
 refine List.map_congr_left fun j hj => ?_
 have h := (zJn.1 hj).1
 simp only [Function.comp, asg]
 rw [List.getD_eq_getElem?_getD (l := A), List.getElem?_eq_getElem h]
 simp only [Option.getD_some]
 rw [List.Nodup.idxOf_getElem hA j h]
theorem zXk {A B : List Nat} (hA : Asc A) (hB : Asc B) {p q : Nat → Bool} (h : ∀ v, (v ∈ A ∧ p v = true) ↔ (v ∈ B ∧ q v = true)) : A.filter p = B.filter q :=
 Asc.ext (zTe hA p) (zTe hB q) fun v => by simpa [List.mem_filter] using h v
theorem zNi (A B : List Nat) (v : Nat) : (msk A &&& msk B).testBit v = (decide (v ∈ A) && decide (v ∈ B)) := by rw [Nat.testBit_and, zBx, zBx]
theorem key_mt {A B : List Nat} (hA : Asc A) (hB : Asc B) (x y : List Va) : zAc y (zB1 (fun v => (msk A &&& msk B).testBit v) B) = zAc x (zB1 (fun v => (msk A &&& msk B).testBit v) A) ↔ mt A x B y = true := by
 rw [zFg hA.nd, zFg hB.nd, zXk hB hA (p := fun v => (msk A &&& msk B).testBit v) (q := fun v => (msk A &&& msk B).testBit v) (fun v => by rw [zNi]; simp only [Bool.and_eq_true, decide_eq_true_eq]; constructor <;> (rintro ⟨h1, h2, h3⟩; exact ⟨by assumption, h2, h3⟩))]
 rw [zDn]
 simp only [mt, List.all_eq_true, List.mem_filter, zNi, Bool.and_eq_true, decide_eq_true_eq]
 constructor
 ·intro h v hv hb; exact (h v ⟨hv, hv, hb⟩).symm
 ·rintro h v ⟨hv, _, hb⟩; exact (h v hv hb).symm
def posL (L : List Rw) (r : Rw) : List Nat := (List.range L.length).filter fun k => decide (L.getD k [] = r)
theorem zZi {α : Type} [Inhabited α] (l : List α) (key : α → Rw) (r : Rw) (hd : ∀ k, k < l.length → (l.map key).getD k [] = key (l.getD k default)) : (posL (l.map key) r).map (fun k => l.getD k default) = l.filter fun q => decide (key q = r) := by
 have e : l = (List.range l.length).map (fun j => l.getD j default) := by
  apply List.ext_getElem (by simp)
  intro i h1 h2
  simp [List.getD_eq_getElem?_getD, h1]
 conv => rhs; rw [e]
 rw [List.filter_map]
 congr 1
 unfold posL
 rw [List.length_map]
 refine List.filter_congr fun k hk => ?_
 have hk : k < l.length := by simpa using hk
 simp only [Function.comp, hd k hk]
theorem zZj (L : List Rw) (i : Nat) (h : i < L.length) (r : Rw) : posL (L.take (i + 1)) r = posL (L.take i) r ++ if L.getD i [] = r then [i] else [] := by
 unfold posL
 have e1 : (L.take (i + 1)).length = i + 1 := by simp; omega
 have e2 : (L.take i).length = i := by simp; omega
 rw [e1, e2, List.range_succ, List.filter_append]
 congr 1
 ·refine List.filter_congr fun k hk => ?_
  have hk : k < i := by simpa using hk
  rw [List.getD_eq_getElem?_getD, List.getD_eq_getElem?_getD, List.getElem?_take, List.getElem?_take, if_pos (by omega), if_pos hk]
 ·have : (L.take (i + 1)).getD i [] = L.getD i [] := by rw [List.getD_eq_getElem?_getD, List.getD_eq_getElem?_getD, List.getElem?_take, if_pos (by omega)]
  simp only [List.filter_cons, List.filter_nil, this, decide_eq_true_eq]
theorem pos_lt {L : List Rw} {r : Rw} {k : Nat} (h : k ∈ posL L r) : k < L.length := by
 have := (List.mem_filter.1 h).1; simpa using this
theorem zMy {L : List Rw} {r : Rw} (h : r ∉ L) : posL L r = [] := by
 unfold posL
 rw [List.filter_eq_nil_iff]
 intro k hk e
 have hk : k < L.length := by simpa using hk
 have e : L.getD k [] = r := by simpa using e
 exact h (by rw [← e, List.getD_eq_getElem?_getD, List.getElem?_eq_getElem hk]; exact List.getElem_mem hk)
abbrev Fn : Type := List Nat × List (Rw × Nat)
def fltF (U : List Nat) (o : Fn) : List Nat × List (List Va) := (zB1 (fun v => (msk o.1 &&& msk U).testBit v) U, allK ((o.2.map (·.1)).map fun r => zAc r (zB1 (fun v => (msk o.1 &&& msk U).testBit v) o.1)))
def faN (o : Fn) : Fa Nat := ⟨o.1, o.2⟩
theorem flt_ok {U : List Nat} (hU : Asc U) {o : Fn} (ho : Asc o.1) (s : List Va) : decide (zAc s (fltF U o).1 ∈ (fltF U o).2) = okO U s (faN o) := by
 rw [Bool.eq_iff_iff]
 simp only [fltF, decide_eq_true_eq, zGy, List.mem_map, List.map_map, okO, List.any_eq_true, List.all_eq_true, faN, Function.comp]
 have e : U.filter (fun v => (msk o.1 &&& msk U).testBit v) = o.1.filter (fun v => (msk o.1 &&& msk U).testBit v) := zXk hU ho fun v => by
  rw [zNi]; simp only [Bool.and_eq_true, decide_eq_true_eq]
  constructor
  ·rintro ⟨h1, h2, h3⟩; exact ⟨h2, h2, h3⟩
  ·rintro ⟨h1, h2, h3⟩; exact ⟨h3, h2, h3⟩
 have key : ∀ q : Rw × Nat, zAc q.1 (zB1 (fun v => (msk o.1 &&& msk U).testBit v) o.1) = zAc s (zB1 (fun v => (msk o.1 &&& msk U).testBit v) U) ↔ ∀ v ∈ o.1, v ∈ U → asg o.1 q.1 v = asg U s v := by
  intro q
  rw [zFg ho.nd, zFg hU.nd, e, zDn]
  simp only [List.mem_filter, zNi, Bool.and_eq_true, decide_eq_true_eq]
  constructor
  ·intro h v hv hu; exact h v ⟨hv, hv, hu⟩
  ·rintro h v ⟨hv, _, hu⟩; exact h v hv hu
 constructor
 ·rintro ⟨q, hq, h⟩; exact ⟨q, hq, fun v hv => decide_eq_true ((key q).1 h v hv)⟩
 ·rintro ⟨q, hq, h⟩; exact ⟨q, hq, (key q).2 fun v hv => of_decide_eq_true (h v hv)⟩
end
section
open Go.RowKit
theorem zYd (L : List Rw) : (allK L).Nodup := by
 have key : ∀ (L K : List Rw), K.Nodup → (L.foldl addK K).Nodup := by
  intro L
  induction L with
  | nil => exact fun K h => h
  | cons a L ih =>
   intro K h
   refine ih _ ?_
   unfold addK
   split
   ·exact h
   ·rename_i hn
    rw [List.nodup_append]
    refine ⟨h, by simp, fun x hx y hy => ?_⟩
    simp only [List.mem_singleton] at hy
    subst hy
    exact fun e => hn (e ▸ hx)
 exact key L [] List.nodup_nil
theorem zQl (L : List Rw) (r : Rw) : allK (L ++ [r]) = addK (allK L) r := by simp [allK]
theorem zEf (L : List Rw) (r s : Rw) : posL (L ++ [r]) s = posL L s ++ if r = s then [L.length] else [] := by
 have h := zZj (L ++ [r]) L.length (by simp) s
 rw [List.take_of_length_le (by simp), List.take_append_of_le_length (Nat.le_refl _), List.take_length] at h
 rw [h]
 simp [List.getD_eq_getElem?_getD]
mutual
/-- does the data name blocks below m alone? -/
def rwB (m : Nat) : D → Bool
 | .own j _ => decide (j < m)
 | .osl j _ _ _ _ => decide (j < m)
 | .osr j _ _ _ _ _ => decide (j < m)
 | .mref j => decide (j < m)
 | .agg cs => rBL m cs
 | .tup cs => rBL m cs
 | .clo _ x y => rBL m x && rBL m y
 | .ifc _ d => rwB m d
 | _ => true
def rBL (m : Nat) : List D → Bool
 | [] => true
 | d :: ds => rwB m d && rBL m ds
end
mutual
theorem zQy {m k : Nat} (hk : m ≤ k) : ∀ d : D, rwB m d = true → refs k d = false
 | .own j o, h => by simp only [rwB, decide_eq_true_eq] at h; simp only [refs, beq_eq_false_iff_ne]; omega
 | .osl j _ _ _ _, h => by simp only [rwB, decide_eq_true_eq] at h; simp only [refs, beq_eq_false_iff_ne]; omega
 | .osr j _ _ _ _ _, h => by simp only [rwB, decide_eq_true_eq] at h; simp only [refs, beq_eq_false_iff_ne]; omega
 | .mref j, h => by simp only [rwB, decide_eq_true_eq] at h; simp only [refs, beq_eq_false_iff_ne]; omega
 | .agg cs, h => by simp only [rwB] at h; simp only [refs]; exact zEc hk cs h
 | .tup cs, h => by simp only [rwB] at h; simp only [refs]; exact zEc hk cs h
 | .clo _ x y, h => by
  simp only [rwB, Bool.and_eq_true] at h
  simp only [refs, zEc hk x h.1, zEc hk y h.2, Bool.or_false]
 | .ifc _ d, h => by simp only [rwB] at h; simp only [refs]; exact zQy hk d h
 | .unk, _ | .val _, _ | .row _ _, _ | .ptr _, _ | .mfz _ _, _ | .fx _, _ => by simp only [refs]
theorem zEc {m k : Nat} (hk : m ≤ k) : ∀ ds : List D, rBL m ds = true → zCv k ds = false
 | [], _ => by simp only [zCv]
 | d :: ds, h => by
  simp only [rBL, Bool.and_eq_true] at h
  simp only [zCv, zQy hk d h.1, zEc hk ds h.2, Bool.or_false]
end
theorem zJl {k : Nat} {d : D} (h : refs k d = false) : zA5 k d = d := by unfold zA5; rw [h]; rfl
theorem zM3 {m k : Nat} (hk : m ≤ k) : ∀ {ds : List D}, rBL m ds = true → ds.map (zA5 k) = ds
 | [], _ => rfl
 | d :: ds, h => by
  simp only [rBL, Bool.and_eq_true] at h
  rw [List.map_cons, zJl (zQy hk d h.1), zM3 hk h.2]
def bBL (m : Nat) (bs : List Bk) : Bool := bs.all fun e => e.nob || rBL m e.cells
def zBz (L : List Rw) : List Nat → List Rw → List D
 | n :: ns, r :: K => .osl n 0 (posL L r).length (posL L r).length true :: zBz L ns K
 | _, _ => []
abbrev gArr (it : TypeId) (L : List Rw) (r : Rw) : Bk := ⟨nsD (posL L r), it, 1, true, false, .plain⟩
structure Grp (m : Nat) (mt it : TypeId) (L : List Rw) (base st : List Bk) (ns : List Nat) : Prop where
 pre : st.take m = base
 mp : st[m]? = some ⟨zBz L ns (allK L), mt, 0, false, false, .map ((allK L).map kyv)⟩
 len : ns.length = (allK L).length
 nd : ns.Nodup
 at_ : ∀ (j k : Nat) (r : Rw), ns[j]? = some k → (allK L)[j]? = some r → m < k ∧ st[k]? = some (gArr it L r)
theorem zC4 {L : List Rw} : ∀ {ns : List Nat} {K : List Rw} (j : Nat), (zBz L ns K)[j]? = match ns[j]?, K[j]? with
  | some n, some r => some (.osl n 0 (posL L r).length (posL L r).length true)
  | _, _ => none
 | [], K, j => by simp [zBz]
 | n :: ns, [], j => by
  simp only [zBz, List.getElem?_nil]
  split <;> simp_all
 | n :: ns, r :: K, 0 => by simp [zBz]
 | n :: ns, r :: K, j + 1 => by simp only [zBz, List.getElem?_cons_succ]; exact zC4 j
theorem zC3 {L : List Rw} : ∀ {ns : List Nat} {K : List Rw}, ns.length = K.length → (zBz L ns K).length = K.length
 | [], [], _ => rfl
 | n :: ns, r :: K, h => by simp only [zBz, List.length_cons]; rw [zC3 (by simpa using h)]
section
variable {P : Program} {T : Par} {ops : Array Oper} {dr : Bool} {l : List Oper} {sl : List D} {st base : List Bk} {K : List D → List Bk → Prop} {m : Nat} {mt it : TypeId} {L : List Rw} {ns : List Nat}
theorem Grp.lt (h : Grp m mt it L base st ns) : m < st.length := (List.getElem?_eq_some_iff.1 h.mp).1
theorem Grp.more (h : Grp m mt it L base st ns) (hb : bBL m base = true) {r : Rw} (hr : r ∈ allK L) {k : Nat} (hk : ns[(allK L).idxOf r]? = some k) (tmp : Bk) (ht : tmp.nob = true) {b' e' : Bk} (hb' : b' = gArr it (L ++ [r]) r)
  (he' : e' = ⟨((zBz L ns (allK L)).map (zA5 k)).set ((allK L).idxOf r) (.osl k 0 (posL (L ++ [r]) r).length (posL (L ++ [r]) r).length true), mt, 0, false, false, .map ((allK L).map kyv)⟩) :
  Grp m mt it (L ++ [r]) base ((((st ++ [tmp]).map (zBy k)).set k b').set m e') ns := by
 subst hb' he'
 have hj := List.idxOf_lt_length_iff.2 hr
 have hrr : (allK L)[(allK L).idxOf r]? = some r := by rw [List.getElem?_eq_getElem hj]; simp
 obtain ⟨hmk, hkst⟩ := h.at_ _ k r hk hrr
 have hall : allK (L ++ [r]) = allK L := by rw [zQl, addK, if_pos hr]
 have hml := h.lt
 have hkl : k < st.length := (List.getElem?_eq_some_iff.1 hkst).1
 have hget : ∀ i, i < st.length → i ≠ m → i ≠ k → ((((st ++ [tmp]).map (zBy k)).set k (gArr it (L ++ [r]) r)).set m ⟨((zBz L ns (allK L)).map (zA5 k)).set ((allK L).idxOf r) (.osl k 0 (posL (L ++ [r]) r).length (posL (L ++ [r]) r).length true), mt, 0, false, false, .map ((allK L).map kyv)⟩)[i]? = (st[i]?).map (zBy k) := fun i hi h1 h2 => by
  rw [List.getElem?_set_ne (Ne.symm h1), List.getElem?_set_ne (Ne.symm h2), List.getElem?_map, List.getElem?_append_left hi]
 refine ⟨?_, ?_, by rw [hall]; exact h.len, h.nd, fun j n s hn hs => ?_⟩
 ·apply List.ext_getElem?
  intro i
  rw [List.getElem?_take]
  split
  ·rename_i hi
   rw [hget i (by omega) (by omega) (by omega)]
   have : base[i]? = st[i]? := by rw [← h.pre, List.getElem?_take, if_pos hi]
   rw [this]
   cases e : st[i]? with
   | none => rfl
   | some x =>
    simp only [Option.map_some, Option.some.injEq]
    have hx : x ∈ base := List.mem_of_getElem? (this.trans e)
    have := List.all_eq_true.1 hb x hx
    simp only [Bool.or_eq_true] at this
    unfold zBy
    split
    ·rfl
    ·rename_i hn
     rw [zM3 (m := m) (by omega) (this.resolve_left hn)]
  ·rename_i hi
   rw [← h.pre, List.getElem?_take, if_neg hi]
 ·rw [List.getElem?_set_self (by simp; omega), hall]
  congr 2
  apply List.ext_getElem?
  intro i
  rw [zC4, List.getElem?_set, List.getElem?_map, zC4]
  have hcl : ((zBz L ns (allK L)).map (zA5 k)).length = (allK L).length := by rw [List.length_map, zC3 h.len]
  by_cases hi : (allK L).idxOf r = i
  ·subst hi
   rw [if_pos rfl, if_pos (by rw [hcl]; exact hj), hk, hrr]
  ·rw [if_neg hi]
   cases e1 : ns[i]? with
   | none => rfl
   | some n =>
    cases e2 : (allK L)[i]? with
    | none => rfl
    | some s =>
     have hne : n ≠ k := fun e => by
      subst e
      have h1 := (List.getElem?_eq_some_iff.1 e1)
      have h2 := (List.getElem?_eq_some_iff.1 hk)
      exact hi ((List.getElem_inj h.nd).1 (h2.2.trans h1.2.symm))
     have hsr : r ≠ s := fun e => by
      subst e
      obtain ⟨h1, h2⟩ := List.getElem?_eq_some_iff.1 e2
      exact hi (by rw [← h2]; exact (zYd L).idxOf_getElem i h1)
     simp only [Option.map_some]
     rw [zJl (by simp only [refs, beq_eq_false_iff_ne]; exact hne), zEf, if_neg hsr, List.append_nil]
 ·rw [hall] at hs
  obtain ⟨h1, h2⟩ := h.at_ j n s hn hs
  refine ⟨h1, ?_⟩
  by_cases hnk : n = k
  ·subst hnk
   have : s = r := by
    obtain ⟨g1, g2⟩ := List.getElem?_eq_some_iff.1 hn
    obtain ⟨g3, g4⟩ := List.getElem?_eq_some_iff.1 hk
    have e : j = (allK L).idxOf r := (List.getElem_inj h.nd).1 (g2.trans g4.symm)
    subst e
    rw [hrr] at hs; cases hs; rfl
   subst this
   rw [List.getElem?_set_ne (by omega), List.getElem?_set_self (by simp; omega)]
  ·have hnl : n < st.length := (List.getElem?_eq_some_iff.1 h2).1
   rw [hget n hnl (by omega) hnk, h2]
   have hsr : r ≠ s := fun e => by
    subst e
    obtain ⟨g1, g2⟩ := List.getElem?_eq_some_iff.1 hs
    have e : (allK L).idxOf r = j := by rw [← g2]; exact (zYd L).idxOf_getElem j g1
    rw [e, hn] at hk; cases hk; exact hnk rfl
   simp only [Option.map_some, Option.some.injEq]
   unfold zBy gArr
   rw [zEf, if_neg hsr, List.append_nil]
   rfl
theorem Grp.new (h : Grp m mt it L base st ns) {r : Rw} (hr : r ∉ allK L) (tmp : Bk) {b' e' : Bk} (hb' : b' = gArr it (L ++ [r]) r)
  (he' : e' = ⟨zBz L ns (allK L) ++ [.osl (st.length + 1) 0 1 1 true], mt, 0, false, false, .map ((allK L ++ [r]).map kyv)⟩) :
  Grp m mt it (L ++ [r]) base ((st ++ [tmp] ++ [b']).set m e') (ns ++ [st.length + 1]) := by
 subst hb' he'
 have hall : allK (L ++ [r]) = allK L ++ [r] := by rw [zQl, addK, if_neg hr]
 have hml := h.lt
 have hrL : r ∉ L := fun hm => hr ((zGy L r).2 hm)
 have hns : ∀ n ∈ ns, m < n ∧ n < st.length := fun n hn => by
  obtain ⟨j, hj, rfl⟩ := List.getElem_of_mem hn
  obtain ⟨h1, h2⟩ := h.at_ j ns[j] _ (List.getElem?_eq_getElem hj) (List.getElem?_eq_getElem (by rw [← h.len]; exact hj))
  exact ⟨h1, (List.getElem?_eq_some_iff.1 h2).1⟩
 have hne : ∀ s ∈ allK L, r ≠ s := fun s hs e => hr (e ▸ hs)
 refine ⟨?_, ?_, by rw [hall]; simp [h.len], ?_, fun j n s hn hs => ?_⟩
 ·rw [← h.pre, List.take_set_of_le (Nat.le_refl _), List.append_assoc, List.take_append_of_le_length (by omega)]
 ·rw [List.getElem?_set_self (by simp; omega), hall]
  congr 2
  apply List.ext_getElem?
  intro i
  rw [zC4]
  rcases Nat.lt_trichotomy i ns.length with hi | hi | hi
  ·have hi2 : i < (allK L).length := by rw [← h.len]; exact hi
   rw [List.getElem?_append_left (by rw [zC3 h.len]; exact hi2), zC4, List.getElem?_append_left hi, List.getElem?_append_left hi2, List.getElem?_eq_getElem hi, List.getElem?_eq_getElem hi2]
   simp only
   rw [zEf, if_neg (hne _ (List.getElem_mem hi2)), List.append_nil]
  ·subst hi
   have hp : posL (L ++ [r]) r = [L.length] := by rw [zEf, if_pos rfl, zMy hrL]; rfl
   rw [List.getElem?_append_right (by rw [zC3 h.len, h.len]; exact Nat.le_refl _), zC3 h.len, List.getElem?_append_right (Nat.le_refl _), List.getElem?_append_right (by rw [h.len]; exact Nat.le_refl _), h.len]
   simp [hp]
  ·have hle := h.len
   rw [List.getElem?_eq_none (by rw [List.length_append, zC3 h.len]; simp; omega), List.getElem?_eq_none (l := ns ++ _) (by simp; omega)]
 ·rw [List.nodup_append]
  refine ⟨h.nd, by simp, fun x hx y hy => ?_⟩
  simp only [List.mem_singleton] at hy
  have := (hns x hx).2
  omega
 ·rw [hall] at hs
  rcases Nat.lt_trichotomy j ns.length with hj | hj | hj
  ·have hj2 : j < (allK L).length := by rw [← h.len]; exact hj
   rw [List.getElem?_append_left hj] at hn
   rw [List.getElem?_append_left hj2] at hs
   obtain ⟨h1, h2⟩ := h.at_ j n s hn hs
   have h3 := (hns n (List.mem_of_getElem? hn)).2
   refine ⟨h1, ?_⟩
   rw [List.getElem?_set_ne (by omega), List.append_assoc, List.getElem?_append_left h3, h2]
   unfold gArr
   rw [zEf, if_neg (hne s (List.mem_of_getElem? hs)), List.append_nil]
  ·subst hj
   rw [List.getElem?_append_right (Nat.le_refl _)] at hn
   rw [List.getElem?_append_right (by rw [h.len]; exact Nat.le_refl _), h.len] at hs
   simp at hn hs
   subst hn hs
   refine ⟨by omega, ?_⟩
   rw [List.getElem?_set_ne (by omega), List.getElem?_append_right (by simp)]
   simp
  ·rw [List.getElem?_eq_none (by simp; omega)] at hn; cases hn
end
end
section
open Go.RowKit
section
variable (A B : List Nat) (lb : List (Rw × Nat)) (ok : Rw → Bool)
def selB (p : Rw × Nat) : List (Rw × Nat) := lb.filter fun q => mt A p.1 B q.1
def prQ (p q : Rw × Nat) : Rw × Nat := (mg A p.1 B q.1, p.2 * q.2)
def zEz (p : Rw × Nat) (l : List (Rw × Nat)) : List (Rw × Nat) := (l.map (prQ A B p)).filter fun s => ok s.1
theorem zLu (la : List (Rw × Nat)) : (zBb (· * ·) A la B lb).filter (fun p => ok p.1) = la.flatMap fun p => zEz A B ok p (selB A B lb p) := by
 unfold zBb zEz selB prQ
 rw [List.filter_flatMap]
variable {A B lb ok}
theorem zT0 (p : Rw × Nat) (l : List (Rw × Nat)) (t : Nat) (h : t < l.length) : zEz A B ok p (l.take (t + 1)) = zEz A B ok p (l.take t) ++ if ok (mg A p.1 B (l.getD t default).1) then [prQ A B p (l.getD t default)] else [] := by
 unfold zEz
 rw [List.take_succ_eq_append_getElem h, List.map_append, List.filter_append, List.getD_eq_getElem?_getD, List.getElem?_eq_getElem h]
 congr 1
 simp only [List.map_cons, List.map_nil, List.filter_cons, List.filter_nil, Option.getD_some]
 rfl
theorem zPd (p : Rw × Nat) (l : List (Rw × Nat)) : (zEz A B ok p l).length ≤ l.length := by
 unfold zEz
 exact Nat.le_trans (List.length_filter_le _ _) (by simp)
theorem zP0 (la : List (Rw × Nat)) : ∀ i, ((la.take i).flatMap fun p => zEz A B ok p (selB A B lb p)).length ≤ i * lb.length := by
 induction la with
 | nil => intro i; simp
 | cons p la ih =>
  intro i
  cases i with
  | zero => simp
  | succ i =>
   rw [List.take_succ_cons, List.flatMap_cons, List.length_append, Nat.succ_mul]
   have h1 := zPd (A := A) (B := B) (ok := ok) p (selB A B lb p)
   have h2 : (selB A B lb p).length ≤ lb.length := List.length_filter_le _ _
   have := ih i
   omega
theorem zVe (la : List (Rw × Nat)) (i : Nat) (h : i < la.length) : (la.take (i + 1)).flatMap (fun p => zEz A B ok p (selB A B lb p)) = (la.take i).flatMap (fun p => zEz A B ok p (selB A B lb p)) ++ zEz A B ok (la.getD i default) (selB A B lb (la.getD i default)) := by
 rw [List.take_succ_eq_append_getElem h, List.flatMap_append, List.getD_eq_getElem?_getD, List.getElem?_eq_getElem h]
 simp
theorem pos_sel (hA : Asc A) (hB : Asc B) (p : Rw × Nat) : (posL ((lb.map (·.1)).map fun r => zAc r (zB1 (fun v => (msk A &&& msk B).testBit v) B)) (zAc p.1 (zB1 (fun v => (msk A &&& msk B).testBit v) A))).map (fun k => lb.getD k default) = selB A B lb p := by
 have h := zZi lb (fun q => zAc q.1 (zB1 (fun v => (msk A &&& msk B).testBit v) B)) (zAc p.1 (zB1 (fun v => (msk A &&& msk B).testBit v) A)) (fun k hk => by simp [List.getD_eq_getElem?_getD, hk])
 rw [List.map_map]
 refine Eq.trans h ?_
 unfold selB
 refine List.filter_congr fun q _ => ?_
 rw [Bool.eq_iff_iff, decide_eq_true_eq]
 exact key_mt hA hB p.1 q.1
end
def zVd (L : List Rw) : List D := (allK L).map fun r => .row (nsD (posL L r)) (posL L r).length
theorem look_g (L : List Rw) (r : Rw) : zHd false nl ((allK L).map kyv) (zVd L) (kyv r) = if r ∈ L then .row (nsD (posL L r)) (posL L r).length else nl := by
 unfold zHd zVd
 rw [zCw, zA6]
 by_cases h : r ∈ L
 ·have h' := (zGy L r).2 h
  have hj := List.idxOf_lt_length_iff.2 h'
  rw [if_pos h', if_pos h]
  simp [ctD, List.getD_eq_getElem?_getD, hj]
 ·have h' : r ∉ allK L := fun k => h ((zGy L r).1 k)
  rw [if_neg h', if_neg h]
  rfl
end
section
open Go.RowKit
theorem zAp {sl : List D} {i j : Nat} (d : D) (h : j ≠ i) : (sl.set i d).getD j .unk = sl.getD j .unk := by
 simp [List.getD_eq_getElem?_getD, List.getElem?_set_ne (Ne.symm h)]
theorem zC8 {sl : List D} {i : Nat} (d : D) (h : i < sl.length) : (sl.set i d).getD i .unk = d := by
 simp [List.getD_eq_getElem?_getD, h]
section
variable {P : Program} {T : Par} {ops : Array Oper} {dr : Bool} {l : List Oper} {sl : List D} {st base : List Bk} {K : List D → List Bk → Prop} {m : Nat} {mt it kt tS : TypeId} {L : List Rw} {ns : List Nat} {inf : TypeInfo}
structure GTy (P : Program) (T : Par) (mt kt tS it : TypeId) (inf : TypeInfo) : Prop where
 hmt : P.underlying mt = some (.map kt tS)
 hkt : P.underlying kt = some .string
 hts : P.underlying tS = some (.slice it)
 hzv : zYq P tS = some nl
 hsz : tySz P it = some 1
 hzd : zDq P it = some [iD 0]
 hif : P.info? it = some inf
 hi1 : inf.size = 1
 hi8 : inf.bytes = 8
 hsh : T.sh it = false
theorem zY2 (ty : GTy P T mt kt tS it inf) (hkp : ∀ k, m < k → T.keep k = false) {r : Rw} {i : Nat} (hi : i = L.length) (hil : i ≤ 1000000) {o1 o2 o3 o4 o5 : Oper} {a1 a2 a3 b1 b2 s1 s2 s3 s4 : Nat}
  (g1 : o1.guard = none) (g2 : o2.guard = none) (g3 : o3.guard = none) (g4 : o4.guard = none) (g5 : o5.guard = none)
  (p1 : o1.op = .lookup mt (.tmp a1) (.tmp a2) false) (p2 : o2.op = .move (.tmp a3)) (p3 : o3.op = .buildSlice tS 1 #[(0, .tmp s2)]) (p4 : o4.op = .call { callee := .builtin .append, args := #[.tmp s1, .tmp s3], argTypes := #[tS, tS] }) (p5 : o5.op = .mapUpdate mt (.tmp b1) (.tmp b2) (.tmp s4))
  (d1 : o1.dst = some s1) (d2 : o2.dst = some s2) (d3 : o3.dst = some s3) (d4 : o4.dst = some s4) (d5 : o5.dst = none)
  (hlen : (decide (s1 < sl.length) && decide (s2 < sl.length) && decide (s3 < sl.length) && decide (s4 < sl.length)) = true) (hne : (s1 ≠ s2 ∧ s1 ≠ s3 ∧ s1 ≠ s4 ∧ s2 ≠ s3 ∧ s2 ≠ s4 ∧ s3 ≠ s4) ∧ (a3 ≠ s1 ∧ b1 ≠ s1 ∧ b1 ≠ s2 ∧ b1 ≠ s3 ∧ b1 ≠ s4 ∧ b2 ≠ s1 ∧ b2 ≠ s2 ∧ b2 ≠ s3 ∧ b2 ≠ s4))
  (v1 : sl.getD a1 .unk = .mref m) (v2 : sl.getD a2 .unk = .val (kyv r)) (v3 : sl.getD a3 .unk = iD i) (v4 : sl.getD b1 .unk = .mref m) (v5 : sl.getD b2 .unk = .val (kyv r))
  (hrb : rBL (m + 1) sl = true) (hbb : bBL m base = true) (hG : Grp m mt it L base st ns)
  (next : ∀ st' ns' e1 e3 e4, Grp m mt it (L ++ [r]) base st' ns' → seqW P T ops dr l ((((sl.set s1 e1).set s2 (iD i)).set s3 e3).set s4 e4) st' K) :
  seqW P T ops dr (o1 :: o2 :: o3 :: o4 :: o5 :: l) sl st K := by
 simp only [Bool.and_eq_true, decide_eq_true_eq] at hlen
 obtain ⟨⟨⟨l1, l2⟩, l3⟩, l4⟩ := hlen
 obtain ⟨⟨n1, n2, n3, n4, n5, n6⟩, m1, m2, m3, m4, m5, m6, m7, m8, m9⟩ := hne
 have hml := hG.lt
 have hpl : (posL L r).length ≤ 1000000 := by
  unfold posL
  exact Nat.le_trans (List.length_filter_le _ _) (by simp; omega)
 have hkeyf : (zX .string (kyv r) = true ∧ ((allK L).map kyv).all (zX .string) = true) := ⟨rfl, zE7 _⟩
 -- the look-up
 have e1 : aeff P T o1.op o1.type (evD sl) st = .get (zX .string (kyv r) = true ∧ ((allK L).map kyv).all (zX .string) = true) (zHd false nl ((allK L).map kyv) (zBz L ns (allK L)) (kyv r)) := by
  rw [p1]
  simp only [aeff, evD, v1, v2, zHr, ty.hmt, hG.mp, zFc, ty.hkt, ty.hzv]
 refine zCe g1 (go_get e1 (by rw [p1]; rfl) hkeyf rfl ?_)
 rw [d1]
 simp only [putD]
 generalize hd1 : zHd false nl ((allK L).map kyv) (zBz L ns (allK L)) (kyv r) = D1
 have e2 : aeff P T o2.op o2.type (evD (sl.set s1 D1)) st = .lit True (iD i) := by
  rw [p2]
  simp only [aeff, evD, zAp D1 m1, v3]
 refine zCe g2 (zXf e2 (by rw [p2]; rfl) trivial rfl ?_)
 rw [d2]
 simp only [putD]
 -- the array of one place
 have e3 : aeff P T o3.op o3.type (evD ((sl.set s1 D1).set s2 (iD i))) st = .new (True ∧ 0 < 1 ∧ 1 = 1 ∧ 1 * 1 ≤ 16777216 ∧ 1 ≤ 9223372036854775807) ⟨[iD i], it, 1, true, false, .plain⟩ (.osl st.length 0 1 (1 * 1) true) [] := by
  rw [p3]
  have hev : evD ((sl.set s1 D1).set s2 (iD i)) (.tmp s2) = iD i := by
   simp only [evD]
   exact zC8 _ (by simpa using l2)
  have hes : zFx P T tS = false := by simp only [zFx, ty.hts, ty.hsh]
  simp only [aeff, hes, Bool.false_eq_true, if_false, List.map_cons, List.map_nil, hev, zCd, ty.hts, ty.hsz, ty.hzd]
  simp [zFl, frz, zAl, zG0, repL, setAt, zEl, cellsOf, zE4]
  rfl
 refine zCe g3 (zXe e3 (by rw [p3]; rfl) (by decide) rfl rfl ?_)
 rw [d3]
 simp only [putD, zAe, List.foldl_nil, Nat.mul_one]
 generalize htmp : (⟨[iD i], it, 1, true, false, .plain⟩ : Bk) = tmp
 have htn : tmp.nob = true := by rw [← htmp]; rfl
 have hs3 : (((sl.set s1 D1).set s2 (iD i)).set s3 (.osl st.length 0 1 1 true)).getD s3 .unk = .osl st.length 0 1 1 true := zC8 _ (by simpa using l3)
 have hs1 : (((sl.set s1 D1).set s2 (iD i)).set s3 (.osl st.length 0 1 1 true)).getD s1 .unk = D1 := by
  rw [zAp _ n2, zAp _ n1, zC8 _ l1]
 have hnew : (st ++ [tmp])[st.length]? = some tmp := by simp
 have hsrc : zD8 false (st ++ [tmp]) (.osl st.length 0 1 1 true) = some ([iD i], 1) := by
  simp only [zD8, hnew]
  rw [← htmp]; rfl
 have hsh : zFx P T tS = false := by simp only [zFx, ty.hts, ty.hsh]
 have hmu : ∀ (sl' : List D) (st' : List Bk) (e : Bk) (d : D), sl'.getD b1 .unk = .mref m → sl'.getD b2 .unk = .val (kyv r) → sl'.getD s4 .unk = d → st'[m]? = some e → e.kd = .map ((allK L).map kyv) → e.nob = false → e.fz = false →
   aeff P T o5.op o5.type (evD sl') st' = .put (e.fz = false ∧ zX .string (kyv r) = true ∧ ((allK L).map kyv).all (zX .string) = true) m (mput e ((allK L).map kyv) (kyv r) d) [] := fun sl' st' e d q1 q2 q3 q4 q5 q6 q7 => by
  rw [p5]
  simp only [aeff, evD, q1, q2, q3, zCc, ty.hmt, q4, ty.hkt, q5, q6, Bool.false_eq_true, if_false]
 by_cases hr : r ∈ allK L
 ·have hj := List.idxOf_lt_length_iff.2 hr
  obtain ⟨k, hk⟩ : ∃ k, ns[(allK L).idxOf r]? = some k := ⟨ns[(allK L).idxOf r]'(by rw [hG.len]; exact hj), List.getElem?_eq_getElem _⟩
  have hrr : (allK L)[(allK L).idxOf r]? = some r := by rw [List.getElem?_eq_getElem hj]; simp
  obtain ⟨hmk, hkst⟩ := hG.at_ _ k r hk hrr
  have hkl : k < st.length := (List.getElem?_eq_some_iff.1 hkst).1
  have hD1 : D1 = .osl k 0 (posL L r).length (posL L r).length true := by
   rw [← hd1]
   unfold zHd
   rw [zCw, zA6, if_pos hr]
   simp only [ctD, Bool.false_eq_true, if_false, List.getD_eq_getElem?_getD]
   rw [zC4, hk, hrr]; rfl
  subst hD1
  have hkst2 : (st ++ [tmp])[k]? = some (gArr it L r) := by rw [List.getElem?_append_left hkl]; exact hkst
  have e4 : aeff P T o4.op o4.type (evD (((sl.set s1 (.osl k 0 (posL L r).length (posL L r).length true)).set s2 (iD i)).set s3 (.osl st.length 0 1 1 true))) (st ++ [tmp]) = .app ((gArr it L r).arr = true ∧ (gArr it L r).cells.length = (posL L r).length * inf.size ∧ (posL L r).length = (posL L r).length * inf.size ∧ (gArr it L r).ty = it ∧ (gArr it L r).sz = inf.size ∧ [iD i].length = 1 * inf.size ∧ 0 < inf.size ∧ 0 < inf.bytes ∧ it = it ∧ ((posL L r).length + 1) * inf.bytes ≤ 140737488355328 ∧ [iD 0].length = inf.size ∧ (gArr it L r).kd.isMap = false ∧ (false = false ∨ (gArr it L r).kd.isSh = true))
    k { gArr it L r with cells := if (gArr it L r).nob then (gArr it L r).cells ++ [iD i] else ((gArr it L r).cells ++ [iD i]).map (zA5 k) } (.osl k 0 ((posL L r).length + 1) (((posL L r).length + 1) * inf.size) true) := by
   rw [p4]
   simp only [aeff, evD, hs1, hs3, unB, hsh, zFd, ty.hts, ty.hif, ty.hzd, hsrc, aApp, hkst2]
  have hnb : (gArr it L r).nob = true := rfl
  rw [hnb, if_pos rfl, ty.hi1, Nat.mul_one] at e4
  refine zCe g4 (go_app e4 (by rw [p4]; rfl) (hkp k hmk) ?_ rfl rfl ?_)
  ·rw [ty.hi8]
   exact ⟨rfl, by simp, by omega, rfl, rfl, rfl, by decide, by decide, rfl, by omega, rfl, rfl, .inl rfl⟩
  rw [d4]
  simp only [putD]
  have hsl : (((sl.set s1 (.osl k 0 (posL L r).length (posL L r).length true)).set s2 (iD i)).set s3 (.osl st.length 0 1 1 true)).map (zA5 k) = ((sl.set s1 .unk).set s2 (iD i)).set s3 (.osl st.length 0 1 1 true) := by
   rw [List.map_set, List.map_set, List.map_set, zM3 (m := m + 1) (by omega) hrb]
   have q1 : zA5 k (.osl k 0 (posL L r).length (posL L r).length true) = .unk := by unfold zA5; simp [refs]
   have q2 : zA5 k (iD i) = iD i := zJl rfl
   have q3 : zA5 k (.osl st.length 0 1 1 true) = .osl st.length 0 1 1 true := zJl (by simp only [refs, beq_eq_false_iff_ne]; omega)
   rw [q1, q2, q3]
  rw [hsl]
  have hp1 : (posL (L ++ [r]) r) = posL L r ++ [i] := by rw [zEf, if_pos rfl, hi]
  have hb' : ({ gArr it L r with cells := (gArr it L r).cells ++ [iD i] } : Bk) = gArr it (L ++ [r]) r := by
   show (⟨nsD (posL L r) ++ [iD i], it, 1, true, false, .plain⟩ : Bk) = ⟨nsD (posL (L ++ [r]) r), it, 1, true, false, .plain⟩
   rw [hp1]; simp
  rw [hb']
  have hml2 : m < ((st ++ [tmp]).map (zBy k)).length := by simp; omega
  have hmp2 : (((st ++ [tmp]).map (zBy k)).set k (gArr it (L ++ [r]) r))[m]? = some ⟨(zBz L ns (allK L)).map (zA5 k), mt, 0, false, false, .map ((allK L).map kyv)⟩ := by
   rw [List.getElem?_set_ne (by omega), List.getElem?_map, List.getElem?_append_left hml, hG.mp]; rfl
  refine zCe g5 (zXd (hmu _ _ _ _ ?_ ?_ (zC8 _ (by simpa using l4)) hmp2 rfl rfl rfl) (by rw [p5]; rfl) ⟨rfl, hkeyf⟩ rfl rfl ?_)
  ·rw [zAp _ m5, zAp _ m4, zAp _ m3, zAp _ m2, v4]
  ·rw [zAp _ m9, zAp _ m8, zAp _ m7, zAp _ m6, v5]
  rw [d5]
  simp only [putD, zAe, List.foldl_nil]
  refine next _ ns _ _ _ (hG.more hbb hr hk tmp htn rfl ?_)
  unfold mput
  rw [zCw, zA6, if_pos hr]
  simp only [hp1, List.length_append, List.length_cons, List.length_nil, Nat.mul_one, Nat.zero_add]
 ·have hD1 : D1 = nl := by
   rw [← hd1]
   unfold zHd
   rw [zCw, zA6, if_neg hr]; rfl
  subst hD1
  have e4 : aeff P T o4.op o4.type (evD (((sl.set s1 nl).set s2 (iD i)).set s3 (.osl st.length 0 1 1 true))) (st ++ [tmp]) = .new ([iD i].length = 1 * inf.size ∧ 0 < inf.size ∧ 0 < inf.bytes ∧ it = it ∧ 1 * inf.bytes ≤ 140737488355328 ∧ [iD 0].length = inf.size) ⟨[iD i], it, inf.size, true, false, kdOf false⟩ (.osl (st ++ [tmp]).length 0 1 (1 * inf.size) true) [] := by
   rw [p4]
   simp only [aeff, evD, hs1, hs3, unB, hsh, zFd, ty.hts, ty.hif, ty.hzd, hsrc, aApp]
  rw [ty.hi1] at e4
  refine zCe g4 (zXe e4 (by rw [p4]; rfl) ?_ rfl rfl ?_)
  ·rw [ty.hi8]
   exact ⟨rfl, by decide, by decide, rfl, by decide, rfl⟩
  rw [d4]
  simp only [putD, zAe, List.foldl_nil]
  have hp1 : (posL (L ++ [r]) r) = [i] := by rw [zEf, if_pos rfl, hi, zMy fun h => hr ((zGy L r).2 h)]; rfl
  have hmp2 : (st ++ [tmp] ++ [(⟨[iD i], it, 1, true, false, kdOf false⟩ : Bk)])[m]? = some ⟨zBz L ns (allK L), mt, 0, false, false, .map ((allK L).map kyv)⟩ := by
   rw [List.append_assoc, List.getElem?_append_left hml, hG.mp]
  refine zCe g5 (zXd (hmu _ _ _ _ ?_ ?_ (zC8 _ (by simpa using l4)) hmp2 rfl rfl rfl) (by rw [p5]; rfl) ⟨rfl, hkeyf⟩ rfl rfl ?_)
  ·rw [zAp _ m5, zAp _ m4, zAp _ m3, zAp _ m2, v4]
  ·rw [zAp _ m9, zAp _ m8, zAp _ m7, zAp _ m6, v5]
  rw [d5]
  simp only [putD, zAe, List.foldl_nil]
  refine next _ (ns ++ [st.length + 1]) _ _ _ (hG.new hr tmp (b' := ⟨[iD i], it, 1, true, false, kdOf false⟩) ?_ ?_)
  ·show (⟨[iD i], it, 1, true, false, .plain⟩ : Bk) = ⟨nsD (posL (L ++ [r]) r), it, 1, true, false, .plain⟩
   rw [hp1]; rfl
  ·unfold mput
   rw [zCw, zA6, if_neg hr]
   simp
theorem zY1 {o : Oper} {s : Nat} {x : Operand} (v : D) (g : o.guard = none) (p : o.op = .move x) (d : o.dst = some s) (hv : evD sl x = v) (next : seqW P T ops dr l (sl.set s v) st K) : seqW P T ops dr (o :: l) sl st K := by
 have e : aeff P T o.op o.type (evD sl) st = .lit True v := by rw [p, ← hv]; rfl
 refine zCe g (zXf e (by rw [p]; rfl) trivial rfl ?_)
 rw [d]; exact next
theorem zWv {b : Code} {Q : Exit → List D → List Bk → Prop} (h : ∀ s0, s0 = sl → zAo P T b Q s0 st) : zAo P T b Q sl st := h sl rfl
theorem zWw {b : Code} {Q : Exit → List D → List Bk → Prop} (dead : List Nat) {sl' : List D} (e : zAw sl dead = sl') (k : awp P T b Q sl' st) : zAo P T b Q sl st := ⟨_, _, Weak.slots (LeL.dead dead sl), e ▸ k⟩
theorem Weak.frzSlot {s : Nat} {d x : D} {ks : List Nat} (hs : sl[s]? = some d) (hx : frz true st zAl d = some (x, ks)) : Weak T sl st (sl.set s x) (zAe st ks) := by
 intro β I w tm h
 obtain ⟨v, hv, hr⟩ := h.rel.get s _ hs
 have hfr := zBf h.sr.weak _ _ _ _ v hx hr
 have h0 := h.fzAll ks
 refine ⟨β, fixI I β st ks, ⟨?_, h0.sr, h0.inj, h0.fz, h0.dom, h0.imb, h0.gl⟩, Stp.fzAll h ks, Kp.refl _ _⟩
 refine RelT.of_get (by rw [List.length_set, h0.rel.length]) fun i d' u hd hu => ?_
 rw [List.getElem?_set] at hd
 split at hd
 ·rename_i e
  subst e
  split at hd
  ·cases hd
   rw [hv] at hu; cases hu
   exact Rel.no hfr
  ·cases hd
 ·obtain ⟨u', g1, g2⟩ := h0.rel.get i d' hd
  rw [hu] at g1; cases g1
  exact g2
theorem frz_osl {st : List Bk} {n k off l m : Nat} {wh : Bool} {e : Bk} (h : st[k]? = some e) (hm : e.kd.isMap = false) (hn : e.nob = true) : frz true st (n + 1) (.osl k off l m wh) = some (.row ((e.cells.drop off).take m) l, [k]) := by
 simp only [frz, h, hm, hn, Bool.false_eq_true, if_false, if_true]
theorem frz_mref {st : List Bk} {n k : Nat} {e : Bk} {ks : List Value} (h : st[k]? = some e) (hm : e.kd = .map ks) (hn : e.nob = false) : frz true st (n + 1) (.mref k) = (mapF (frz true st n) e.cells).map fun x => (.mfz ks x.1, k :: x.2) := by
 simp only [frz, h, hm, hn, Bool.false_eq_true, if_false]
theorem gfrz {L : List Rw} {it : TypeId} {st : List Bk} : ∀ (ns : List Nat) (K : List Rw), ns.length = K.length → (∀ (j k : Nat) (r : Rw), ns[j]? = some k → K[j]? = some r → st[k]? = some (gArr it L r)) → mapF (frz true st 8) (zBz L ns K) = some (K.map fun r => .row (nsD (posL L r)) (posL L r).length, ns)
 | [], [], _, _ => rfl
 | n :: ns, r :: K, h, ha => by
  have h1 := ha 0 n r rfl rfl
  have ih := gfrz (L := L) (it := it) (st := st) ns K (by simpa using h) fun j k s h1 h2 => ha (j + 1) k s (by simpa using h1) (by simpa using h2)
  have e : frz true st 8 (.osl n 0 (posL L r).length (posL L r).length true) = some (.row (nsD (posL L r)) (posL L r).length, [n]) := by
   have h2 := frz_osl (n := 7) (off := 0) (l := (posL L r).length) (m := (posL L r).length) (wh := true) h1 rfl rfl
   rw [List.drop_zero, zH3 _ _ rfl] at h2
   exact h2
  simp only [zBz, mapF, e, ih]
  rfl
theorem zYx (hkp : ∀ k, m ≤ k → T.keep k = false) {s : Nat} (hs : sl[s]? = some (.mref m)) (hrb : rBL m (sl.set s .unk) = true) (hbb : bBL m base = true) (hG : Grp m mt it L base st ns) : Weak T sl st (sl.set s (.mfz ((allK L).map kyv) (zVd L))) base := by
 have hml := hG.lt
 have hx : frz true st zAl (.mref m) = some (.mfz ((allK L).map kyv) (zVd L), m :: ns) := by
  have h2 := frz_mref (n := 8) hG.mp rfl rfl
  rw [gfrz ns (allK L) hG.len fun j k r h1 h2 => (hG.at_ j k r h1 h2).2] at h2
  exact h2
 refine (Weak.frzSlot hs hx).trans ?_
 have hlen : (zAe st (m :: ns)).length = st.length := zS _ _
 have htk : (zAe st (m :: ns)).take m = base := by
  rw [← hG.pre]
  apply List.ext_getElem?
  intro i
  rw [List.getElem?_take, List.getElem?_take]
  split
  ·rename_i hi
   rw [zAs]
   cases e : st[i]? with
   | none => rfl
   | some x =>
    have hn : i ∉ m :: ns := by
     intro h
     rcases List.mem_cons.1 h with h | h
     ·omega
     ·obtain ⟨j, hj, rfl⟩ := List.getElem_of_mem h
      have := (hG.at_ j ns[j] _ (List.getElem?_eq_getElem hj) (List.getElem?_eq_getElem (by rw [← hG.len]; exact hj))).1
      omega
    simp only [Option.map_some, if_neg hn]
  ·rfl
 rw [← htk]
 refine Weak.cut m ?_ hkp
 unfold zKg
 simp only [List.all_eq_true, List.mem_range, Bool.and_eq_true, Bool.not_eq_true', Bool.or_eq_true]
 intro i hi
 have hsl : s < sl.length := (List.getElem?_eq_some_iff.1 hs).1
 have hset : ∀ (sl : List D) (s : Nat) (d : D), rwB m d = true → rBL m (sl.set s .unk) = true → rBL m (sl.set s d) = true := by
  intro sl
  induction sl with
  | nil => intro s d _ h; simpa using h
  | cons a sl ih =>
   intro s d hd h
   cases s with
   | zero => simp only [List.set_cons_zero, rBL, Bool.and_eq_true] at h ⊢; exact ⟨hd, h.2⟩
   | succ s => simp only [List.set_cons_succ, rBL, Bool.and_eq_true] at h ⊢; exact ⟨h.1, ih s d hd h.2⟩
 refine ⟨zEc (m := m) (by omega) _ (hset sl s _ rfl hrb), fun e he => ?_⟩
 rw [htk] at he
 have := List.all_eq_true.1 hbb e he
 simp only [Bool.or_eq_true] at this
 exact this.imp id fun h => zEc (by omega) _ h
end
end
section
open Go.RowKit
attribute [local irreducible] seqW awp zAf zAo zAg Weak updS zAw retL Pure Acts rP setP setQ cP nP fr
set_option maxRecDepth 4096
theorem vaB_app (l : List Va) (v : Va) : zK (l ++ [v]) = zK l ++ vaC v := by rw [zMa]; simp [zK]
theorem zGa (l : List Va) (t : Nat) (h : l.length = t) (hb : t ≤ 1000000) : (vaB l).arr = true ∧ (vaB l).cells.length = t * 3 ∧ t * 3 = t * 3 ∧ (vaB l).ty = 69 ∧ (vaB l).sz = 3 ∧ 3 = 3 ∧ 0 < 3 ∧ 0 < 32 ∧ 69 = 69 ∧ (t + 1) * 32 ≤ 140737488355328 ∧ 3 = 3 ∧ (vaB l).kd.isMap = false ∧ (false = false ∨ (vaB l).kd.isSh = true) :=
 ⟨rfl, by rw [← h]; exact zB8 l, rfl, rfl, rfl, rfl, by decide, by decide, rfl, by omega, rfl, rfl, .inl rfl⟩
theorem zCs (l : List Va) (v : Va) : vaB (l ++ [v]) = ⟨zK l ++ vaC v, 69, 3, true, false, .plain⟩ := by rw [← vaB_app]
set_option maxHeartbeats 4000000 in
theorem merge_c (A B : List Nat) (x y : List Va) (n a b : Nat) (hn : (un A B).length = n) (ha : A.length = a) (hb : B.length = b) (hx : x.length = a) (hy : y.length = b) (hA : Asc A) (hB : Asc B) (la : a ≤ 32) (lb : b ≤ 32) (ln : n ≤ 32) :
  Pure Tryd.prog 54 [.row (nsD (un A B)) n, .row (nsD A) a, .row (zK x) a, .row (nsD B) b, .row (zK y) b] [] (.row (zK (mg A x B y)) n) := by
 have hU : Asc (un A B) := zRv A B
 have hAU : ∀ v ∈ A, v ∈ un A B := fun v h => zCq.2 ⟨hA.2 v h, .inl h⟩
 have hBU : ∀ v ∈ B, v ∈ un A B := fun v h => zCq.2 ⟨hB.2 v h, .inr h⟩
 have mgt := mg_take A x B y
 have hmem : ∀ v ∈ un A B, v ∈ A ∨ v ∈ B := fun v h => (zCq.1 h).2
 unfold mg
 have sgA : ∀ v, v ∈ A → sg A x B y v = x.getD (cntL A v) default := fun v h => by rw [sg, if_pos h, zX4 hA.1 x h]
 have sgB : ∀ v, v ∉ A → v ∈ B → sg A x B y v = y.getD (cntL B v) default := fun v h k => by rw [sg, if_neg h, zX4 hB.1 y k]
 generalize sg A x B y = σ at *
 generalize un A B = U at *
 subst hn ha hb
 refine zL zB0 mixed Tryd.func54 rfl ?_
 focus
  refine zB (zA rfl (v0s (veT (zB (zA rfl (ve ((0 : Int) ≤ (0 : Int) ∧ (0 : Int) ≤ (↑(List.length U) : Int) ∧ (↑(32 : Nat) : Int) * (↑(List.length U) : Int) ≤ (281474976710656 : Int) ∧ (↑(List.length U) : Int) ≤ (281474976710656 : Int) ∧ 0 < 3 ∧ 3 = 3) (zB (zA rfl (veT (zB (zB (zA rfl (veT ?_)))))))))))))
  refine zF ?_
  rotate_left
 refine zAu (fun (t : Nat) (l : List Va) => fr 73 [(1, (q4_ A)), (2, D.row (zK x) (List.length A)), (3, (q4_ B)), (4, D.row (zK y) (List.length B)), (10, nl), (11, D.osl 0 0 t (t * 3) true), (12, iD (↑(cntL A (bdU U t)) : Int)), (13, iD (↑(cntL B (bdU U t)) : Int)), (21, D.row (nsD U) (List.length U)), (22, iD ↑(List.length U)), (23, iD ↑t)]) (fun t l => [vaB l]) (fun t l => U.length - t) (fun (t : Nat) (l : List Va) => t ≤ U.length ∧ l = (U.take t).map σ) 0 [] ?_ ?_ ?_
 ·exact ⟨by omega, by simp⟩
 ·refine wk 12 (iD 0) (iD (↑(cntL A (bdU U 0)) : Int)) (by simp [updB, cntL0 hU hAU, cntL0 hU hBU]) (wk 13 (iD 0) (iD (↑(cntL B (bdU U 0)) : Int)) (by simp [updB, cntL0 hU hAU, cntL0 hU hBU]) (vk 1))
 rintro t l ⟨h1, h2⟩
 rcases Nat.lt_or_ge t U.length with h3 | h3
 ·have hv := bdU_lt hU.2 h3
  have hs := zQb hU hA.nd hAU h3
  have hs' := zQb hU hB.nd hBU h3
  have hm := mgt t h3
  rw [← h2] at hm
  have hd := bdU_getD h3
  have hk := hmem _ hv
  have hll : l.length = t := by rw [h2]; simp; omega
  by_cases ha : bdU U t ∈ A
  ·obtain ⟨p1, p2⟩ := zRh hA.1 ha
   rw [sgA _ ha] at hm
   rw [if_pos ha] at hs
   by_cases hb : bdU U t ∈ B
   ·obtain ⟨q1, q2⟩ := zRh hB.1 hb
    rw [if_pos hb] at hs'
    generalize bdU U t = v at *
    generalize cntL A v = i at *
    generalize cntL B v = k at *
    focus
     refine zB (zA rfl (v0s (veT (zB (vT ((↑t : Int) < ↑(List.length U)) (zG (zC (zD (zB (zF (zB (zA rfl (vr 1 (ix ↑t ↑(List.length U) (nsD U ≠ [])) ?_ ⟨(by omega), ⟨(by omega), (by exact zY (by omega))⟩⟩)))))))))))))
     refine vp 25 t (nsD U) (vr 1 (0 < List.length (List.drop t (nsD U))) (vs 26 (List.headD (List.drop t (nsD U)) Uk) (iD ↑v) (by simp (disch := omega) only [zAi, hd]) (veT (zB (vd [0, 1, 2, 3, 4, 5, 6, 7, 9, 12, 13, 14, 15, 16, 17, 18, 19, 21, 8, 10, 11, 24, 20, 22, 23, 25] (vw 8 [] [(4, true)] (decide ((↑i : Int) < ↑(List.length A)) = true ∧ ix ↑i ↑(List.length A) (nsD A ≠ [])) (vp 34 i (nsD A) (vw 9 [] [(16, true)] (decide ((↑k : Int) < ↑(List.length B)) = true ∧ ix ↑k ↑(List.length B) (nsD B ≠ [])) (vp 46 k (nsD B) (vr 2 (0 < List.length (List.drop i (nsD A))) (vs 35 (List.headD (List.drop i (nsD A)) Uk) (iD ↑v) (by simp (disch := omega) only [zAi, p2]) (vr 4 (True ∧ 0 < List.length (List.drop k (nsD B))) (vs 47 (List.headD (List.drop k (nsD B)) Uk) (iD ↑v) (by simp (disch := omega) only [zAi, q2]) ?_))))) ⟨(by exact decide_eq_true (by omega)), ⟨(by omega), ⟨(by omega), (by exact zY (by omega))⟩⟩⟩)) ⟨(by exact decide_eq_true (by omega)), ⟨(by omega), ⟨(by omega), (by exact zY (by omega))⟩⟩⟩))))))
     refine veT (zB (zB (zA rfl (veT (vEt ((↑v : Int)) ((↑v : Int)) (zB (zA rfl (vr 5 (ix ↑i ↑(List.length A) (zK x ≠ []) ∧ 3 ≤ List.length (List.drop (i * 3) (zK x))) (vs 56 (D.agg (List.take 3 (List.drop (i * 3) (zK x)))) (D.agg (vaC (List.getD x i default))) (by simp (disch := omega) only [zA9]) ?_) ⟨⟨(by omega), ⟨(by omega), (by exact zDd _ (by omega))⟩⟩, (by exact zB2 _ _ (by omega))⟩))))))))
     refine vewh [] [] (((3 = 3 ∧ 3 ≤ 3 ∧ True) ∧ 0 < 3 ∧ 3 = 3 ∧ 3 ≤ 16777216 ∧ 1 ≤ 9223372036854775807) ∧ Bk.arr (vaB l) = true ∧ List.length (Bk.cells (vaB l)) = t * 3 ∧ t * 3 = t * 3 ∧ Bk.ty (vaB l) = 69 ∧ Bk.sz (vaB l) = 3 ∧ 3 = 3 ∧ 0 < 3 ∧ 0 < 32 ∧ 69 = 69 ∧ (t + 1) * 32 ≤ 140737488355328 ∧ 3 = 3 ∧ Kd.isMap (Bk.kd (vaB l)) = false ∧ (false = false ∨ Kd.isSh (Bk.kd (vaB l)) = true)) ⟨⟨⟨(by kernel_rfl), ⟨(by omega), trivial⟩⟩, (by omega)⟩, ?_⟩ ?_
     rotate_left
     refine zA rfl (ve (i6 (↑i + 1)) (zB (zA rfl (veT (vEt ((↑v : Int)) ((↑v : Int)) (zA rfl (vr 3 (i6 (↑k + 1)) (vnil (zE (zC (zD (zA rfl (vr 2 (i6 (↑t + 1)) ?_)))))))))))))
     refine vnil (zC ?_)
     rotate_left
    all_goals first | exact zGa l t hll (by omega) | skip
    refine ⟨t + 1, l ++ [x.getD i default], ⟨by omega, hm.symm⟩, by omega, ?_⟩
    rw [zCs]
    refine wk 12 (iD ↑(i + 1)) (iD (↑(cntL A (bdU U (t + 1))) : Int)) (by (simp; omega)) (wk 13 (iD ↑(k + 1)) (iD (↑(cntL B (bdU U (t + 1))) : Int)) (by (simp; omega)) (vk 1))
   ·rw [if_neg hb, Nat.add_zero] at hs'
    have q1 := zXx hb
    generalize bdU U t = v at *
    generalize cntL A v = i at *
    generalize cntL B v = k at *
    focus
     refine zB (zA rfl (v0s (veT (zB (vT ((↑t : Int) < ↑(List.length U)) (zG (zC (zD (zB (zF (zB (zA rfl (vr 1 (ix ↑t ↑(List.length U) (nsD U ≠ [])) ?_ ⟨(by omega), ⟨(by omega), (by exact zY (by omega))⟩⟩)))))))))))))
     refine vp 25 t (nsD U) (vr 1 (0 < List.length (List.drop t (nsD U))) (vs 26 (List.headD (List.drop t (nsD U)) Uk) (iD ↑v) (by simp (disch := omega) only [zAi, hd]) (veT (zB (vd [0, 1, 2, 3, 4, 5, 6, 7, 9, 12, 13, 14, 15, 16, 17, 18, 19, 21, 8, 10, 11, 24, 20, 22, 23, 25] (vw 8 [] [(4, true)] (decide ((↑i : Int) < ↑(List.length A)) = true ∧ ix ↑i ↑(List.length A) (nsD A ≠ [])) (vp 34 i (nsD A) (vrT 6 ?_)) ⟨(by exact decide_eq_true (by omega)), ⟨(by omega), ⟨(by omega), (by exact zY (by omega))⟩⟩⟩))))))
     refine vsp 43 (decide ((↑k : Int) < ↑(List.length B))) (fun hc => ?_) (fun hc => ?_)
     simp only [decide_eq_true_eq] at hc
     refine vr 3 (ix ↑k ↑(List.length B) (nsD B ≠ [])) (vp 46 k (nsD B) (vr 2 (0 < List.length (List.drop i (nsD A))) (vs 35 (List.headD (List.drop i (nsD A)) Uk) (iD ↑v) (by simp (disch := omega) only [zAi, p2]) (vr 4 (True ∧ 0 < List.length (List.drop k (nsD B))) (vs 47 (List.headD (List.drop k (nsD B)) Uk) (iD ↑(List.getD B k 0)) (by simp (disch := omega) only [zAi]) (veT (zB (zB (zA rfl (veT (vEt ((↑v : Int)) ((↑v : Int)) (zB (zA rfl ?_))))))))))))) ⟨(by omega), ⟨(by omega), (by exact zY (by omega))⟩⟩
     refine vr 5 (ix ↑i ↑(List.length A) (zK x ≠ []) ∧ 3 ≤ List.length (List.drop (i * 3) (zK x))) (vs 56 (D.agg (List.take 3 (List.drop (i * 3) (zK x)))) (D.agg (vaC (List.getD x i default))) (by simp (disch := omega) only [zA9]) ?_) ⟨⟨(by omega), ⟨(by omega), (by exact zDd _ (by omega))⟩⟩, (by exact zB2 _ _ (by omega))⟩
     refine vewh [] [] (((3 = 3 ∧ 3 ≤ 3 ∧ True) ∧ 0 < 3 ∧ 3 = 3 ∧ 3 ≤ 16777216 ∧ 1 ≤ 9223372036854775807) ∧ Bk.arr (vaB l) = true ∧ List.length (Bk.cells (vaB l)) = t * 3 ∧ t * 3 = t * 3 ∧ Bk.ty (vaB l) = 69 ∧ Bk.sz (vaB l) = 3 ∧ 3 = 3 ∧ 0 < 3 ∧ 0 < 32 ∧ 69 = 69 ∧ (t + 1) * 32 ≤ 140737488355328 ∧ 3 = 3 ∧ Kd.isMap (Bk.kd (vaB l)) = false ∧ (false = false ∨ Kd.isSh (Bk.kd (vaB l)) = true)) ⟨⟨⟨(by kernel_rfl), ⟨(by omega), trivial⟩⟩, (by omega)⟩, ?_⟩ ?_
     rotate_left
     refine zA rfl (ve (i6 (↑i + 1)) (zB (zA rfl (veT (vEf ((↑(List.getD B k 0) : Int)) ((↑v : Int)) (zG (zE (zC (zD (zA rfl (vr 2 (i6 (↑t + 1)) (vnil (zC ?_)))))))))))))
     rotate_left
     simp only [decide_eq_false_iff_not] at hc
     refine vr 5 (0 < List.length (List.drop i (nsD A))) (vs 35 (List.headD (List.drop i (nsD A)) Uk) (iD ↑v) (by simp (disch := omega) only [zAi, p2]) (veT (zB (zB (zA rfl (veT (vEt ((↑v : Int)) ((↑v : Int)) (zB (zA rfl (vr 5 (ix ↑i ↑(List.length A) (zK x ≠ []) ∧ 3 ≤ List.length (List.drop (i * 3) (zK x))) (vs 56 (D.agg (List.take 3 (List.drop (i * 3) (zK x)))) (D.agg (vaC (List.getD x i default))) (by simp (disch := omega) only [zA9]) ?_) ⟨⟨(by omega), ⟨(by omega), (by exact zDd _ (by omega))⟩⟩, (by exact zB2 _ _ (by omega))⟩))))))))))
     refine vewh [] [] (((3 = 3 ∧ 3 ≤ 3 ∧ True) ∧ 0 < 3 ∧ 3 = 3 ∧ 3 ≤ 16777216 ∧ 1 ≤ 9223372036854775807) ∧ Bk.arr (vaB l) = true ∧ List.length (Bk.cells (vaB l)) = t * 3 ∧ t * 3 = t * 3 ∧ Bk.ty (vaB l) = 69 ∧ Bk.sz (vaB l) = 3 ∧ 3 = 3 ∧ 0 < 3 ∧ 0 < 32 ∧ 69 = 69 ∧ (t + 1) * 32 ≤ 140737488355328 ∧ 3 = 3 ∧ Kd.isMap (Bk.kd (vaB l)) = false ∧ (false = false ∨ Kd.isSh (Bk.kd (vaB l)) = true)) ⟨⟨⟨(by kernel_rfl), ⟨(by omega), trivial⟩⟩, (by omega)⟩, ?_⟩ ?_
     rotate_left
     refine zA rfl (ve (i6 (↑i + 1)) (zB (zA rfl (veT (vf (zG (zE (zC (zD (zA rfl (vr 2 (i6 (↑t + 1)) (vnil (zC ?_)))))))))))))
     rotate_left
    all_goals first | exact zGa l t hll (by omega) | skip
    all_goals first | (exfalso; omega) | skip
    all_goals first | (exfalso; exact q1 (by omega) (by assumption)) | skip
    refine ⟨t + 1, l ++ [x.getD i default], ⟨by omega, hm.symm⟩, by omega, ?_⟩
    rw [zCs]
    refine wk 12 (iD ↑(i + 1)) (iD (↑(cntL A (bdU U (t + 1))) : Int)) (by (simp; omega)) (wk 13 (iD ↑k) (iD (↑(cntL B (bdU U (t + 1))) : Int)) (by (simp; omega)) (vk 1))
    refine ⟨t + 1, l ++ [x.getD i default], ⟨by omega, hm.symm⟩, by omega, ?_⟩
    rw [zCs]
    refine wk 12 (iD ↑(i + 1)) (iD (↑(cntL A (bdU U (t + 1))) : Int)) (by (simp; omega)) (wk 13 (iD ↑k) (iD (↑(cntL B (bdU U (t + 1))) : Int)) (by (simp; omega)) (vk 1))
  ·have p1 := zXx ha
   have hb := hk.resolve_left ha
   obtain ⟨q1, q2⟩ := zRh hB.1 hb
   rw [sgB _ ha hb] at hm
   rw [if_neg ha, Nat.add_zero] at hs
   rw [if_pos hb] at hs'
   generalize bdU U t = v at *
   generalize cntL A v = i at *
   generalize cntL B v = k at *
   focus
    refine zB (zA rfl (v0s (veT (zB (vT ((↑t : Int) < ↑(List.length U)) (zG (zC (zD (zB (zF (zB (zA rfl (vr 1 (ix ↑t ↑(List.length U) (nsD U ≠ [])) ?_ ⟨(by omega), ⟨(by omega), (by exact zY (by omega))⟩⟩)))))))))))))
    refine vp 25 t (nsD U) (vr 1 (0 < List.length (List.drop t (nsD U))) (vs 26 (List.headD (List.drop t (nsD U)) Uk) (iD ↑v) (by simp (disch := omega) only [zAi, hd]) (veT (zB (vd [0, 1, 2, 3, 4, 5, 6, 7, 9, 12, 13, 14, 15, 16, 17, 18, 19, 21, 8, 10, 11, 24, 20, 22, 23, 25] (vrT 5 ?_))))))
    refine vsp 31 (decide ((↑i : Int) < ↑(List.length A))) (fun hc => ?_) (fun hc => ?_)
    simp only [decide_eq_true_eq] at hc
    refine vr 3 (ix ↑i ↑(List.length A) (nsD A ≠ [])) (vp 34 i (nsD A) (vw 9 [] [(16, true)] (decide ((↑k : Int) < ↑(List.length B)) = true ∧ ix ↑k ↑(List.length B) (nsD B ≠ [])) (vp 46 k (nsD B) (vr 2 (0 < List.length (List.drop i (nsD A))) (vs 35 (List.headD (List.drop i (nsD A)) Uk) (iD ↑(List.getD A i 0)) (by simp (disch := omega) only [zAi]) (vr 4 (True ∧ 0 < List.length (List.drop k (nsD B))) (vs 47 (List.headD (List.drop k (nsD B)) Uk) (iD ↑v) (by simp (disch := omega) only [zAi, q2]) (veT (zB (zB (zA rfl (veT (vEf ((↑(List.getD A i 0) : Int)) ((↑v : Int)) ?_))))))))))) ⟨(by exact decide_eq_true (by omega)), ⟨(by omega), ⟨(by omega), (by exact zY (by omega))⟩⟩⟩)) ⟨(by omega), ⟨(by omega), (by exact zY (by omega))⟩⟩
    refine zA rfl (vr 5 (ix ↑k ↑(List.length B) (zK y ≠ []) ∧ 3 ≤ List.length (List.drop (k * 3) (zK y))) (vs 65 (D.agg (List.take 3 (List.drop (k * 3) (zK y)))) (D.agg (vaC (List.getD y k default))) (by simp (disch := omega) only [zA9]) ?_) ⟨⟨(by omega), ⟨(by omega), (by exact zDd _ (by omega))⟩⟩, (by exact zB2 _ _ (by omega))⟩)
    refine vewh [] [] (((3 = 3 ∧ 3 ≤ 3 ∧ True) ∧ 0 < 3 ∧ 3 = 3 ∧ 3 ≤ 16777216 ∧ 1 ≤ 9223372036854775807) ∧ Bk.arr (vaB l) = true ∧ List.length (Bk.cells (vaB l)) = t * 3 ∧ t * 3 = t * 3 ∧ Bk.ty (vaB l) = 69 ∧ Bk.sz (vaB l) = 3 ∧ 3 = 3 ∧ 0 < 3 ∧ 0 < 32 ∧ 69 = 69 ∧ (t + 1) * 32 ≤ 140737488355328 ∧ 3 = 3 ∧ Kd.isMap (Bk.kd (vaB l)) = false ∧ (false = false ∨ Kd.isSh (Bk.kd (vaB l)) = true)) ⟨⟨⟨(by kernel_rfl), ⟨(by omega), trivial⟩⟩, (by omega)⟩, ?_⟩ ?_
    rotate_left
    refine zB (zA rfl (veT (vEt ((↑v : Int)) ((↑v : Int)) (zA rfl (vr 3 (i6 (↑k + 1)) (vnil (zE (zC (zD (zA rfl (vr 2 (i6 (↑t + 1)) (vnil (zC ?_)))))))))))))
    rotate_left
    simp only [decide_eq_false_iff_not] at hc
    refine vw 12 [] [(16, true)] (decide ((↑k : Int) < ↑(List.length B)) = true ∧ ix ↑k ↑(List.length B) (nsD B ≠ [])) (vp 46 k (nsD B) (vr 6 (0 < List.length (List.drop k (nsD B))) (vs 47 (List.headD (List.drop k (nsD B)) Uk) (iD ↑v) (by simp (disch := omega) only [zAi, q2]) (veT (zB (zB (zA rfl (veT (vf (zA rfl (vr 5 (ix ↑k ↑(List.length B) (zK y ≠ []) ∧ 3 ≤ List.length (List.drop (k * 3) (zK y))) (vs 65 (D.agg (List.take 3 (List.drop (k * 3) (zK y)))) (D.agg (vaC (List.getD y k default))) (by simp (disch := omega) only [zA9]) ?_) ⟨⟨(by omega), ⟨(by omega), (by exact zDd _ (by omega))⟩⟩, (by exact zB2 _ _ (by omega))⟩))))))))))) ⟨(by exact decide_eq_true (by omega)), ⟨(by omega), ⟨(by omega), (by exact zY (by omega))⟩⟩⟩
    refine vewh [] [] (((3 = 3 ∧ 3 ≤ 3 ∧ True) ∧ 0 < 3 ∧ 3 = 3 ∧ 3 ≤ 16777216 ∧ 1 ≤ 9223372036854775807) ∧ Bk.arr (vaB l) = true ∧ List.length (Bk.cells (vaB l)) = t * 3 ∧ t * 3 = t * 3 ∧ Bk.ty (vaB l) = 69 ∧ Bk.sz (vaB l) = 3 ∧ 3 = 3 ∧ 0 < 3 ∧ 0 < 32 ∧ 69 = 69 ∧ (t + 1) * 32 ≤ 140737488355328 ∧ 3 = 3 ∧ Kd.isMap (Bk.kd (vaB l)) = false ∧ (false = false ∨ Kd.isSh (Bk.kd (vaB l)) = true)) ⟨⟨⟨(by kernel_rfl), ⟨(by omega), trivial⟩⟩, (by omega)⟩, ?_⟩ ?_
    rotate_left
    refine zB (zA rfl (veT (vEt ((↑v : Int)) ((↑v : Int)) (zA rfl (vr 3 (i6 (↑k + 1)) (vnil (zE (zC (zD (zA rfl (vr 2 (i6 (↑t + 1)) (vnil (zC ?_)))))))))))))
    rotate_left
   all_goals first | exact zGa l t hll (by omega) | skip
   all_goals first | (exfalso; omega) | skip
   all_goals first | (exfalso; exact p1 (by omega) (by assumption)) | skip
   refine ⟨t + 1, l ++ [y.getD k default], ⟨by omega, hm.symm⟩, by omega, ?_⟩
   rw [zCs]
   refine wk 12 (iD ↑i) (iD (↑(cntL A (bdU U (t + 1))) : Int)) (by (simp; omega)) (wk 13 (iD ↑(k + 1)) (iD (↑(cntL B (bdU U (t + 1))) : Int)) (by (simp; omega)) (vk 1))
   refine ⟨t + 1, l ++ [y.getD k default], ⟨by omega, hm.symm⟩, by omega, ?_⟩
   rw [zCs]
   refine wk 12 (iD ↑i) (iD (↑(cntL A (bdU U (t + 1))) : Int)) (by (simp; omega)) (wk 13 (iD ↑(k + 1)) (iD (↑(cntL B (bdU U (t + 1))) : Int)) (by (simp; omega)) (vk 1))
 ·focus
   refine zB (zA rfl (v0s (veT (zB (vF ((↑t : Int) < ↑(List.length U)) (zQ (zH (zH (zP rfl (zC (zD (zB (zA rfl ?_)))))))))))))
   refine veT (zM ?_)
   refine zBm (True) (D.row (List.take (t * 3) (List.drop 0 (Bk.cells (vaB l)))) t) (D.row (List.take (t * 3) (zK l)) t) (.inr rfl) (by kernel_rfl) trivial (by simp (disch := omega) only [List.drop_zero]) ?_
   rotate_left
  have e : t = U.length := by omega
  subst e
  rw [List.take_length] at h2
  rw [zGe _ _ (by rw [h2, List.length_map]), h2]
end
section
open Go.RowKit
attribute [local irreducible] seqW awp zAf zAo zAg Weak updS zAw retL Pure Acts rP setP setQ cP nP fr
set_option maxRecDepth 4096
abbrev fcC (f : Fn) : List D := [.row (nsD f.1) f.1.length, .row (rwsD f.2) f.2.length, .row (vlsD f.2) f.2.length]
theorem zQ7 (f : Fn) : (fcC f).length = 3 := rfl
structure FV (f : Fn) : Prop where
 asc : Asc f.1
 len : ∀ p ∈ f.2, p.1.length = f.1.length
 vs : ∀ p ∈ f.2, ∀ x ∈ p.1, Vs x
 sz : f.2.length ≤ 1000000
 sm : ∀ p ∈ f.2, Sm p.2
 nd : Ndk f.2
theorem zZ9 (l : List (Rw × Nat)) {k : Nat} (h : k < l.length) : (l.map (·.1)).getD k [] = (l.getD k default).1 := by simp [List.getD_eq_getElem?_getD, h]
theorem zZ8 (l : List (Rw × Nat)) {k : Nat} (h : k < l.length) : (l.map (·.2)).getD k 0 = (l.getD k default).2 := by simp [List.getD_eq_getElem?_getD, h]
abbrev fltB (l : List D) : Bk := ⟨l, 99, 2, true, false, .plain⟩
noncomputable def Tm : Par := ⟨fun _ => false, zKk Tryd.prog, fun _ => false, hvOf Tryd.prog, fun t => shOf Tryd.prog t || t == 26⟩
theorem Tm_ok : zBi Tryd.prog Tm := fun t n f h v W => zRp Tryd.prog (fun _ => false) (fun _ => false) t n f h v W
theorem gty : ∃ inf, GTy Tryd.prog Tm 102 9 26 3 inf := by
 refine ⟨(Tryd.prog.info? 3).getD default, by kernel_rfl, by kernel_rfl, by kernel_rfl, by kernel_rfl, by kernel_rfl, by kernel_rfl, by kernel_rfl, by kernel_rfl, by kernel_rfl, by kernel_rfl⟩
set_option maxHeartbeats 8000000 in
theorem zT3 (f g : Fn) (os : List Fn) (hf : FV f) (hg : FV g) (ho : ∀ o ∈ os, FV o) (hl : os.length ≤ 1000) (hsz : f.2.length * g.2.length ≤ 1000000) :
  Pure Tryd.prog 33 [cntD, fcD f.1 f.2, fcD g.1 g.2, .row (os.flatMap fcC) os.length] [] (fcD (un f.1 g.1) (srtL ((zBb (· * ·) f.1 f.2 g.1 g.2).filter fun p => os.all fun o => okO (un f.1 g.1) p.1 (faN o)))) := by
 obtain ⟨A, la⟩ := f
 obtain ⟨B, lb⟩ := g
 obtain ⟨hA, al, av, as', am, nda⟩ := hf
 obtain ⟨hB, bl, bv, bs', bm, ndb⟩ := hg
 simp only at hA al av as' am nda hB bl bv bs' bm ndb hsz ⊢
 have nA := zBn hA
 have nB := zBn hB
 have hmA := zDi hA.2
 have hmB := zDi hB.2
 have hmo := zT1 hmA hmB
 have hma := zX9 (b := msk B) hmA
 have sA := zL2 A _ rfl (by omega) hA.2 (rwsD la) (vlsD la) la.length la.length
 have sB := zL2 B _ rfl (by omega) hB.2 (rwsD lb) (vlsD lb) lb.length lb.length
 have hU := zRv A B
 have hmu := msk_un hA.2 hB.2
 have hmem := zPq (msk A ||| msk B) hmo
 rw [hmu, zKl hU] at hmem
 have nU := zBn hU
 rw [hmu] at hmo
 have cA := zGx A A _ rfl (by omega) hA.2 (msk A &&& msk B) hma
 have cB := zGx B B _ rfl (by omega) hB.2 (msk A &&& msk B) hma
 obtain ⟨U, eU⟩ : ∃ U, U = un A B := ⟨_, rfl⟩
 rw [← eU] at hU hmu hmem nU hmo ⊢
 refine zL (T := Tm) Tm_ok mixed Tryd.func33 rfl ?_
 focus
  refine zB (zA rfl (v0s (veT (zB (vd [0, 1, 2, 3, 4, 5] (vr 1 (3 ≤ 3) (vc sA (vr 1 (3 ≤ 3) (vc sB (vrT 1 (vs 30 (D.val (Value.int IntKind.u32 (IntKind.wrap IntKind.u32 (↑(BitVec.toNat (BitVec.ofInt 32 (↑(msk A) : Int) ||| BitVec.ofInt 32 (↑(msk B) : Int))) : Int)))) (dig (msk U)) (by simp (disch := omega) only [bv_or, zBa, hmu]) (veT (zB ?_)))))))))))))
  refine zA rfl (vrT 1 (vc hmem (ve (((1 = 1 ∧ 1 ≤ 3 ∧ True) ∧ true = true) ∧ false = false ∧ true = true ∧ 3 = 3 ∧ 3 ≤ 3) (zB (zA rfl (veT (zB (zB (zA rfl (veT (zF ?_)))))))))))
  rotate_left
 refine zW (fun (i : Nat) => fr 147 [(0, cntD), (5, D.own 0 0), (6, D.own 1 0), (8, D.own 2 0), (9, dig (msk U)), (10, D.own 3 0), (11, D.osl 4 0 i (i * 2) true), (34, D.row (List.flatMap fcC os) (List.length os)), (35, iD ↑(List.length os)), (36, iD ↑i)]) (fun (i : Nat) => [fB1 (.row (nsD A) A.length) (.row (rwsD la) la.length) (.row (vlsD la) la.length), fB1 (.row (nsD B) B.length) (.row (rwsD lb) lb.length) (.row (vlsD lb) lb.length), fB1 nl nl nl, fB1 (.row (nsD U) U.length) nl nl, fltB (((os.take i).map (fltF U)).flatMap flC)]) (fun i => os.length - i) (fun (i : Nat) => i ≤ os.length) 0 ?_ ?_ ?_
 ·omega
 ·refine vk 4
 rintro i h1
 rcases Nat.lt_or_ge i os.length with h2 | h2
 ·have hom : os.getD i default ∈ os := by rw [List.getD_eq_getElem?_getD, List.getElem?_eq_getElem h2]; exact List.getElem_mem h2
  obtain ⟨hO, ol, ov, os2, _, _⟩ := ho _ hom
  have hg2 := zFw zQ7 os i h2
  have hle := zJf zQ7 os i h2
  have hne := zJe zQ7 (by decide) os (by omega)
  have he : ((os.take (i + 1)).map (fltF U)).flatMap flC = ((os.take i).map (fltF U)).flatMap flC ++ flC (fltF U (os.getD i default)) := by
   rw [zCi os i h2]; simp
  have hlb : (((os.take i).map (fltF U)).flatMap flC).length = i * 2 := by rw [zP1 zKw]; simp; omega
  have nO := zBn hO
  generalize os.getD i default = o at *
  have hfo := zVf o.1 U _ _ o.2.length rfl rfl nO nU hO.2 hU.2 (o.2.map (·.1)) _ (by simp) os2 (fun r hr => by
   obtain ⟨p, hp, rfl⟩ := List.mem_map.1 hr
   exact ol p hp) (fun r hr => by
   obtain ⟨p, hp, rfl⟩ := List.mem_map.1 hr
   exact ov p hp) (vlsD o.2) (msk U) hmo
  focus
   refine zB (zA rfl (v0s (veT (zB (vT ((↑i : Int) < ↑(List.length os)) (zG (zC (zD (zB (zF (zB (zA rfl (vr 2 (ix ↑i ↑(List.length os) (List.flatMap fcC os ≠ []) ∧ 3 ≤ List.length (List.drop (i * 3) (List.flatMap fcC os))) ?_)))))))))))))
   refine vs 39 (D.agg (List.take 3 (List.drop (i * 3) (List.flatMap fcC os)))) (D.agg (fcC o)) (by simp (disch := omega) only [hg2]) (ve (false = false ∧ true = true ∧ 3 = 3 ∧ 3 ≤ 3) (zA rfl (vr 5 (3 ≤ 3 ∧ True ∧ 0 < 3) (vc hfo (vr 3 (((2 = 2 ∧ 2 ≤ 2 ∧ True) ∧ 0 < 2 ∧ 2 = 2 ∧ 2 ≤ 16777216 ∧ 1 ≤ 9223372036854775807) ∧ Bk.arr (fltB (List.flatMap flC (List.map (fltF U) (List.take i os)))) = true ∧ List.length (Bk.cells (fltB (List.flatMap flC (List.map (fltF U) (List.take i os))))) = i * 2 ∧ i * 2 = i * 2 ∧ Bk.ty (fltB (List.flatMap flC (List.map (fltF U) (List.take i os)))) = 99 ∧ Bk.sz (fltB (List.flatMap flC (List.map (fltF U) (List.take i os)))) = 2 ∧ 2 = 2 ∧ 0 < 2 ∧ 0 < 32 ∧ 99 = 99 ∧ (i + 1) * 32 ≤ 140737488355328 ∧ 2 = 2 ∧ Kd.isMap (Bk.kd (fltB (List.flatMap flC (List.map (fltF U) (List.take i os))))) = false ∧ (false = false ∨ Kd.isSh (Bk.kd (fltB (List.flatMap flC (List.map (fltF U) (List.take i os))))) = true)) (vnil (zE (zC (zD (zA rfl (vr 2 (i6 (↑i + 1)) (vnil (zC ?_)))))))))))))
   rotate_left
  refine ⟨i + 1, by omega, by omega, ?_⟩
  rw [he]
  refine vk 5
 rw [List.take_of_length_le h2]
 obtain rfl : i = os.length := by omega
 obtain ⟨c1, ec1⟩ : ∃ c, c = zB1 (fun v => (msk A &&& msk B).testBit v) A := ⟨_, rfl⟩
 obtain ⟨c2, ec2⟩ : ∃ c, c = zB1 (fun v => (msk A &&& msk B).testBit v) B := ⟨_, rfl⟩
 rw [← ec1] at cA
 rw [← ec2] at cB
 have hl1 : ∀ c ∈ c1, c < A.length := fun c h => by rw [ec1] at h; exact (zJn.1 h).1
 have hl2 : ∀ c ∈ c2, c < B.length := fun c h => by rw [ec2] at h; exact (zJn.1 h).1
 have hn1 : c1.length ≤ 32 := by rw [ec1]; exact Nat.le_trans (zNd _ _) nA
 have hn2 : c2.length ≤ 32 := by rw [ec2]; exact Nat.le_trans (zNd _ _) nB
 focus
  refine zB (zA rfl (v0s (veT (zB (vF ((↑(List.length os) : Int) < ↑(List.length os)) (zQ (zH (zH (zP rfl (zC (zD (zB (vd [0, 1, 2, 3, 4, 5] ?_)))))))))))))
  refine vr 1 (3 ≤ 3) (vc sA (vr 1 (3 ≤ 3) (vc sB (vrT 1 (vs 53 (D.val (Value.int IntKind.u32 (IntKind.wrap IntKind.u32 (↑(BitVec.toNat (BitVec.ofInt 32 (↑(msk A) : Int) &&& BitVec.ofInt 32 (↑(msk B) : Int))) : Int)))) (dig (msk A &&& msk B)) (by simp (disch := omega) only [bv_and, zBa]) (veT (zB (vd [0, 2, 4, 6, 1, 3, 5, 7, 8, 9] (vr 5 (True ∧ True ∧ 0 < 3) (vc cA (vr 1 (0 < 3) (vc cB (veT ?_)))))))))))))
  refine zB (zA rfl (veT (zB (zB (zA rfl (ve (True ∧ 0 < 2) (zF ?_)))))))
  rotate_left
 obtain ⟨inf, ty⟩ := gty
 obtain ⟨Lb, eLb⟩ : ∃ L : List Rw, L = (lb.map (·.1)).map fun r => zAc r c2 := ⟨_, rfl⟩
 have hLb : Lb.length = lb.length := by rw [eLb]; simp
 obtain ⟨base, ebase⟩ : ∃ base : List Bk, base = [fB1 (.row (nsD A) A.length) (.row (rwsD la) la.length) (.row (vlsD la) la.length), fB1 (.row (nsD B) B.length) (.row (rwsD lb) lb.length) (.row (vlsD lb) lb.length), fB1 nl nl nl, fB1 (.row (nsD U) U.length) nl nl, fltB ((os.map (fltF U)).flatMap flC)] := ⟨_, rfl⟩
 have hbb : bBL 5 base = true := by rw [ebase]; rfl
 refine zA4 (fun (k : Nat) (st : List Bk) (ns : List Nat) => fr 147 [(0, cntD), (5, D.own 0 0), (6, D.own 1 0), (8, D.own 2 0), (10, D.own 3 0), (11, D.osl 4 0 (List.length os) (List.length os * 2) true), (15, (q4_ c1)), (16, (q4_ c2)), (17, D.mref 5), (64, D.row (rwsD lb) (List.length lb)), (65, iD ↑(List.length lb)), (66, iD ↑k)]) (fun (k : Nat) (st : List Bk) (ns : List Nat) => st) (fun k st ns => lb.length - k) (fun (k : Nat) (st : List Bk) (ns : List Nat) => k ≤ lb.length ∧ Grp 5 102 3 (Lb.take k) base st ns) 0 [fB1 (.row (nsD A) A.length) (.row (rwsD la) la.length) (.row (vlsD la) la.length), fB1 (.row (nsD B) B.length) (.row (rwsD lb) lb.length) (.row (vlsD lb) lb.length), fB1 nl nl nl, fB1 (.row (nsD U) U.length) nl nl, fltB ((os.map (fltF U)).flatMap flC), ⟨[], 102, 0, false, false, .map []⟩] [] ?_ ?_ ?_
 ·exact ⟨by omega, ⟨by rw [ebase]; rfl, rfl, rfl, List.nodup_nil, fun j k r h => by simp at h⟩⟩
 ·refine vk 6
 rintro k st ns ⟨h3, hG⟩
 rcases Nat.lt_or_ge k lb.length with h4 | h4
 ·have hne : rwsD lb ≠ [] := zY (by simp; omega)
  have hrow : (lb.map (·.1)).getD k [] ∈ lb.map (·.1) := by
   rw [List.getD_eq_getElem?_getD, List.getElem?_eq_getElem (by simpa using h4)]; exact List.getElem_mem _
  obtain ⟨p, hp, he⟩ := List.mem_map.1 hrow
  have hlen2 := bl p hp
  have hvs := bv p hp
  rw [he] at hlen2 hvs
  have hx1 := zAh (lb.map (·.1)) k (by simpa using h4)
  have hts : Lb.take (k + 1) = Lb.take k ++ [zAc ((lb.map (·.1)).getD k []) c2] := by
   rw [List.take_succ_eq_append_getElem (by omega)]
   congr 1
   simp only [eLb, List.getElem_map, List.getD_eq_getElem?_getD, List.getElem?_map, List.getElem?_eq_getElem h4, Option.map_some, Option.getD_some]
  generalize (lb.map (·.1)).getD k [] = row at *
  have hk := zW8 row c2 _ _ rfl rfl (by omega) (by omega) (by rw [hlen2]; exact hl2) hvs
  focus
   refine zB (zA rfl ?_)
   refine st_eE [] [(67, bD (decide ((↑k : Int) < ↑(List.length lb))))] ?_
   refine zB (vT ((↑k : Int) < ↑(List.length lb)) (zG (zC (zD (zB (zF (zB (zA rfl ?_))))))))
   refine zQt 2 [] [] (ix ↑k ↑(List.length lb) (rwsD lb ≠ [])) [(68, iD ↑k), (69, D.ptr (List.drop (Int.toNat (↑k : Int) * 1) (rwsD lb)))] (by kernel_rfl) ⟨(by omega), ⟨(by omega), (by assumption)⟩⟩ ?_
   refine zV8 69 (D.ptr (List.drop (Int.toNat (↑k : Int) * 1) (rwsD lb))) (D.ptr (List.drop k (rwsD lb))) (by kernel_rfl) (by simp (disch := omega) only [Int.toNat_natCast, Nat.mul_one]) (by kernel_rfl) ?_
   refine zQt 1 [] [] (0 < List.length (List.drop k (rwsD lb))) [(70, List.headD (List.drop k (rwsD lb)) Uk)] (by kernel_rfl) (by (simp; omega)) ?_
   refine zV8 70 (List.headD (List.drop k (rwsD lb)) Uk) (rowV row) (by kernel_rfl) (by simp (disch := omega) only [hx1]) (by kernel_rfl) ?_
   refine st_eE [67, 68, 69, 70] [(18, iD ↑k), (19, (q3_ row))] ?_
   refine zB (zA rfl ?_)
   refine st_rR 2 [(71, (q3_ row)), (72, (q4_ c2))] ?_
   refine st_cC [(q3_ row), (q4_ c2)] (by exact hk) ?_
   refine st_rR 1 [(20, D.val (Value.string (bs (idR (zAc row c2)))))] ?_
   refine zR2 ?_ (by kernel_rfl)
   refine zC ?_
   rotate_left
  refine zWv fun s0 hs0 => ?_
  refine zD (zA rfl ?_)
  refine zY1 (.mref 5) rfl rfl rfl (by rw [hs0]; kernel_rfl) (zY1 (.val (kyv (zAc row c2))) rfl rfl rfl (by rw [hs0]; kernel_rfl) (zY1 (.mref 5) rfl rfl rfl (by rw [hs0]; kernel_rfl) (zY1 (.val (kyv (zAc row c2))) rfl rfl rfl (by rw [hs0]; kernel_rfl) ?_)))
  refine zY2 (m := 5) (L := Lb.take k) (r := zAc row c2) (i := k) (base := base) (ns := ns) (a1 := 76) (a2 := 77) (a3 := 18) (b1 := 74) (b2 := 75) (s1 := 78) (s2 := 79) (s3 := 80) (s4 := 81) ty (fun _ _ => rfl) (by simp; omega) (by omega) rfl rfl rfl rfl rfl rfl rfl rfl rfl rfl rfl rfl rfl rfl rfl (by rw [hs0]; kernel_rfl) (by decide) (by rw [hs0]; kernel_rfl) (by rw [hs0]; kernel_rfl) (by rw [hs0]; kernel_rfl) (by rw [hs0]; kernel_rfl) (by rw [hs0]; kernel_rfl) (by rw [hs0]; kernel_rfl) hbb hG ?_
  intro st' ns' e1 e3 e4 hG'
  refine zR2 ?_ (by kernel_rfl)
  refine zE (zC ?_)
  refine zWw [74, 75, 76, 77, 78, 79, 80, 81] (sl' := s0) (by rw [hs0]; kernel_rfl) ?_
  subst hs0
  focus
   refine zA rfl ?_
   refine zQt 2 [] [] (i6 (↑k + 1)) [(66, iD ↑(k + 1)), (82, iD ↑(k + 1))] (by kernel_rfl) (by omega) ?_
   refine zR2 ?_ (by kernel_rfl)
   refine zC ?_
   rotate_left
  refine ⟨k + 1, st', ns', ⟨by omega, by rw [hts]; exact hG'⟩, by omega, ?_⟩
  refine zYw [(0, 1), (5, 1), (6, 1), (8, 1), (10, 1), (11, 1), (15, 1), (16, 1), (17, 1), (64, 1), (65, 1), (66, 1)] (cntD = cntD ∧ D.own 0 0 = D.own 0 0 ∧ D.own 1 0 = D.own 1 0 ∧ D.own 2 0 = D.own 2 0 ∧ D.own 3 0 = D.own 3 0 ∧ D.osl 4 0 (List.length os) (List.length os * 2) true = D.osl 4 0 (List.length os) (List.length os * 2) true ∧ D.row (nsD c1) (List.length c1) = D.row (nsD c1) (List.length c1) ∧ D.row (nsD c2) (List.length c2) = D.row (nsD c2) (List.length c2) ∧ D.mref 5 = D.mref 5 ∧ D.row (rwsD lb) (List.length lb) = D.row (rwsD lb) (List.length lb) ∧ iD (↑(List.length lb) : Int) = iD (↑(List.length lb) : Int) ∧ iD (↑(k + 1) : Int) = iD (↑(k + 1) : Int)) (by kernel_rfl) ⟨rfl, rfl, rfl, rfl, rfl, rfl, rfl, rfl, rfl, rfl, rfl, rfl⟩
 rw [List.take_of_length_le (by omega)] at hG
 subst ebase
 focus
  refine zB (zA rfl ?_)
  refine st_eE [] [(67, bD (decide ((↑k : Int) < ↑(List.length lb))))] ?_
  refine zB (vF ((↑k : Int) < ↑(List.length lb)) (zQ (zH (zH (zP rfl (zC ?_))))))
  rotate_left
 have hfl := zKv zKw (os.map (fltF U)) os.length (by simp)
 refine zBe ((zYx (m := 5) (s := 17) (fun _ _ => rfl) (by kernel_rfl) (by kernel_rfl) hbb hG).trans (((Weak.nilC (j := 3) (i := 1) (rowB []) rfl rfl rfl rfl).trans (Weak.nilC (j := 3) (i := 2) (natB []) rfl rfl rfl rfl)).trans (Weak.osr (s := 11) (k := 4) (off := 0) (n := os.length) (m := os.length * 2) (wh := true) (cs := (os.map (fltF U)).flatMap flC) (by kernel_rfl) (show some (D.row ((((os.map (fltF U)).flatMap flC).drop 0).take (os.length * 2)) os.length, [4]) = _ by rw [List.drop_zero, hfl])))) ?_
 focus
  refine zB (zB (zA rfl (v0s (ve (True ∧ 0 < 2) (zF ?_)))))
  rotate_left
 clear hG h3 h4
 obtain ⟨ok, eok⟩ : ∃ ok : Rw → Bool, ok = fun s => os.all fun o => okO U s (faN o) := ⟨_, rfl⟩
 have hpf : ((zBb (· * ·) A la B lb).filter fun p => os.all fun o => okO U p.1 (faN o)) = la.flatMap fun p => zEz A B ok p (selB A B lb p) := by
  rw [eok]; exact zLu A B lb (fun s => os.all fun o => okO U s (faN o)) la
 rw [hpf]
 refine zAu (fun (i : Nat) (O : List (Rw × Nat)) => fr 147 [(0, cntD), (5, D.own 0 0), (6, D.own 1 0), (8, D.own 2 0), (10, D.own 3 0), (11, D.osr 4 0 (List.length os) (List.length os * 2) true (List.flatMap flC (List.map (fltF U) os))), (15, (q4_ c1)), (17, D.mfz (List.map kyv (allK Lb)) (zVd Lb)), (84, (q7_ la)), (85, iD ↑(List.length la)), (86, iD ↑i)]) (fun (i : Nat) (O : List (Rw × Nat)) => [fB1 (.row (nsD A) A.length) (.row (rwsD la) la.length) (.row (vlsD la) la.length), fB1 (.row (nsD B) B.length) (.row (rwsD lb) lb.length) (.row (vlsD lb) lb.length), fB1 nl nl nl, fB1 (.row (nsD U) U.length) (.osl 5 0 O.length O.length true) (.osl 6 0 O.length O.length true), ⟨(os.map (fltF U)).flatMap flC, 99, 2, true, true, .plain⟩, rowB (rwsD O), natB (vlsD O)]) (fun i O => la.length - i) (fun (i : Nat) (O : List (Rw × Nat)) => i ≤ la.length ∧ O = (la.take i).flatMap fun p => zEz A B ok p (selB A B lb p)) 0 [] ?_ ?_ ?_
 ·exact ⟨by omega, by simp⟩
 ·refine vk 7
 rintro i O ⟨h3, hO⟩
 rcases Nat.lt_or_ge i la.length with h4 | h4
 ·have hne : rwsD la ≠ [] := zY (by simp; omega)
  have hne2 : vlsD la ≠ [] := zY (by simp; omega)
  have hx1 := zAh (la.map (·.1)) i (by simpa using h4)
  have hx2 := zB7 (la.map (·.2)) i (by simpa using h4)
  have hpm : la.getD i default ∈ la := by rw [List.getD_eq_getElem?_getD, List.getElem?_eq_getElem h4]; exact List.getElem_mem h4
  have hr1 : (la.map (·.1)).getD i [] = (la.getD i default).1 := by simp [List.getD_eq_getElem?_getD, h4]
  have hr2 : (la.map (·.2)).getD i 0 = (la.getD i default).2 := by simp [List.getD_eq_getElem?_getD, h4]
  have hfs := zVe (A := A) (B := B) (lb := lb) (ok := ok) la i h4
  have hOl : O.length ≤ i * lb.length := by rw [hO]; exact zP0 la i
  have hmul : (i + 1) * lb.length ≤ la.length * lb.length := Nat.mul_le_mul_right _ h4
  rw [Nat.succ_mul] at hmul
  rw [← hO] at hfs
  have hlen2 := al _ hpm
  have hvs := av _ hpm
  have hsm := am _ hpm
  rw [hr1] at hx1
  rw [hr2] at hx2
  generalize la.getD i default = p at *
  have hk := zW8 p.1 c1 _ _ rfl rfl (by omega) (by omega) (by rw [hlen2]; exact hl1) hvs
  have hlk := look_g Lb (zAc p.1 c1)
  have hps := pos_sel (lb := lb) hA hB p
  rw [← ec1, ← ec2, ← eLb] at hps
  by_cases hin : zAc p.1 c1 ∈ Lb
  ·rw [if_pos hin] at hlk
   have hposk : ∀ k ∈ posL Lb (zAc p.1 c1), k < lb.length := fun k hk => by rw [← hLb]; exact pos_lt hk
   generalize posL Lb (zAc p.1 c1) = pos at *
   focus
    refine zB (zA rfl (v0s (veT (zB (vT ((↑i : Int) < ↑(List.length la)) (zG (zC (zD (zB (zF (zB (zA rfl (vr 2 (ix ↑i ↑(List.length la) (rwsD la ≠ [])) ?_)))))))))))))
    refine vp 89 i (rwsD la) (vr 1 (0 < List.length (List.drop i (rwsD la))) (vsh 90 hx1 (veT (zB (zA rfl (vrT 3 (vc hk ?_)))))))
    refine vwh 1 [] [] (zX (TypeInfo.desc (TypeInfo.mk TypeDesc.string "string" 1 16 true 8 8 (some (Value.string (ByteArray.mk #[]))) true #[])) (Value.string (bs (idR (zAc (Prod.fst p) c1)))) = true ∧ List.all (List.map kyv (allK Lb)) (zX (TypeInfo.desc (TypeInfo.mk TypeDesc.string "string" 1 16 true 8 8 (some (Value.string (ByteArray.mk #[]))) true #[]))) = true) ?_ ?_
    rotate_left
    refine vsh 95 hlk (veT (zF ?_))
    rotate_left
   ·exact ⟨rfl, zE7 _⟩
   have hsl : (selB A B lb p).length = pos.length := by rw [← hps, List.length_map]
   have hsb : (selB A B lb p).length ≤ lb.length := List.length_filter_le _ _
   have hts := fun t h => zT0 (A := A) (B := B) (ok := ok) p (selB A B lb p) t h
   refine zAu (fun (t : Nat) (R : List (Rw × Nat)) => fr 147 [(0, cntD), (5, D.own 0 0), (6, D.own 1 0), (8, D.own 2 0), (10, D.own 3 0), (11, D.osr 4 0 (List.length os) (List.length os * 2) true (List.flatMap flC (List.map (fltF U) os))), (15, (q4_ c1)), (17, D.mfz (List.map kyv (allK Lb)) (zVd Lb)), (21, iD ↑i), (22, D.row (zK (Prod.fst p)) (List.length (Prod.fst p))), (84, (q7_ la)), (85, iD ↑(List.length la)), (86, iD ↑i), (95, D.row (nsD pos) (List.length pos)), (96, iD ↑(List.length pos)), (97, iD ↑t)]) (fun (t : Nat) (R : List (Rw × Nat)) => [fB1 (.row (nsD A) A.length) (.row (rwsD la) la.length) (.row (vlsD la) la.length), fB1 (.row (nsD B) B.length) (.row (rwsD lb) lb.length) (.row (vlsD lb) lb.length), fB1 nl nl nl, fB1 (.row (nsD U) U.length) (.osl 5 0 R.length R.length true) (.osl 6 0 R.length R.length true), ⟨(os.map (fltF U)).flatMap flC, 99, 2, true, true, .plain⟩, rowB (rwsD R), natB (vlsD R)]) (fun t R => pos.length - t) (fun (t : Nat) (R : List (Rw × Nat)) => t ≤ pos.length ∧ R = O ++ zEz A B ok p ((selB A B lb p).take t)) 0 O ?_ ?_ ?_
   ·exact ⟨by omega, by simp [zEz]⟩
   ·refine vk 7
   rintro t R ⟨h5, hR⟩
   have hRl : R.length ≤ O.length + t := by
    have h6 := zPd (A := A) (B := B) (ok := ok) p ((selB A B lb p).take t)
    rw [hR, List.length_append]
    simp only [List.length_take] at h6
    omega
   rcases Nat.lt_or_ge t pos.length with h6 | h6
   ·have hne3 : rwsD lb ≠ [] := zY (by simp; omega)
    have hne4 : vlsD lb ≠ [] := zY (by simp; omega)
    have hkm := hposk _ (zDk pos t h6)
    have hsg : (selB A B lb p).getD t default = lb.getD (pos.getD t 0) default := by
     rw [← hps]; simp [List.getD_eq_getElem?_getD, h6]
    have hqm : lb.getD (pos.getD t 0) default ∈ lb := by rw [List.getD_eq_getElem?_getD, List.getElem?_eq_getElem hkm]; exact List.getElem_mem hkm
    have hy1 := zAh (lb.map (·.1)) (pos.getD t 0) (by simpa using hkm)
    have hy2 := zB7 (lb.map (·.2)) (pos.getD t 0) (by simpa using hkm)
    have hr3 := zZ9 lb hkm
    have hr4 := zZ8 lb hkm
    have hp1 : 0 < ((rwsD lb).drop (pos.getD t 0)).length := by rw [List.length_drop, List.length_map, List.length_map]; omega
    have hp2 : 0 < ((vlsD lb).drop (pos.getD t 0)).length := by rw [List.length_drop, List.length_map, List.length_map]; omega
    have ht1 := hts t (by omega)
    rw [hsg] at ht1
    rw [hr3] at hy1
    rw [hr4] at hy2
    have hql := bl _ hqm
    have hqv := bv _ hqm
    have hqs := bm _ hqm
    have hz := zAi pos t h6
    generalize lb.getD (pos.getD t 0) default = q at *
    have hmg : Pure Tryd.prog 54 [.row (nsD U) U.length, .row (nsD A) A.length, .row (zK p.1) p.1.length, .row (nsD B) B.length, .row (zK q.1) q.1.length] [] (.row (zK (mg A p.1 B q.1)) U.length) := by
     have h := merge_c A B p.1 q.1 _ _ _ rfl rfl rfl hlen2 hql hA hB nA nB (by rw [← eU]; exact nU)
     rw [← eU] at h
     rw [hlen2, hql]; exact h
    have hml : (mg A p.1 B q.1).length = U.length := by rw [mg, List.length_map, eU]
    have hmv : ∀ v ∈ mg A p.1 B q.1, Vs v := fun v hv => by
     obtain ⟨w, _, rfl⟩ := List.mem_map.1 hv
     have gv : ∀ (C : List Nat) (x : List Va), (∀ v ∈ x, Vs v) → Vs (asg C x w) := fun C x hx => by
      unfold asg
      rw [List.getD_eq_getElem?_getD]
      cases e : x[C.idxOf w]? with
      | none => exact ⟨by decide, by decide, by decide⟩
      | some u => exact hx u (List.mem_of_getElem? e)
     unfold sg
     split
     ·exact gv A _ hvs
     ·exact gv B _ hqv
    have hpa := zZm (os.map (fltF U)) _ rfl (by simp; omega) (mg A p.1 B q.1) _ hml (by omega) hmv (fun f hf => by
     obtain ⟨o, ho', rfl⟩ := List.mem_map.1 hf
     exact ⟨by have := zNd (fun v => (msk o.1 &&& msk U).testBit v) U; simp only [fltF]; omega, fun c hc => by rw [hml]; exact (zJn.1 hc).1⟩)
    rw [List.length_map, List.all_map] at hpa
    have hoke : (os.all ((fun f => decide (zAc (mg A p.1 B q.1) f.1 ∈ f.2)) ∘ fltF U)) = ok (mg A p.1 B q.1) := by
     rw [eok]
     simp only [Function.comp_def]
     rw [Bool.eq_iff_iff, List.all_eq_true, List.all_eq_true]
     constructor
     ·intro h o ho'; rw [← flt_ok hU (ho o ho').asc]; exact h o ho'
     ·intro h o ho'; rw [flt_ok hU (ho o ho').asc]; exact h o ho'
    rw [hoke] at hpa
    have hmu2 := cmul_c p.2 q.2 hsm hqs
    focus
     refine zB (zA rfl (v0s (veT (zB (vT ((↑t : Int) < ↑(List.length pos)) (zG (zC (zD (zB (zF (zB (zA rfl (vr 1 (ix ↑t ↑(List.length pos) (nsD pos ≠ [])) ?_ ⟨(by omega), ⟨(by omega), (by exact zY (by omega))⟩⟩)))))))))))))
     refine vp 99 t (nsD pos) (vr 1 (0 < List.length (List.drop t (nsD pos))) (vsh 100 hz (veT (zB (vd [0, 2, 4, 5, 7, 9, 1, 3, 6, 8, 10, 11, 12, 13] (vr 11 (True ∧ True ∧ True ∧ True ∧ 0 < 3 ∧ 0 < 3 ∧ 0 < 3 ∧ 0 < 2 ∧ ix ↑(List.getD pos t 0) ↑(List.length lb) (rwsD lb ≠ [])) (vp 111 (List.getD pos t 0) (rwsD lb) (vr 1 (0 < List.length (List.drop (List.getD pos t 0) (rwsD lb))) (vsh 112 hy1 (vc hmg (veT (zB (zA rfl ?_)))))))))))))
     refine vrT 2 (vc hpa (veT ?_))
     refine zR (t := ok (mg A (Prod.fst p) B (Prod.fst q))) (by kernel_rfl) (fun hc => ?_) (fun hc => ?_)
     refine zB (zA rfl (vr 7 (True ∧ 0 < 2 ∧ ((1 = 1 ∧ 1 ≤ 1 ∧ True) ∧ 0 < 1 ∧ 1 = 1 ∧ 1 ≤ 16777216 ∧ 1 ≤ 9223372036854775807) ∧ (Bk.arr (rowB (rwsD R)) = true ∧ List.length (Bk.cells (rowB (rwsD R))) = List.length R * 1 ∧ List.length R = List.length R * 1 ∧ Bk.ty (rowB (rwsD R)) = 72 ∧ Bk.sz (rowB (rwsD R)) = 1 ∧ 1 = 1 ∧ 0 < 1 ∧ 0 < 24 ∧ 72 = 72 ∧ (List.length R + 1) * 24 ≤ 140737488355328 ∧ 1 = 1 ∧ Kd.isMap (Bk.kd (rowB (rwsD R))) = false ∧ (false = false ∨ Kd.isSh (Bk.kd (rowB (rwsD R))) = true)) ∧ True ∧ Bk.fz (Bk.mk [D.row (nsD U) (List.length U), Uk, D.osl 6 0 (List.length R) (List.length R) true] 30 0 false false Kd.plain) = false ∧ true = true ∧ 1 = 1 ∧ 2 ≤ 3) (vb 3 (Bk.mk [D.row (nsD U) (List.length U), D.osl 5 0 (List.length R + 1) ((List.length R + 1) * 1) true, D.osl 6 0 (List.length R) (List.length R) true] (Bk.ty (Bk.mk [D.row (nsD U) (List.length U), Uk, D.osl 6 0 (List.length R) (List.length R) true] 30 0 false false Kd.plain)) (Bk.sz (Bk.mk [D.row (nsD U) (List.length U), Uk, D.osl 6 0 (List.length R) (List.length R) true] 30 0 false false Kd.plain)) (Bk.arr (Bk.mk [D.row (nsD U) (List.length U), Uk, D.osl 6 0 (List.length R) (List.length R) true] 30 0 false false Kd.plain)) (Bk.fz (Bk.mk [D.row (nsD U) (List.length U), Uk, D.osl 6 0 (List.length R) (List.length R) true] 30 0 false false Kd.plain)) (Bk.kd (Bk.mk [D.row (nsD U) (List.length U), Uk, D.osl 6 0 (List.length R) (List.length R) true] 30 0 false false Kd.plain))) (Bk.mk [D.row (nsD U) (List.length U), D.osl 5 0 (List.length R + 1) (List.length R + 1) true, D.osl 6 0 (List.length R) (List.length R) true] 30 0 false false Kd.plain) (by simp (disch := omega) only [Nat.mul_one]) (veT (vd [0, 2, 3, 5, 8, 10, 13, 14, 15, 1, 4, 6, 7, 9, 11, 12, 16, 17, 18, 19, 20] (vr 12 (True ∧ True ∧ True ∧ 0 < 1 ∧ 0 < 1 ∧ ix ↑i ↑(List.length la) (vlsD la ≠ [])) ?_))))))
     refine vp 129 i (vlsD la) (vr 1 (0 < List.length (List.drop i (vlsD la))) (vsh 130 hx2 (vr 2 (0 < 1 ∧ ix ↑(List.getD pos t 0) ↑(List.length lb) (vlsD lb ≠ [])) (vp 134 (List.getD pos t 0) (vlsD lb) (vr 1 (0 < List.length (List.drop (List.getD pos t 0) (vlsD lb))) (vsh 135 hy2 (vc hmu2 (vr 4 (((1 = 1 ∧ 1 ≤ 1 ∧ True) ∧ 0 < 1 ∧ 1 = 1 ∧ 1 ≤ 16777216 ∧ 1 ≤ 9223372036854775807) ∧ (Bk.arr (Bk.mk (vlsD R) 35 1 true false Kd.plain) = true ∧ List.length (vlsD R) = List.length R * 1 ∧ List.length R = List.length R * 1 ∧ Bk.ty (Bk.mk (vlsD R) 35 1 true false Kd.plain) = 35 ∧ Bk.sz (Bk.mk (vlsD R) 35 1 true false Kd.plain) = 1 ∧ 1 = 1 ∧ 0 < 1 ∧ 0 < 24 ∧ 35 = 35 ∧ (List.length R + 1) * 24 ≤ 140737488355328 ∧ 1 = 1 ∧ Kd.isMap (Bk.kd (Bk.mk (vlsD R) 35 1 true false Kd.plain)) = false ∧ (false = false ∨ Kd.isSh (Bk.kd (Bk.mk (vlsD R) 35 1 true false Kd.plain)) = true)) ∧ True ∧ Bk.fz (Bk.mk [D.row (nsD U) (List.length U), D.osl 5 0 (List.length R + 1) (List.length R + 1) true, Uk] 30 0 false false Kd.plain) = false ∧ true = true ∧ 1 = 1 ∧ 3 ≤ 3) (vb 3 (Bk.mk [D.row (nsD U) (List.length U), D.osl 5 0 (List.length R + 1) (List.length R + 1) true, D.osl 6 0 (List.length R + 1) ((List.length R + 1) * 1) true] (Bk.ty (Bk.mk [D.row (nsD U) (List.length U), D.osl 5 0 (List.length R + 1) (List.length R + 1) true, Uk] 30 0 false false Kd.plain)) (Bk.sz (Bk.mk [D.row (nsD U) (List.length U), D.osl 5 0 (List.length R + 1) (List.length R + 1) true, Uk] 30 0 false false Kd.plain)) (Bk.arr (Bk.mk [D.row (nsD U) (List.length U), D.osl 5 0 (List.length R + 1) (List.length R + 1) true, Uk] 30 0 false false Kd.plain)) (Bk.fz (Bk.mk [D.row (nsD U) (List.length U), D.osl 5 0 (List.length R + 1) (List.length R + 1) true, Uk] 30 0 false false Kd.plain)) (Bk.kd (Bk.mk [D.row (nsD U) (List.length U), D.osl 5 0 (List.length R + 1) (List.length R + 1) true, Uk] 30 0 false false Kd.plain))) (Bk.mk [D.row (nsD U) (List.length U), D.osl 5 0 (List.length R + 1) (List.length R + 1) true, D.osl 6 0 (List.length R + 1) (List.length R + 1) true] 30 0 false false Kd.plain) (by simp (disch := omega) only [Nat.mul_one]) ?_)))))))))
     refine vnil (zE (zC (zD (zA rfl (vr 2 (i6 (↑t + 1)) (vnil (zC ?_)))))))
     rotate_left
     refine zG (zE (zC (zD (zA rfl (vr 2 (i6 (↑t + 1)) (vnil (zC ?_)))))))
     rotate_left
    ·rw [if_pos hc] at ht1
     refine ⟨t + 1, R ++ [prQ A B p q], ⟨by omega, ?_⟩, by omega, ?_⟩
     ·rw [ht1, ← List.append_assoc, ← hR]
     ·rw [show rwsD (R ++ [prQ A B p q]) = rwsD R ++ [.row (zK (mg A p.1 B q.1)) U.length] by rw [← hml]; simp [prQ], show vlsD (R ++ [prQ A B p q]) = vlsD R ++ [natD (p.2 * q.2)] by simp [prQ], List.length_append]
      refine vk 7
    ·rw [if_neg (by simpa using hc), List.append_nil] at ht1
     refine ⟨t + 1, R, ⟨by omega, by rw [ht1]; exact hR⟩, by omega, ?_⟩
     refine vk 7
   ·rw [List.take_of_length_le (by omega)] at hR
    focus
     refine zB (zA rfl (v0s (veT (zB (vF ((↑t : Int) < ↑(List.length pos)) (zQ (zH (zH (zP rfl (zE (zC (zD (zA rfl ?_)))))))))))))
     refine vr 2 (i6 (↑i + 1)) (vnil (zC ?_))
     rotate_left
    refine ⟨i + 1, R, ⟨by omega, by rw [hfs]; exact hR⟩, by omega, ?_⟩
    refine vk 7
  ·rw [if_neg hin] at hlk
   rw [zMy hin] at hps
   focus
    refine zB (zA rfl (v0s (veT (zB (vT ((↑i : Int) < ↑(List.length la)) (zG (zC (zD (zB (zF (zB (zA rfl (vr 2 (ix ↑i ↑(List.length la) (rwsD la ≠ [])) ?_)))))))))))))
    refine vp 89 i (rwsD la) (vr 1 (0 < List.length (List.drop i (rwsD la))) (vsh 90 hx1 (veT (zB (zA rfl (vrT 3 (vc hk ?_)))))))
    refine vwh 1 [] [] (zX (TypeInfo.desc (TypeInfo.mk TypeDesc.string "string" 1 16 true 8 8 (some (Value.string (ByteArray.mk #[]))) true #[])) (Value.string (bs (idR (zAc (Prod.fst p) c1)))) = true ∧ List.all (List.map kyv (allK Lb)) (zX (TypeInfo.desc (TypeInfo.mk TypeDesc.string "string" 1 16 true 8 8 (some (Value.string (ByteArray.mk #[]))) true #[]))) = true) ?_ ?_
    rotate_left
    refine vsh 95 hlk (veT (zF (zAr (zB (zA rfl (veT (zB (vf (zQ (zH (zH (zP rfl (zE ?_)))))))))))))
    refine zC (zD (zA rfl (vr 2 (i6 (↑i + 1)) (vnil (zC ?_)))))
    rotate_left
   ·exact ⟨rfl, zE7 _⟩
   ·refine ⟨i + 1, O, ⟨by omega, ?_⟩, by omega, ?_⟩
    ·rw [hfs, ← hps]; simp [zEz]
    ·refine vk 7
 ·have hO' : O = la.flatMap fun p => zEz A B ok p (selB A B lb p) := by rw [List.take_of_length_le (by omega)] at hO; exact hO
  rw [← hO']
  have hOl : O.length ≤ 1000000 := by
   have h5 := zP0 (A := A) (B := B) (lb := lb) (ok := ok) la la.length
   rw [List.take_length, ← hO'] at h5
   omega
  have hOp : O = (zBb (· * ·) A la B lb).filter fun p => ok p.1 := by rw [hO', eok]; exact (zLu A B lb (fun s => os.all fun o => okO U s (faN o)) la).symm
  have hnd : Ndk O := by rw [hOp]; exact zG8 ok (zGl hA hB nda ndb al bl)
  have hOr : ∀ p ∈ O, p.1.length = U.length := fun p hp => by
   rw [hOp] at hp
   obtain ⟨x, _, y, _, _, h7, _⟩ := (zGm (s := p.1) (u := p.2)).1 (List.mem_filter.1 hp).1
   rw [← h7, mg, List.length_map, eU]
  have hso := zR3 U O hOl (fun p hp => by rw [hOr p hp]; omega) hnd
  have hu1 := zH3 U U.length rfl
  have hu2 : (rwsD O).take O.length = rwsD O := List.take_of_length_le (by simp)
  have hu3 : (vlsD O).take O.length = vlsD O := List.take_of_length_le (by simp)
  clear hO hO' hOp hpf
  focus
   refine zB (zA rfl (v0s (veT (zB (vF ((↑i : Int) < ↑(List.length la)) (zQ (zH (zH (zP rfl (zC (zD (zB (zA rfl ?_)))))))))))))
   refine vr 1 (3 ≤ 3) (vcl [D.agg [D.row (nsD U) (List.length U), D.row (List.take (List.length O) (List.drop 0 (Bk.cells (rowB (rwsD O))))) (List.length O), D.row (List.take (List.length O) (List.drop 0 (Bk.cells (natB (vlsD O))))) (List.length O)]] [D.agg [D.row (nsD U) (List.length U), D.row (rwsD O) (List.length O), D.row (vlsD O) (List.length O)]] (LeL.of_eq (by simp (disch := omega) only [List.drop_zero, hu3, hu2])) (by exact hso) (ve (false = false ∧ true = true ∧ 3 = 3 ∧ 3 ≤ 3) (zM (vret (3 ≤ 3) (.inr rfl)))))
end
section
open Go.RowKit
def Sn : Sr Nat := ⟨(· + ·), (· * ·), 1, Nat.one_mul, Nat.add_comm, Nat.add_assoc, Nat.mul_comm, Nat.mul_assoc, Nat.left_distrib⟩
section
variable {α : Type} {c : Rw → Rw → Int}
theorem zSf (f : α → α → α) (r : Rw) (v : α) : ∀ l : List (Rw × α), (putP c f r v l).length ≤ l.length + 1
 | [] => by simp [putP]
 | (s, u) :: l => by
  have := zSf f r v l
  simp only [putP]
  split
  ·simp only [List.length_cons]; omega
  ·split <;> simp
theorem zLe (f : α → α → α) : ∀ (L l : List (Rw × α)), (acc c f l L).length ≤ l.length + L.length
 | [], l => by simp [acc]
 | p :: L, l => by
  have h1 := zLe f L (putP c f p.1 p.2 l)
  have h2 := zSf (c := c) f p.1 p.2 l
  simp only [acc, List.foldl_cons, List.length_cons] at h1 ⊢
  omega
theorem zKa (f : α → α → α) (A B : List Nat) (lb : List (Rw × α)) : ∀ la : List (Rw × α), (zBb f A la B lb).length ≤ la.length * lb.length
 | [] => by simp [zBb]
 | p :: la => by
  have h1 := zKa f A B lb la
  have h2 : (lb.filter fun q => mt A p.1 B q.1).length ≤ lb.length := List.length_filter_le _ _
  simp only [zBb, List.flatMap_cons, List.length_append, List.length_map, List.length_cons, Nat.succ_mul] at h1 ⊢
  omega
def rz (f : Fa α) : Nat := f.l.length + 1
theorem fmul_len (S : Sr α) (f g : Fa α) (os : List (Fa α)) : (fmul c S f g os).l.length ≤ f.l.length * g.l.length := by
 have h1 := zLe (c := c) S.add ((zBb S.mul f.A f.l g.A g.l).filter fun p => os.all fun o => okO (un f.A g.A) p.1 o) []
 have h2 : ((zBb S.mul f.A f.l g.A g.l).filter fun p => os.all fun o => okO (un f.A g.A) p.1 o).length ≤ (zBb S.mul f.A f.l g.A g.l).length := List.length_filter_le _ _
 have h3 := zKa S.mul f.A g.A g.l f.l
 simp only [List.length_nil] at h1
 show (acc c S.add [] _).length ≤ _
 omega
theorem zHj (S : Sr α) (f g : Fa α) (os : List (Fa α)) : rz (fmul c S f g os) ≤ rz f * rz g := by
 have := fmul_len (c := c) S f g os
 simp only [rz, Nat.mul_add, Nat.add_mul]
 omega
theorem zM7 (S : Sr α) (v : Nat) (f : Fa α) : rz (fsum c S v f) ≤ rz f := by
 have h1 := zLe (c := c) S.add (zHn f.A v f.l) []
 simp only [zHn, List.length_nil, List.length_map] at h1
 show (acc c S.add [] _).length + 1 ≤ f.l.length + 1
 unfold zHn
 omega
theorem zHy (f : Fa α) : 1 ≤ rz f := by unfold rz; omega
end
section
variable {c : Rw → Rw → Int}
theorem zSc (r : Rw) (v : Nat) : ∀ l : List (Rw × Nat), ((putP c (· + ·) r v l).map (·.2)).sum = (l.map (·.2)).sum + v
 | [] => by simp [putP]
 | (s, u) :: l => by
  have := zSc r v l
  simp only [putP]
  split
  ·simp only [List.map_cons, List.sum_cons]; omega
  ·split <;> simp only [List.map_cons, List.sum_cons] <;> omega
theorem zLd : ∀ (L l : List (Rw × Nat)), ((acc c (· + ·) l L).map (·.2)).sum = (l.map (·.2)).sum + (L.map (·.2)).sum
 | [], l => by simp [acc]
 | p :: L, l => by
  have h1 := zLd L (putP c (· + ·) p.1 p.2 l)
  rw [zSc] at h1
  simp only [acc, List.foldl_cons, List.map_cons, List.sum_cons] at h1 ⊢
  omega
theorem zFm {α : Type} (g : α → Nat) (q : α → Bool) : ∀ l : List α, ((l.filter q).map g).sum ≤ (l.map g).sum
 | [] => by simp
 | a :: l => by
  have := zFm g q l
  rw [List.filter_cons]
  split <;> simp only [List.map_cons, List.sum_cons] <;> omega
theorem zMi {α : Type} (g : α → Nat) (k : Nat) : ∀ l : List α, (l.map fun q => k * g q).sum = k * (l.map g).sum
 | [] => by simp
 | a :: l => by simp only [List.map_cons, List.sum_cons, zMi g k l, Nat.mul_add]
theorem zJ9 (A B : List Nat) (lb : List (Rw × Nat)) : ∀ la : List (Rw × Nat), ((zBb (· * ·) A la B lb).map (·.2)).sum ≤ (la.map (·.2)).sum * (lb.map (·.2)).sum
 | [] => by simp [zBb]
 | p :: la => by
  have h1 := zJ9 A B lb la
  have h2 := Nat.mul_le_mul_left p.2 (zFm (fun q : Rw × Nat => q.2) (fun q => mt A p.1 B q.1) lb)
  rw [← zMi] at h2
  simp only [zBb, List.flatMap_cons, List.map_append, List.sum_append, List.map_map, List.map_cons, List.sum_cons, Nat.add_mul, Function.comp_def] at h1 h2 ⊢
  omega
def vz (f : Fa Nat) : Nat := (f.l.map (·.2)).sum + 1
theorem zXj (f g : Fa Nat) (os : List (Fa Nat)) : ((fmul c Sn f g os).l.map (·.2)).sum ≤ (f.l.map (·.2)).sum * (g.l.map (·.2)).sum := by
 have h1 := zLd (c := c) ((zBb (· * ·) f.A f.l g.A g.l).filter fun p => os.all fun o => okO (un f.A g.A) p.1 o) []
 have h2 := zFm (fun q : Rw × Nat => q.2) (fun p => os.all fun o => okO (un f.A g.A) p.1 o) (zBb (· * ·) f.A f.l g.A g.l)
 have h3 := zJ9 f.A g.A g.l f.l
 simp only [List.map_nil, List.sum_nil, Nat.zero_add] at h1
 refine Nat.le_trans (Nat.le_of_eq h1) (Nat.le_trans h2 h3)
theorem zHi (f g : Fa Nat) (os : List (Fa Nat)) : vz (fmul c Sn f g os) ≤ vz f * vz g := by
 have := zXj (c := c) f g os
 simp only [vz, Nat.mul_add, Nat.add_mul]
 omega
theorem zPy (v : Nat) (f : Fa Nat) : ((fsum c Sn v f).l.map (·.2)).sum = (f.l.map (·.2)).sum := by
 have h1 := zLd (c := c) (zHn f.A v f.l) []
 have e : (zHn f.A v f.l).map (·.2) = f.l.map (·.2) := by simp [zHn, Function.comp_def]
 rw [e] at h1
 simp only [List.map_nil, List.sum_nil, Nat.zero_add] at h1
 exact h1
theorem zM6 (v : Nat) (f : Fa Nat) : vz (fsum c Sn v f) = vz f := by unfold vz; rw [zPy]
theorem zHw (f : Fa Nat) : 1 ≤ vz f := by unfold vz; omega
end
def pz {α : Type} (z : α → Nat) (l : List α) : Nat := l.foldr (fun a n => z a * n) 1
theorem zBv {α : Type} (z : α → Nat) (a : α) (l : List α) : pz z (a :: l) = z a * pz z l := rfl
theorem zH2 {α : Type} (z : α → Nat) : ∀ (l m : List α), pz z (l ++ m) = pz z l * pz z m
 | [], m => by simp [pz]
 | a :: l, m => by rw [List.cons_append, zBv, zBv, zH2 z l m, Nat.mul_assoc]
theorem zGk {α : Type} {z : α → Nat} (hz : ∀ a, 1 ≤ z a) : ∀ l : List α, 1 ≤ pz z l
 | [] => Nat.le_refl 1
 | a :: l => Nat.mul_le_mul (hz a) (zGk hz l)
theorem zQz {α : Type} (z : α → Nat) {l m : List α} (h : l.Perm m) : pz z l = pz z m := by
 induction h with
 | nil => rfl
 | cons x _ ih => rw [zBv, zBv, ih]
 | swap x y l => simp only [zBv]; rw [← Nat.mul_assoc, Nat.mul_comm (z y), Nat.mul_assoc]
 | trans _ _ h1 h2 => exact h1.trans h2
theorem zSb {α : Type} {z : α → Nat} (hz : ∀ a, 1 ≤ z a) {l : List α} {a : α} (h : a ∈ l) : z a ≤ pz z l := by
 induction l with
 | nil => simp at h
 | cons b l ih =>
  rw [zBv]
  rcases List.mem_cons.1 h with rfl | h
  ·exact Nat.le_mul_of_pos_right _ (zGk hz l)
  ·exact Nat.le_trans (ih h) (Nat.le_mul_of_pos_left _ (hz b))
section
variable {α : Type} {c : Rw → Rw → Int} {S : Sr α} {z : Fa α → Nat} (hz : ∀ a, 1 ≤ z a) (h1 : ∀ f g os, z (fmul c S f g os) ≤ z f * z g) (h2 : ∀ v f, z (fsum c S v f) ≤ z f)
include h1 in
theorem zXp : ∀ (fs : List (Fa α)) (p : Fa α) (os : List (Fa α)), z (zCl c S p fs os) ≤ z p * pz z fs
 | [], p, os => by simp [zCl, pz]
 | f :: fs, p, os => by
  have h3 := zXp fs (fmul c S p f (fs ++ os)) os
  have h4 := Nat.mul_le_mul_right (pz z fs) (h1 p f (fs ++ os))
  rw [zCl, zBv, ← Nat.mul_assoc]
  exact Nat.le_trans h3 h4
include h1 h2 in
theorem elim_z (v : Nat) (fs : List (Fa α)) : pz z (elim c S v fs) ≤ pz z fs := by
 have hp := zQz z (zDt v fs)
 unfold elim
 split
 ·exact Nat.le_refl _
 ·rename_i p ws e
  rw [e, zH2, zBv] at hp
  rw [← hp, zH2]
  have h3 := Nat.le_trans (h2 v (zCl c S p ws (zEb v fs))) (zXp h1 ws p (zEb v fs))
  have e1 : ∀ g : Fa α, pz z [g] = z g := fun g => by simp [pz]
  rw [e1, Nat.mul_comm]
  exact Nat.mul_le_mul_right _ h3
end
end
section
open Go.RowKit
theorem zSd {r : Rw} {v : Nat} : ∀ {l : List (Rw × Nat)} {t : Nat}, (∀ j, j < t → rcmp (l.getD j default).1 r < 0) → t < l.length → (l.getD t default).1 = r → putP rcmp (· + ·) r v l = l.set t (r, (l.getD t default).2 + v)
  | [], t, _, h, _ => by simp at h
  | (s, u) :: l, 0, _, _, he => by
    have he : s = r := he
    subst he
    simp only [putP]
    rw [if_neg (rcw.irr s), if_pos trivial]; rfl
  | (s, u) :: l, t + 1, hb, ht, he => by
    have h0 : rcmp s r < 0 := hb 0 (by omega)
    have ih := zSd (r := r) (v := v) (l := l) (t := t) (fun j hj => hb (j + 1) (by omega)) (by simpa using ht) he
    simp only [putP]
    rw [if_pos h0, ih]; rfl
theorem zMw {r : Rw} {v : Nat} : ∀ {l : List (Rw × Nat)} {t : Nat}, (∀ j, j < t → rcmp (l.getD j default).1 r < 0) → t ≤ l.length → (t < l.length → ¬ rcmp (l.getD t default).1 r < 0 ∧ (l.getD t default).1 ≠ r) → putP rcmp (· + ·) r v l = l.take t ++ (r, v) :: l.drop t
  | [], t, _, h, _ => by simp [putP]
  | (s, u) :: l, 0, _, _, he => by
    have he : ¬ rcmp s r < 0 ∧ s ≠ r := he (by simp)
    simp only [putP]
    rw [if_neg he.1, if_neg he.2]; rfl
  | (s, u) :: l, t + 1, hb, ht, he => by
    have h0 : rcmp s r < 0 := hb 0 (by omega)
    have ih := zMw (r := r) (v := v) (l := l) (t := t) (fun j hj => hb (j + 1) (by omega)) (by simpa using ht) (fun h => he (by simpa using h))
    simp only [putP]
    rw [if_pos h0, ih]; rfl
def prR (A B : List Nat) (p : Rw × Nat) (l : List (Rw × Nat)) : List (Rw × Nat) := (l.filter fun q => mt A p.1 B q.1).map fun q => (mg A p.1 B q.1, p.2 * q.2)
def zBq (A : List Nat) (la : List (Rw × Nat)) (B : List Nat) (lb : List (Rw × Nat)) (i k : Nat) : List (Rw × Nat) := zBb (· * ·) A (la.take i) B lb ++ prR A B (la.getD i default) (lb.take k)
section
variable {A B : List Nat} {la lb : List (Rw × Nat)}
theorem zZd {i k : Nat} (h : k < lb.length) : zBq A la B lb i (k + 1) = zBq A la B lb i k ++ if mt A (la.getD i default).1 B (lb.getD k default).1 then [(mg A (la.getD i default).1 B (lb.getD k default).1, (la.getD i default).2 * (lb.getD k default).2)] else [] := by
  unfold zBq prR
  rw [List.take_succ_eq_append_getElem h, List.filter_append, List.map_append, List.append_assoc, List.getD_eq_getElem?_getD (l := lb), List.getElem?_eq_getElem h]
  congr 2
  simp only [List.filter_cons, List.filter_nil, Option.getD_some]
  split <;> rfl
theorem zZe {i : Nat} (h : i < la.length) : zBq A la B lb i lb.length = zBq A la B lb (i + 1) 0 := by
  unfold zBq prR
  rw [List.take_length, List.getD_eq_getElem?_getD (l := la) (i := i), List.getElem?_eq_getElem h]
  unfold zBb
  rw [List.take_succ_eq_append_getElem h, List.flatMap_append]
  simp
theorem zZf : zBq A la B lb 0 0 = [] := by simp [zBq, prR, zBb]
theorem zTx : zBq A la B lb la.length 0 = zBb (· * ·) A la B lb := by simp [zBq, prR]
theorem prR_sum (p : Rw × Nat) (l : List (Rw × Nat)) : ((prR A B p l).map (·.2)).sum ≤ p.2 * (l.map (·.2)).sum := by
  have h2 := Nat.mul_le_mul_left p.2 (zFm (fun q : Rw × Nat => q.2) (fun q => mt A p.1 B q.1) l)
  rw [← zMi] at h2
  simpa only [prR, List.map_map, Function.comp_def] using h2
theorem zF0 (l : List (Rw × Nat)) (k : Nat) : ((l.take k).map (·.2)).sum ≤ (l.map (·.2)).sum := by
  conv => rhs; rw [← List.take_append_drop k l]
  rw [List.map_append, List.sum_append]; omega
theorem zTu {i k : Nat} (h : i < la.length) : ((zBq A la B lb i k).map (·.2)).sum ≤ (la.map (·.2)).sum * (lb.map (·.2)).sum := by
  have h1 := zJ9 A B lb (la.take i)
  have h2 := prR_sum (A := A) (B := B) (la.getD i default) (lb.take k)
  have h3 := Nat.mul_le_mul_left (la.getD i default).2 (zF0 lb k)
  have h4 := zF0 la (i + 1)
  rw [List.take_succ_eq_append_getElem h, List.map_append, List.sum_append] at h4
  simp only [List.map_cons, List.map_nil, List.sum_cons, List.sum_nil] at h4
  have h5 := Nat.mul_le_mul_right (lb.map (·.2)).sum h4
  rw [Nat.add_mul] at h5
  rw [List.getD_eq_getElem?_getD, List.getElem?_eq_getElem h, Option.getD_some] at h2 h3
  unfold zBq
  rw [List.map_append, List.sum_append, List.getD_eq_getElem?_getD, List.getElem?_eq_getElem h, Option.getD_some]
  simp only [Nat.add_zero] at h5
  omega
theorem zTw {i k : Nat} (h : i < la.length) : (zBq A la B lb i k).length ≤ la.length * lb.length := by
  have h1 := zKa (· * ·) A B lb (la.take i)
  have h2 : (prR A B (la.getD i default) (lb.take k)).length ≤ lb.length := by
    unfold prR
    rw [List.length_map]
    exact Nat.le_trans (List.length_filter_le _ _) (by simp; omega)
  have h3 : (i + 1) * lb.length ≤ la.length * lb.length := Nat.mul_le_mul_right _ h
  rw [Nat.succ_mul] at h3
  have h4 : (la.take i).length = i := by simp; omega
  rw [h4] at h1
  unfold zBq
  rw [List.length_append]
  omega
theorem zTv {i k : Nat} : ∀ p ∈ zBq A la B lb i k, p.1.length = (un A B).length := fun p hp => by
  unfold zBq at hp
  rcases List.mem_append.1 hp with h | h
  · obtain ⟨x, _, y, _, _, h2, _⟩ := (zGm (s := p.1) (u := p.2)).1 h
    rw [← h2, mg, List.length_map]
  · obtain ⟨y, _, rfl⟩ := List.mem_map.1 h
    simp [mg]
theorem mt_un (hA : Asc A) (x y : Rw) : mt A x B y = (un A B).all fun v => decide (v ∈ A → v ∈ B → asg A x v = asg B y v) := by
  rw [Bool.eq_iff_iff]
  simp only [mt, List.all_eq_true, decide_eq_true_eq]
  constructor
  · intro h v hv ha hb; exact h v ha hb
  · intro h v ha hb; exact h v (zCq.2 ⟨hA.2 v ha, .inl ha⟩) ha hb
end
theorem zTk {α : Type} {c : Rw → Rw → Int} (f : α → α → α) (l L : List (Rw × α)) (p : Rw × α) : acc c f l (L ++ [p]) = putP c f p.1 p.2 (acc c f l L) := by
  simp [acc, List.foldl_append]
theorem zYj {n : Nat} {L : List (Rw × Nat)} (h : ∀ p ∈ L, p.1.length = n) : ∀ p ∈ acc rcmp (· + ·) [] L, p.1.length = n := fun p hp => by
  obtain ⟨q, hq, e⟩ := List.mem_map.1 (zRn rcw hp)
  rw [← e]; exact h q hq
theorem veq (a b : Va) : (a.kind == b.kind && (a.int == b.int && ((bs a.str).toList == (bs b.str).toList))) = decide (a = b) := by
  obtain ⟨ak, ai, as'⟩ := a
  obtain ⟨bk, bi, bs'⟩ := b
  rw [Bool.eq_iff_iff]
  simp [zFa]
def ixI (V : List Int) (v : Int) : Int := if v ∈ V then (V.idxOf v : Nat) else -1
abbrev intL (A : List Nat) : List Int := A.map fun v : Nat => (v : Int)
theorem zW9 (A : List Nat) (v : Nat) : ixI (intL A) v = if v ∈ A then ((A.idxOf v : Nat) : Int) else -1 := by
  have e : (intL A).idxOf (v : Int) = A.idxOf v := by
    induction A with
    | nil => rfl
    | cons a A ih =>
      simp only [intL, List.map_cons, List.idxOf_cons] at ih ⊢
      rw [ih]
      by_cases h : a = v
      · subst h; simp
      · have h1 : (a == v) = false := by simpa using h
        have h2 : ((a : Int) == (v : Int)) = false := by
          rw [beq_eq_false_iff_ne]; omega
        rw [h1, h2]
  unfold ixI
  rw [e]
  have e2 : ((v : Int) ∈ intL A) ↔ v ∈ A := by
    rw [List.mem_map]
    exact ⟨fun ⟨a, h1, h2⟩ => by obtain rfl : a = v := by omega
                                 exact h1, fun h => ⟨v, h, rfl⟩⟩
  by_cases h : v ∈ A
  · rw [if_pos h, if_pos (e2.2 h)]
  · rw [if_neg h, if_neg fun k => h (e2.1 k)]
theorem ixI_yes {V : List Int} {v : Int} {i : Nat} (h : i < V.length) (hi : V.getD i 0 = v) (hb : ∀ j, j < i → V.getD j 0 ≠ v) : ixI V v = (i : Int) := by
  induction V generalizing i with
  | nil => simp at h
  | cons a V ih =>
    cases i with
    | zero =>
      have hi : a = v := hi
      subst hi
      simp [ixI]
    | succ i =>
      have h0 : a ≠ v := hb 0 (by omega)
      have := ih (i := i) (by simpa using h) hi (fun j hj => hb (j + 1) (by omega))
      unfold ixI at this ⊢
      have h1 : (a == v) = false := by simpa using h0
      by_cases hm : v ∈ V
      · rw [if_pos hm] at this
        rw [if_pos (List.mem_cons_of_mem _ hm), List.idxOf_cons, h1]
        simp only [cond_false]
        omega
      · rw [if_neg hm] at this; omega
theorem ixI_no {V : List Int} {v : Int} (hb : ∀ j, j < V.length → V.getD j 0 ≠ v) : ixI V v = -1 := by
  unfold ixI
  rw [if_neg]
  intro hm
  obtain ⟨i, hi, e⟩ := List.mem_iff_getElem.1 hm
  refine hb i hi ?_
  rw [List.getD_eq_getElem?_getD, List.getElem?_eq_getElem hi, Option.getD_some, e]
end
section
open Go.RowKit
theorem zCk (V : List Int) (i : Nat) (h : i < V.length) : ((V.map fun z => iD z).drop i).headD .unk = iD (V.getD i 0) := zC7 (fun z : Int => iD z) V 0 i h
theorem zAt {α : Type} (l : List α) (d : α) (k : Nat) (h : k < l.length) : l.getD k d ∈ l := by rw [List.getD_eq_getElem?_getD, List.getElem?_eq_getElem h]; exact List.getElem_mem h
def zEt (n : Int) (V : List Int) (i : Nat) : Bool := decide (0 ≤ V.getD i 0) && (decide (V.getD i 0 < n) && (decide (i = 0) || decide (V.getD (i - 1) 0 < V.getD i 0)))
def zJc (R : List Rw) (i : Nat) : Bool := decide (i = 0) || decide (rcmp (R.getD (i - 1) []) (R.getD i []) < 0)
def chk (n : Int) (V : List Int) (R : List Rw) (m : Nat) : Int :=
 if (List.range V.length).all (zEt n V) = false then 3 else if R.length ≠ m then 6 else if R.all (fun x => decide (x.length = V.length)) = false then 6 else if R.all (fun x => x.all vok) = false then 4 else if (List.range R.length).all (zJc R) = false then 16 else 0
theorem zWf {p : Nat → Bool} {n i : Nat} (h : i < n) (hp : p i = false) : (List.range n).all p = false := by
 rw [Bool.eq_false_iff]
 intro ha
 rw [List.all_eq_true] at ha
 rw [ha i (by simpa using h)] at hp; cases hp
theorem zF2 {p : Nat → Bool} {n : Nat} (h : ∀ j, j < n → p j = true) : (List.range n).all p = true := by
 rw [List.all_eq_true]; intro j hj; exact h j (by simpa using hj)
theorem zJr {n : Int} {V : List Int} {i : Nat} (h1 : 0 ≤ V.getD i 0) (h2 : V.getD i 0 < n) (h3 : i = 0 ∨ V.getD (i - 1) 0 < V.getD i 0) : zEt n V i = true := by
 simp only [zEt, Bool.and_eq_true, Bool.or_eq_true, decide_eq_true_eq]; exact ⟨h1, h2, h3⟩
theorem chk_v {n : Int} {V : List Int} {R : List Rw} {m i : Nat} (h : i < V.length) (hp : zEt n V i = false) : chk n V R m = 3 := by
 unfold chk; rw [if_pos (zWf h hp)]
theorem chk_l {n : Int} {V : List Int} {R : List Rw} {m : Nat} (hv : (List.range V.length).all (zEt n V) = true) (h : R.length ≠ m) : chk n V R m = 6 := by
 unfold chk; rw [if_neg (by rw [hv]; decide), if_pos h]
theorem chk_a {n : Int} {V : List Int} {R : List Rw} {m i : Nat} (hv : (List.range V.length).all (zEt n V) = true) (hl : R.length = m) (h : i < R.length) (hp : (R.getD i []).length ≠ V.length) : chk n V R m = 6 := by
 unfold chk
 rw [if_neg (by rw [hv]; decide), if_neg (by rw [hl]; exact fun k => k rfl), if_pos]
 rw [Bool.eq_false_iff]
 intro ha
 rw [List.all_eq_true] at ha
 have := ha (R.getD i []) (zAt R [] i h)
 exact hp (by simpa using this)
theorem chk_o {n : Int} {V : List Int} {R : List Rw} {m i : Nat} (hv : (List.range V.length).all (zEt n V) = true) (hl : R.length = m) (ha : R.all (fun x => decide (x.length = V.length)) = true) (h : i < R.length) (hp : (R.getD i []).all vok = false) : chk n V R m = 4 := by
 unfold chk
 rw [if_neg (by rw [hv]; decide), if_neg (by rw [hl]; exact fun k => k rfl), if_neg (by rw [ha]; decide), if_pos]
 rw [Bool.eq_false_iff]
 intro hk
 rw [List.all_eq_true] at hk
 rw [hk (R.getD i []) (zAt R [] i h)] at hp; cases hp
theorem chk_s {n : Int} {V : List Int} {R : List Rw} {m i : Nat} (hv : (List.range V.length).all (zEt n V) = true) (hl : R.length = m) (ha : R.all (fun x => decide (x.length = V.length)) = true) (ho : R.all (fun x => x.all vok) = true) (h : i < R.length) (hp : zJc R i = false) : chk n V R m = 16 := by
 unfold chk
 rw [if_neg (by rw [hv]; decide), if_neg (by rw [hl]; exact fun k => k rfl), if_neg (by rw [ha]; decide), if_neg (by rw [ho]; decide), if_pos (zWf h hp)]
theorem chk_0 {n : Int} {V : List Int} {R : List Rw} {m : Nat} (hv : (List.range V.length).all (zEt n V) = true) (hl : R.length = m) (ha : R.all (fun x => decide (x.length = V.length)) = true) (ho : R.all (fun x => x.all vok) = true) (hs : (List.range R.length).all (zJc R) = true) : chk n V R m = 0 := by
 unfold chk
 rw [if_neg (by rw [hv]; decide), if_neg (by rw [hl]; exact fun k => k rfl), if_neg (by rw [ha]; decide), if_neg (by rw [ho]; decide), if_neg (by rw [hs]; decide)]
theorem zFq {α : Type} {p : α → Bool} {l : List α} {d : α} {i : Nat} (h : l.length ≤ i) (hh : ∀ j, j < i → j < l.length → p (l.getD j d) = true) : l.all p = true := by
 rw [List.all_eq_true]
 intro x hx
 obtain ⟨j, hj, e⟩ := List.mem_iff_getElem.1 hx
 have := hh j (by omega) hj
 rwa [List.getD_eq_getElem?_getD, List.getElem?_eq_getElem hj, Option.getD_some, e] at this
structure Fit (n : Int) (A : List Nat) (R : List Rw) (m : Nat) : Prop where
 asc : A.Pairwise (· < ·)
 lt : ∀ v ∈ A, (v : Int) < n
 m : R.length = m
 len : ∀ r ∈ R, r.length = A.length
 vok : ∀ r ∈ R, r.all vok = true
 srt : R.Pairwise fun p q => rcmp p q < 0
theorem zKd {α : Type} {q : α → α → Prop} (tr : ∀ a b c, q a b → q b c → q a c) {d : α} : ∀ {l : List α}, (∀ i, i + 1 < l.length → q (l.getD i d) (l.getD (i + 1) d)) → l.Pairwise q
 | [], _ => List.Pairwise.nil
 | [a], _ => by simp
 | a :: b :: l, h => by
  have h0 : q a b := h 0 (by simp)
  have ih : (b :: l).Pairwise q := zKd tr (d := d) fun i hi => h (i + 1) (by simpa using hi)
  refine List.pairwise_cons.2 ⟨fun x hx => ?_, ih⟩
  rcases List.mem_cons.1 hx with rfl | hx
  ·exact h0
  ·exact tr _ _ _ h0 ((List.pairwise_cons.1 ih).1 x hx)
theorem zF6 {n : Int} {V : List Int} {R : List Rw} {m : Nat} (h : chk n V R m = 0) : ∃ A : List Nat, V = A.map (fun v : Nat => (v : Int)) ∧ Fit n A R m := by
 unfold chk at h
 split at h
 ·cases h
 rename_i h1
 split at h
 ·cases h
 rename_i h2
 split at h
 ·cases h
 rename_i h3
 split at h
 ·cases h
 rename_i h4
 split at h
 ·cases h
 rename_i h5
 simp only [Bool.not_eq_false, List.all_eq_true, List.mem_range, decide_eq_true_eq] at h1 h3 h4 h5
 have hs : ∀ i, i < V.length → 0 ≤ V.getD i 0 ∧ V.getD i 0 < n ∧ (i = 0 ∨ V.getD (i - 1) 0 < V.getD i 0) := fun i hi => by
  have := h1 i hi
  simpa only [zEt, Bool.and_eq_true, Bool.or_eq_true, decide_eq_true_eq] using this
 have hV : V = (V.map Int.toNat).map (fun v : Nat => (v : Int)) := by
  apply List.ext_getElem (by simp)
  intro i g1 g2
  have := (hs i g1).1
  rw [List.getD_eq_getElem?_getD, List.getElem?_eq_getElem g1, Option.getD_some] at this
  simp only [List.getElem_map]; omega
 have hget : ∀ i, i < V.length → (V.getD i 0) = ((V.map Int.toNat).getD i 0 : Nat) := fun i hi => by
  have := (hs i hi).1
  simp only [List.getD_eq_getElem?_getD, List.getElem?_map, List.getElem?_eq_getElem hi, Option.map_some, Option.getD_some] at this ⊢
  omega
 refine ⟨V.map Int.toNat, hV, ?_, fun v hv => ?_, by simpa using h2, fun r hr => by simpa using h3 r hr, fun r hr => by simpa [List.all_eq_true] using h4 r hr, ?_⟩
 ·refine zKd (q := fun a b : Nat => a < b) (d := 0) (fun a b c h k => Nat.lt_trans h k) fun i hi => ?_
  simp only [List.length_map] at hi
  have k1 := (hs (i + 1) hi).2.2
  have k2 := hget i (by omega)
  have k3 := hget (i + 1) hi
  simp only [Nat.add_sub_cancel] at k1
  omega
 ·obtain ⟨u, hu, rfl⟩ := List.mem_map.1 hv
  obtain ⟨i, hi, rfl⟩ := List.mem_iff_getElem.1 hu
  have := (hs i hi)
  rw [List.getD_eq_getElem?_getD, List.getElem?_eq_getElem hi, Option.getD_some] at this
  omega
 ·refine zKd (d := []) zQx fun i hi => ?_
  have := h5 (i + 1) hi
  simpa [zJc] using this
end
section
open Go.RowKit
attribute [local irreducible] seqW awp zAf zAo zAg Weak updS zAw retL Pure Acts rP setP setQ cP nP fr
set_option maxRecDepth 4096
theorem bl_iff : ∀ a b : List UInt8, Op.bytesLess a b = decide (Lib.compareBytes a b = -1)
  | [], [] => rfl
  | [], _ :: _ => by simp [Op.bytesLess, Lib.compareBytes]
  | _ :: _, [] => by simp [Op.bytesLess, Lib.compareBytes]
  | x :: a, y :: b => by
    have ih := bl_iff a b
    unfold Op.bytesLess Lib.compareBytes
    by_cases h1 : x < y
    · simp [h1]
    · by_cases h2 : y < x
      · have : ¬ x = y := fun e => h1 (e ▸ h2)
        simp [h1, h2, this]
      · have e : x = y := UInt8.le_antisymm (UInt8.not_lt.1 h2) (UInt8.not_lt.1 h1)
        simp [h1, h2, e, ih]
def Tl : Par := ⟨fun _ => false, fun _ _ => none, fun _ => false, fun _ => false, fun _ => false⟩
theorem zBo : zBi Tryd.prog Tl := by intro t n f h; cases h
theorem rcv_c (a b : Va) : Pure Tryd.prog 61 [vaD a, vaD b] [] (iD (vcmp a b)) := by
  refine zL zBo mixed Tryd.func61 rfl ?_
  focus
    refine zB (zA rfl (v0s (veT (zB (zB (zA rfl (vr 3 (3 ≤ 3 ∧ 3 ≤ 3 ∧ True) (vs 7 (bD (Va.kind a == Va.kind b && (Va.int a == Va.int b && (ByteArray.toList (bs (Va.str a)) == ByteArray.toList (bs (Va.str b)) && true)))) (bD (Va.kind a == Va.kind b && (Va.int a == Va.int b && Va.str a == Va.str b))) (by simp (disch := omega) only [zFa, Bool.and_true]) (veT ?_)))))))))
    refine zR (t := Va.kind a == Va.kind b && (Va.int a == Va.int b && Va.str a == Va.str b)) (by kernel_rfl) (fun hc => ?_) (fun hc => ?_)
    simp only [decide_eq_true_eq, decide_eq_false_iff_not, beq_iff_eq, bne_iff_ne, beq_eq_false_iff_ne, Bool.and_eq_true, Bool.or_eq_true, Bool.not_eq_true', Bool.not_eq_false', ne_eq, Decidable.not_not, Int.not_lt, Int.not_le, ge_iff_le, gt_iff_lt, bne_eq_false_iff_eq] at hc
    refine zB (zA rfl (veT (zM (zJ ?_))))
    refine vre (True) (q2_) (.inr rfl) ?_
    rotate_left
    refine zG (zC (zD (zB (zB (zA rfl (vr 6 (True ∧ 0 < 3 ∧ True ∧ 0 < 3) ?_))))))
    refine vsp 13 (decide (Va.kind a < Va.kind b)) (fun hc => ?_) (fun hc => ?_)
    simp only [decide_eq_true_eq] at hc
    refine veT (vt (zB (zA rfl (veT (zM (zJ ?_))))))
    refine vre (True) (q0_) (.inr rfl) ?_
    rotate_left
    simp only [decide_eq_false_iff_not] at hc
    refine vr 6 (True ∧ 0 < 3 ∧ True ∧ 0 < 3 ∧ True) ?_
    refine vsp 19 (Va.kind a == Va.kind b) (fun hc => ?_) (fun hc => ?_)
    simp only [beq_iff_eq] at hc
    refine vr 6 (True ∧ 0 < 2 ∧ True ∧ 0 < 2) ?_
    refine vsp 25 (decide (Va.int a < Va.int b)) (fun hc => ?_) (fun hc => ?_)
    simp only [decide_eq_true_eq] at hc
    refine veT (vt (zB (zA rfl (veT (zM (zJ ?_))))))
    refine vre (True) (q0_) (.inr rfl) ?_
    rotate_left
    simp only [decide_eq_false_iff_not] at hc
    refine vr 6 (True ∧ 0 < 2 ∧ True ∧ 0 < 2 ∧ True) ?_
    refine vsp 31 (Va.int a == Va.int b) (fun hc => ?_) (fun hc => ?_)
    simp only [beq_iff_eq] at hc
    refine vr 5 (True ∧ 0 < 1 ∧ True ∧ 0 < 1) (vs 36 (bD (Op.bytesLess (ByteArray.toList (bs (Va.str a))) (ByteArray.toList (bs (Va.str b))))) (bD (decide (Lib.compareBytes (Va.str a) (Va.str b) = (-1 : Int)))) (by simp (disch := omega) only [zFa, bl_iff, Int.reduceNeg]) (veT ?_))
    refine zR (t := decide (Lib.compareBytes (Va.str a) (Va.str b) = (-1 : Int))) (by kernel_rfl) (fun hc => ?_) (fun hc => ?_)
    simp only [decide_eq_true_eq] at hc
    refine zB (zA rfl (veT (zM (zJ ?_))))
    refine vre (True) (q0_) (.inr rfl) ?_
    rotate_left
    simp only [decide_eq_false_iff_not] at hc
    refine zG (zC (zD (zB (zA rfl (veT (zM ?_))))))
    refine vre (True) (q1_) (.inr rfl) ?_
    rotate_left
    simp only [beq_eq_false_iff_ne] at hc
    refine veT (vf (zG (zC (zD (zB (zA rfl (veT (zM ?_))))))))
    refine vre (True) (q1_) (.inr rfl) ?_
    rotate_left
    simp only [beq_eq_false_iff_ne] at hc
    refine veT (vf (zG (zC (zD (zB (zA rfl (veT (zM ?_))))))))
    refine vre (True) (q1_) (.inr rfl) ?_
    rotate_left
  all_goals
    have e1 := (zF7 a.str b.str).1
    have e2 := (zF7 a.str b.str).2.1
    have e3 := zA3 a.kind b.kind
    have e4 := zA3 a.int b.int
    refine congrArg (fun z => iD z) ?_
    unfold vcmp
    split
    · omega
    · first
      | omega
      | (split
         · omega
         · by_cases hs : a.str = b.str
           · have := e2.2 hs
             first
               | omega
               | (exfalso; simp_all)
           · have : Lib.compareBytes a.str b.str ≠ 0 := fun h => hs (e2.1 h)
             first
               | omega
               | (exfalso; simp_all))
set_option maxHeartbeats 2000000 in
theorem zJ3 (a b : Rw) (n m : Nat) (hn : a.length = n) (hm : b.length = m) (ln : n ≤ 1000000000) (lm : m ≤ 1000000000) : Pure Tryd.prog 42 [.row (zK a) n, .row (zK b) m] [] (bD (decide (rcmp a b < 0))) := by
  subst hn hm
  refine zL zBo mixed Tryd.func42 rfl ?_
  focus
    refine zB (zA rfl (v0s (veT (zB (zB (zA rfl (veT (zF ?_))))))))
    rotate_left
  refine zW (fun (i : Nat) => fr 37 [(0, (q3_ a)), (1, (q3_ b)), (5, iD ↑i)]) (fun _ => []) (fun i => a.length - i) (fun i => i ≤ a.length ∧ i ≤ b.length ∧ a.take i = b.take i) 0 ?_ ?_ ?_
  · exact ⟨by omega, by omega, by simp⟩
  · refine vk 0
  rintro i ⟨h1, h2, h3⟩
  have hv := (zCh (a.getD i default) (b.getD i default)).1
  focus
    refine zB (zB (zA rfl (v0s (vrT 5 ?_))))
    refine vsp 11 (decide ((↑i : Int) < ↑(List.length a))) (fun hc => ?_) (fun hc => ?_)
    simp only [decide_eq_true_eq] at hc
    refine veT ?_
    refine zR (t := decide ((↑i : Int) < ↑(List.length b))) (by kernel_rfl) (fun hc => ?_) (fun hc => ?_)
    simp only [decide_eq_true_eq] at hc
    refine zG (zC (zD (zB (zF (zB (vd [0, 1, 2, 4, 5, 6, 3, 7, 8, 9] (vr 7 (ix ↑i ↑(List.length a) (zK a ≠ []) ∧ ix ↑i ↑(List.length b) (zK b ≠ []) ∧ 3 ≤ List.length (List.drop (i * 3) (zK a))) (vs 22 (D.agg (List.take 3 (List.drop (i * 3) (zK a)))) (D.agg (vaC (List.getD a i default))) (by simp (disch := omega) only [zA9]) (vr 1 (3 ≤ List.length (List.drop (i * 3) (zK b))) (vs 26 (D.agg (List.take 3 (List.drop (i * 3) (zK b)))) (D.agg (vaC (List.getD b i default))) (by simp (disch := omega) only [zA9]) (vca [D.agg [iD (Va.kind (List.getD a i default)), iD (Va.int (List.getD a i default)), D.val (Value.string (bs (Va.str (List.getD a i default))))], D.agg [iD (Va.kind (List.getD b i default)), iD (Va.int (List.getD b i default)), D.val (Value.string (bs (Va.str (List.getD b i default))))]] (by exact rcv_c _ _) (veT (zB ?_)))) (by exact zB2 _ _ (by omega)))) ⟨⟨(by omega), ⟨(by omega), (by exact zDd _ (by omega))⟩⟩, ⟨(by omega), ⟨(by omega), (by exact zDd _ (by omega))⟩⟩, (by exact zB2 _ _ (by omega))⟩)))))))
    refine zA rfl (veT ?_)
    refine zR (t := vcmp (List.getD a i default) (List.getD b i default) != (0 : Int)) (by kernel_rfl) (fun hc => ?_) (fun hc => ?_)
    simp only [bne_iff_ne] at hc
    refine zB (zA rfl (veT (zM (zN (zJ (zJ (zN (zJ ?_))))))))
    refine vre (True) (D.val (Value.bool (decide (vcmp (List.getD a i default) (List.getD b i default) < 0)))) (.inr rfl) ?_
    rotate_left
    simp only [bne_eq_false_iff_eq] at hc
    refine zG (zE (zC (zD (zA rfl (vr 3 (i6 (↑i + 1)) (vnil (zC ?_)))))))
    rotate_left
    simp only [decide_eq_false_iff_not] at hc
    refine zQ (zH (zH (zP rfl (zC (zD (zB (zA rfl (veT (zM ?_)))))))))
    refine vre (True) (D.val (Value.bool (decide ((↑(List.length a) : Int) < (↑(List.length b) : Int))))) (.inr rfl) ?_
    rotate_left
    simp only [decide_eq_false_iff_not] at hc
    refine veT (vf (zQ (zH (zH (zP rfl (zC (zD (zB (zA rfl (veT (zM ?_)))))))))))
    refine vre (True) (D.val (Value.bool (decide ((↑(List.length a) : Int) < (↑(List.length b) : Int))))) (.inr rfl) ?_
    rotate_left
  · rw [rcmp_at i a b (by omega) (by omega) h3 hc]
  · refine ⟨i + 1, ⟨by omega, by omega, zHx i a b (by omega) (by omega) h3 hc⟩, by omega, ?_⟩
    refine vk 0
  all_goals
    rw [← zJ7 a b, zSa a b i [] (by omega) (by omega) h3 (by omega)]
    refine congrArg bD ?_
    rw [Bool.eq_iff_iff, decide_eq_true_eq, decide_eq_true_eq]
    split
    · omega
    · split <;> omega
theorem zWd (a : Rw) (n : Nat) (hn : a.length = n) (ln : n ≤ 1000000000) : Pure Tryd.prog 37 [.row (zK a) n, .row (zK a) n] [] (bD true) := by
  have h := zJ3 a a n n hn hn ln ln
  have e : decide (rcmp a a < 0) = false := by simp [(zEy a a).2.1.2 rfl]
  rw [e] at h
  refine zL zBo mixed Tryd.func37 rfl ?_
  refine zB (zA rfl (v0s (veT (zB (zA rfl (vrT 2 (vc h (vrT 4 (vc h (veT (zM (vret (True) (.inr rfl)))))))))))))
theorem zY7 (a b : Rw) (n m : Nat) (hn : a.length = n) (hm : b.length = m) (ln : n ≤ 1000000000) (lm : m ≤ 1000000000) : Pure Tryd.prog 37 [.row (zK a) n, .row (zK b) m] [] (bD (decide (a = b))) := by
  have h := zJ3 a b n m hn hm ln lm
  have h2 := zJ3 b a m n hm hn lm ln
  have e := (zEy a b).2
  have e2 := e.2
  refine zL zBo mixed Tryd.func37 rfl ?_
  focus
    refine zB (zA rfl (v0s (veT (zB (zA rfl (vrT 2 (vc h (vrT 2 ?_))))))))
    refine vsp 9 (!decide (rcmp a b < 0)) (fun hc => ?_) (fun hc => ?_)
    simp only [Bool.not_eq_true'] at hc
    refine vrT 2 (vc h2 (veT (zM ?_)))
    refine vre (True) (D.val (Value.bool !decide (rcmp b a < 0))) (.inr rfl) ?_
    rotate_left
    simp only [Bool.not_eq_false'] at hc
    refine veT (zM ?_)
    refine vre (True) (D.val (Value.bool false)) (.inr rfl) ?_
    rotate_left
  all_goals
    refine congrArg bD ?_
    rw [Bool.eq_iff_iff]
    simp only [Bool.not_eq_true', decide_eq_false_iff_not, decide_eq_true_eq, Bool.false_eq_true, false_iff]
  · rw [← e.1]; simp at hc; omega
  · rw [← e.1]; simp at hc; omega
theorem zMo (V : List Int) (n : Nat) (v : Int) (hn : V.length = n) (ln : n ≤ 1000000000) : Pure Tryd.prog 44 [.row (V.map iD) n, iD v] [] (iD (ixI V v)) := by
  subst hn
  refine zL zBo mixed Tryd.func44 rfl ?_
  focus
    refine zB (zA rfl (v0s (veT (zB (zB (zA rfl (veT (zF ?_))))))))
    rotate_left
  refine zW (fun (i : Nat) => fr 19 [(0, D.row (List.map iD V) (List.length V)), (1, iD v), (5, iD ↑i)]) (fun _ => []) (fun i => V.length - i) (fun i => i ≤ V.length ∧ ∀ j, j < i → V.getD j 0 ≠ v) 0 ?_ ?_ ?_
  · exact ⟨by omega, fun j h => by omega⟩
  · refine vk 0
  rintro i ⟨h1, h2⟩
  rcases Nat.lt_or_ge i V.length with h3 | h3
  · have hne : V.map iD ≠ [] := zY (by omega)
    have hx := zCk V i h3
    focus
      refine zB (zB (zA rfl (v0s (veT (vT ((↑i : Int) < ↑(List.length V)) (zG (zC (zD (zB (zF (zB (zA rfl (vr 3 (ix ↑i ↑(List.length V) (List.map iD V ≠ [])) ?_)))))))))))))
      refine vp 14 i (List.map iD V) (vr 1 (0 < List.length (List.drop i (List.map iD V))) (vsh 15 hx (veT ?_)))
      refine zR (t := List.getD V i (0 : Int) == v) (by kernel_rfl) (fun hc => ?_) (fun hc => ?_)
      simp only [beq_iff_eq] at hc
      refine zB (zA rfl (veT (zM (zN (zJ (zJ (zN (zJ ?_))))))))
      refine vre (True) (D.val (Value.int IntKind.i64 (↑i : Int))) (.inr rfl) ?_
      rotate_left
      simp only [beq_eq_false_iff_ne] at hc
      refine zG (zE (zC (zD (zA rfl (vr 3 (i6 (↑i + 1)) (vnil (zC ?_)))))))
      rotate_left
    · rw [ixI_yes h3 hc h2]
    · refine ⟨i + 1, ⟨by omega, fun j hj => ?_⟩, by omega, ?_⟩
      · rcases Nat.lt_or_ge j i with h | h
        · exact h2 j h
        · obtain rfl : j = i := by omega
          exact hc
      · refine vk 0
  · focus
      refine zB (zB (zA rfl (v0s (veT (vF ((↑i : Int) < ↑(List.length V)) (zQ (zH (zH (zP rfl (zC (zD (zB (zA rfl ?_)))))))))))))
      refine veT (zM ?_)
      refine vre (True) (q0_) (.inr rfl) ?_
      rotate_left
    rw [ixI_no fun j hj => h2 j (by omega)]
end
section
open Go.RowKit
attribute [local irreducible] seqW awp zAf zAo zAg Weak updS zAw retL Pure Acts rP setP setQ cP nP fr
set_option maxRecDepth 4096
abbrev isD (l : List (Rw × Nat)) : List D := nsD (l.map (·.2))
abbrev rfC (A : List Nat) (l : List (Rw × Nat)) : List D := [.row (nsD A) A.length, .row (rwsD l) l.length, .row (isD l) l.length]
abbrev rfD (A : List Nat) (l : List (Rw × Nat)) : D := .agg (rfC A l)
abbrev rB (a b c : D) : Bk := ⟨[a, b, c], 46, 0, false, false, .plain⟩
theorem zXg (l : List (Rw × Nat)) {k : Nat} (h : k < l.length) : (l.map (·.1)).getD k [] = (l.getD k default).1 := by simp [List.getD_eq_getElem?_getD, h]
theorem zPx (l : List (Rw × Nat)) {k : Nat} (h : k < l.length) : (l.map (·.2)).getD k 0 = (l.getD k default).2 := by simp [List.getD_eq_getElem?_getD, h]
theorem zFj (l : List (Rw × Nat)) {k : Nat} (h : k < l.length) : ((rwsD l).drop k).headD .unk = rowV (l.getD k default).1 := by
 rw [← zXg l h]; exact zAh (l.map (·.1)) k (by simpa using h)
theorem zGw (l : List (Rw × Nat)) {k : Nat} (h : k < l.length) : ((isD l).drop k).headD .unk = iD ((l.getD k default).2 : Nat) := by
 rw [← zPx l h]; exact zAi (l.map (·.2)) k (by simpa using h)
theorem zLm {l : List (Rw × Nat)} {p : Rw × Nat} (h : p ∈ l) : p.2 ≤ (l.map (·.2)).sum := by
 induction l with
 | nil => simp at h
 | cons a l ih =>
  rw [List.map_cons, List.sum_cons]
  rcases List.mem_cons.1 h with rfl | h
  ·omega
  ·have := ih h; omega
theorem rf_set (A : List Nat) (l : List (Rw × Nat)) (r : Rw) (v i : Nat) (h : i < l.length) (he : (l.getD i default).1 = r) :
  D.agg [.row (nsD A) A.length, .row (rwsD l) l.length, .row (((isD l).set i (.val (.int .i64 (((l.getD i default).2 : Int) + (v : Int))))).take l.length) l.length] = rfD A (l.set i (r, (l.getD i default).2 + v)) := by
 have e1 : (l.set i (r, (l.getD i default).2 + v)).map (·.1) = l.map (·.1) := by
  rw [List.map_set]
  apply List.ext_getElem (by simp)
  intro k h1 h2
  rw [List.getElem_set]
  split
  ·rename_i e
   subst e
   rw [← he, List.getD_eq_getElem?_getD, List.getElem?_eq_getElem h]; simp
  ·rfl
 have e2 : isD (l.set i (r, (l.getD i default).2 + v)) = (isD l).set i (iD (((l.getD i default).2 : Nat) + (v : Nat) : Int)) := by
  rw [isD, nsD, List.map_set, List.map_set]
  rfl
 show _ = D.agg [_, .row (((l.set i (r, (l.getD i default).2 + v)).map (·.1)).map rowV) _, .row (isD (l.set i (r, (l.getD i default).2 + v))) _]
 rw [e1, e2, List.length_set, List.take_of_length_le (by simp)]
theorem rf_ins (A : List Nat) (l : List (Rw × Nat)) (r : Rw) (v i : Nat) (h : i ≤ l.length) :
  D.agg [.row (nsD A) A.length, .row (((rwsD l).take i ++ [rowV r] ++ ((rwsD l).drop i).take (l.length - i)).take (i + 1 + (l.length - i))) (i + 1 + (l.length - i)), D.row (((isD l).take i ++ [D.val (.int .i64 (v : Int))] ++ ((isD l).drop i).take (l.length - i)).take (i + 1 + (l.length - i))) (i + 1 + (l.length - i))] = rfD A (l.take i ++ (r, v) :: l.drop i) := by
 have hlen : (l.take i ++ (r, v) :: l.drop i).length = i + 1 + (l.length - i) := by simp; omega
 show _ = D.agg [_, .row (rwsD (l.take i ++ (r, v) :: l.drop i)) _, .row (isD (l.take i ++ (r, v) :: l.drop i)) _]
 have hlr : (rwsD l).length = l.length := by simp
 have hli : (isD l).length = l.length := by simp
 have e1 : rwsD (l.take i ++ (r, v) :: l.drop i) = (rwsD l).take i ++ [rowV r] ++ (rwsD l).drop i := by simp
 have e2 : isD (l.take i ++ (r, v) :: l.drop i) = (isD l).take i ++ [D.val (.int .i64 (v : Int))] ++ (isD l).drop i := by simp
 have t1 : (rwsD l).drop i = ((rwsD l).drop i).take (l.length - i) := (List.take_of_length_le (by rw [List.length_drop, hlr]; exact Nat.le_refl _)).symm
 have t2 : (isD l).drop i = ((isD l).drop i).take (l.length - i) := (List.take_of_length_le (by rw [List.length_drop, hli]; exact Nat.le_refl _)).symm
 rw [hlen, e1, e2, ← t1, ← t2, List.take_of_length_le (l := (rwsD l).take i ++ [rowV r] ++ (rwsD l).drop i), List.take_of_length_le (l := (isD l).take i ++ [D.val (.int .i64 (v : Int))] ++ (isD l).drop i)]
 ·rw [List.length_append, List.length_append, List.length_take, List.length_drop, hli]; simp; omega
 ·rw [List.length_append, List.length_append, List.length_take, List.length_drop, hlr]; simp; omega
abbrev q9_ (x0 : List (List Va × Nat)) := D.row (isD x0) (List.length x0)
set_option maxHeartbeats 4000000 in
theorem rput_c (A : List Nat) (l : List (Rw × Nat)) (r : Rw) (v : Nat) (hl : l.length ≤ 1000000) (hr : ∀ p ∈ l, p.1.length ≤ 1000000000) (hrr : r.length ≤ 1000000000) (hs : (l.map (·.2)).sum + v ≤ 9223372036854775807) :
  Pure Tryd.prog 45 [rfD A l, rowV r, iD (v : Nat)] [] (rfD A (putP rcmp (· + ·) r v l)) := by
 refine zL zBo mixed Tryd.func45 rfl ?_
 focus
  refine zB (zA rfl (v0s (veT (zB (zA rfl (veT (zB (zF ?_))))))))
  rotate_left
 refine zW (fun (i : Nat) => fr 93 [(1, rowV r), (2, iD ↑v), (3, D.own 0 0), (6, D.own 1 0), (7, iD ↑i)]) (fun (i : Nat) => [rB (.row (nsD A) A.length) (.row (rwsD l) l.length) (.row (isD l) l.length), rB nl nl nl]) (fun i => l.length - i) (fun (i : Nat) => i ≤ l.length ∧ ∀ j, j < i → rcmp (l.getD j default).1 r < 0) 0 ?_ ?_ ?_
 ·exact ⟨by omega, fun j h => by omega⟩
 ·refine vk 2
 rintro i ⟨h1, h2⟩
 rcases Nat.lt_or_ge i l.length with h3 | h3
 ·have hne : rwsD l ≠ [] := zY (by simp; omega)
  have hne2 : isD l ≠ [] := zY (by simp; omega)
  have hx := zFj l h3
  have hx2 := zGw l h3
  have hm : l.getD i default ∈ l := zAt l default i h3
  have hb := hr _ hm
  have hsm := zLm hm
  have hle := zJ3 (l.getD i default).1 r _ _ rfl rfl hb hrr
  have hsa := zY7 (l.getD i default).1 r _ _ rfl rfl hb hrr
  have hset := fun he => zSd (v := v) h2 h3 he
  have hins := fun he => zMw (v := v) h2 h1 he
  by_cases hc1 : rcmp (l.getD i default).1 r < 0
  ·rw [decide_eq_true hc1] at hle
   focus
    refine zB (zB (zA rfl (v0s (vw 10 [] [(5, true)] (True ∧ 0 < 2 ∧ decide ((↑i : Int) < ↑(List.length l)) = true ∧ True ∧ 0 < 2 ∧ ix ↑i ↑(List.length l) (rwsD l ≠ [])) (vp 20 i (rwsD l) (vr 1 (0 < List.length (List.drop i (rwsD l))) (vsh 21 hx (vrT 1 (vc hle (veT (vt (zG (zC ?_)))))))))))))
    refine zD (zF (zA rfl (vr 3 (i6 (↑i + 1)) (vnil (zE (zC ?_))))))
    rotate_left
   refine ⟨i + 1, ⟨by omega, fun j hj => ?_⟩, by omega, ?_⟩
   ·rcases Nat.lt_or_ge j i with h | h
    ·exact h2 j h
    ·obtain rfl : j = i := by omega
     exact hc1
   ·refine vk 2
  ·rw [decide_eq_false hc1] at hle
   by_cases hc2 : (l.getD i default).1 = r
   ·rw [decide_eq_true hc2] at hsa
    rw [hset hc2]
    focus
     refine zB (zB (zA rfl (v0s (vw 10 [] [(5, true)] (True ∧ 0 < 2 ∧ decide ((↑i : Int) < ↑(List.length l)) = true ∧ True ∧ 0 < 2 ∧ ix ↑i ↑(List.length l) (rwsD l ≠ [])) (vp 20 i (rwsD l) (vr 1 (0 < List.length (List.drop i (rwsD l))) (vsh 21 hx (vrT 1 (vc hle (veT (vf (zQ (zH ?_)))))))))))))
     refine zH (zP rfl (zC (zD (zB (zB (zA rfl (vw 10 [] [(5, true)] (True ∧ 0 < 2 ∧ decide ((↑i : Int) < ↑(List.length l)) = true ∧ True ∧ 0 < 2 ∧ ix ↑i ↑(List.length l) (rwsD l ≠ [])) (vp 36 i (rwsD l) (vr 1 (0 < List.length (List.drop i (rwsD l))) (vsh 37 hx (vrT 1 (vc hsa (veT ?_)))))))))))))
     refine vt (zB (zA rfl (vr 5 ((True ∧ 0 < 1 ∧ 1 = 1 ∧ 0 ≤ 16777216 ∧ 0 ≤ 9223372036854775807) ∧ True ∧ 0 < 1 ∧ true = true ∧ 0 = 0 ∧ 0 = 0 ∧ 3 = 3 ∧ 1 = 1 ∧ List.length (isD l) = List.length l * 1 ∧ 0 < 1 ∧ 0 < 8 ∧ 3 = 3 ∧ (0 + List.length l) * 8 ≤ 140737488355328 ∧ 1 = 1 ∧ false = false ∧ (false = false ∨ false = true)) (vs 8 (D.osl 2 0 (0 + List.length l) ((0 + List.length l) * 1) true) (D.osl 2 0 (List.length l) (List.length l) true) (by simp (disch := omega) only [Nat.zero_add, Nat.mul_one]) (veT (zB (zA rfl (vr 5 ((0 : Int) ≤ (↑i : Int) ∧ (↑i : Int) < ↑(List.length l)) (vo 49 2 i (vr 1 (0 < List.length (List.drop i (isD l))) (vsh 50 hx2 (vr 3 (i6 ((↑(Prod.snd (List.getD l i default)) : Int) + (↑v : Int)) ∧ (0 : Int) ≤ (↑i : Int) ∧ (↑i : Int) < ↑(List.length l)) (vo 53 2 i ?_)))))))))))))
     refine ve (Bk.fz (Bk.mk (isD l) 3 1 true false Kd.plain) = false ∧ true = true ∧ 1 = 1 ∧ i + 1 ≤ List.length (isD l) ∧ ¬2 ∈ []) (zB (zA rfl (ve (True ∧ 0 < 3 ∧ True ∧ 0 < 2 ∧ ((1 = 1 ∧ 1 ≤ 3 ∧ 1 = 1 ∧ 2 ≤ 3 ∧ 1 = 1 ∧ 3 ≤ 3 ∧ True) ∧ true = true) ∧ false = false ∧ true = true ∧ 3 = 3 ∧ 3 ≤ 3) (zM (zJ ?_)))))
     refine zBm (3 ≤ 3) (D.agg [D.row (nsD A) (List.length A), D.row (rwsD l) (List.length l), D.row (List.take (List.length l) (List.drop 0 (List.set (isD l) i (iD ((↑(Prod.snd (List.getD l i default)) : Int) + (↑v : Int)))))) (List.length l)]) (D.agg [D.row (nsD A) (List.length A), D.row (rwsD l) (List.length l), D.row (List.take (List.length l) (List.set (isD l) i (D.val (Value.int IntKind.i64 ((↑(Prod.snd (List.getD l i default)) : Int) + (↑v : Int)))))) (List.length l)]) (.inr rfl) (by kernel_rfl) (by omega) (by simp (disch := omega) only [List.drop_zero]) ?_
     rotate_left
    exact rf_set A l r v i h3 hc2
   ·rw [decide_eq_false hc2] at hsa
    rw [hins fun _ => ⟨hc1, hc2⟩]
    focus
     refine zB (zB (zA rfl (v0s (vw 10 [] [(5, true)] (True ∧ 0 < 2 ∧ decide ((↑i : Int) < ↑(List.length l)) = true ∧ True ∧ 0 < 2 ∧ ix ↑i ↑(List.length l) (rwsD l ≠ [])) (vp 20 i (rwsD l) (vr 1 (0 < List.length (List.drop i (rwsD l))) (vsh 21 hx (vrT 1 (vc hle (veT (vf (zQ (zH ?_)))))))))))))
     refine zH (zP rfl (zC (zD (zB (zB (zA rfl (vw 10 [] [(5, true)] (True ∧ 0 < 2 ∧ decide ((↑i : Int) < ↑(List.length l)) = true ∧ True ∧ 0 < 2 ∧ ix ↑i ↑(List.length l) (rwsD l ≠ [])) (vp 36 i (rwsD l) (vr 1 (0 < List.length (List.drop i (rwsD l))) (vsh 37 hx (vrT 1 (vc hsa (veT ?_)))))))))))))
     refine vf (zG (zC (zD (zB (zA rfl (vr 5 ((True ∧ 0 < 1 ∧ 1 = 1 ∧ 0 ≤ 16777216 ∧ 0 ≤ 9223372036854775807) ∧ True ∧ 0 < 2 ∧ True ∧ (0 : Int) ≤ (↑i : Int) ∧ True ∧ 0 < 1 ∧ 0 ≤ Int.toNat (↑i : Int) ∧ Int.toNat (↑i : Int) ≤ List.length l ∧ Int.toNat (↑i : Int) = Int.toNat (↑i : Int)) (vs 64 (D.row (List.take ((Int.toNat (↑i : Int) - 0) * 1) (List.drop 0 (rwsD l))) (Int.toNat (↑i : Int) - 0)) (D.row (List.take i (rwsD l)) i) (by simp (disch := omega) only [Int.toNat_natCast, Nat.sub_zero, Nat.mul_one, List.drop_zero]) (vr 5 ((true = true ∧ 0 = 0 ∧ 0 = 0 ∧ 72 = 72 ∧ 1 = 1 ∧ List.length (List.take i (rwsD l)) = i * 1 ∧ 0 < 1 ∧ 0 < 24 ∧ 72 = 72 ∧ (0 + i) * 24 ≤ 140737488355328 ∧ 1 = 1 ∧ false = false ∧ (false = false ∨ false = true)) ∧ ((1 = 1 ∧ 1 ≤ 1 ∧ True) ∧ 0 < 1 ∧ 1 = 1 ∧ 1 ≤ 16777216 ∧ 1 ≤ 9223372036854775807) ∧ Bk.arr (Bk.mk (List.take i (rwsD l)) 72 1 true false Kd.plain) = true ∧ List.length (List.take i (rwsD l)) = (0 + i) * 1 ∧ (0 + i) * 1 = (0 + i) * 1 ∧ Bk.ty (Bk.mk (List.take i (rwsD l)) 72 1 true false Kd.plain) = 72 ∧ Bk.sz (Bk.mk (List.take i (rwsD l)) 72 1 true false Kd.plain) = 1 ∧ 1 = 1 ∧ 0 < 1 ∧ 0 < 24 ∧ 72 = 72 ∧ (0 + i + 1) * 24 ≤ 140737488355328 ∧ 1 = 1 ∧ Kd.isMap (Bk.kd (Bk.mk (List.take i (rwsD l)) 72 1 true false Kd.plain)) = false ∧ (false = false ∨ Kd.isSh (Bk.kd (Bk.mk (List.take i (rwsD l)) 72 1 true false Kd.plain)) = true)) (vs 9 (D.osl 2 0 (0 + i + 1) ((0 + i + 1) * 1) true) (D.osl 2 0 (i + 1) (i + 1) true) (by simp (disch := omega) only [Nat.zero_add, Nat.mul_one]) (veT (zB (zA rfl (vr 5 ((True ∧ 0 < 1 ∧ 1 = 1 ∧ 0 ≤ 16777216 ∧ 0 ≤ 9223372036854775807) ∧ True ∧ 0 < 1 ∧ True ∧ (0 : Int) ≤ (↑i : Int) ∧ True ∧ 0 < 1 ∧ 0 ≤ Int.toNat (↑i : Int) ∧ Int.toNat (↑i : Int) ≤ List.length l ∧ Int.toNat (↑i : Int) = Int.toNat (↑i : Int)) ?_)))))))))))))
     refine vs 73 (D.row (List.take ((Int.toNat (↑i : Int) - 0) * 1) (List.drop 0 (isD l))) (Int.toNat (↑i : Int) - 0)) (D.row (List.take i (isD l)) i) (by simp (disch := omega) only [Int.toNat_natCast, Nat.sub_zero, Nat.mul_one, List.drop_zero]) (vr 5 ((true = true ∧ 0 = 0 ∧ 0 = 0 ∧ 3 = 3 ∧ 1 = 1 ∧ List.length (List.take i (isD l)) = i * 1 ∧ 0 < 1 ∧ 0 < 8 ∧ 3 = 3 ∧ (0 + i) * 8 ≤ 140737488355328 ∧ 1 = 1 ∧ false = false ∧ (false = false ∨ false = true)) ∧ ((1 = 1 ∧ 1 ≤ 1 ∧ True) ∧ 0 < 1 ∧ 1 = 1 ∧ 1 ≤ 16777216 ∧ 1 ≤ 9223372036854775807) ∧ Bk.arr (Bk.mk (List.take i (isD l)) 3 1 true false Kd.plain) = true ∧ List.length (List.take i (isD l)) = (0 + i) * 1 ∧ (0 + i) * 1 = (0 + i) * 1 ∧ Bk.ty (Bk.mk (List.take i (isD l)) 3 1 true false Kd.plain) = 3 ∧ Bk.sz (Bk.mk (List.take i (isD l)) 3 1 true false Kd.plain) = 1 ∧ 1 = 1 ∧ 0 < 1 ∧ 0 < 8 ∧ 3 = 3 ∧ (0 + i + 1) * 8 ≤ 140737488355328 ∧ 1 = 1 ∧ Kd.isMap (Bk.kd (Bk.mk (List.take i (isD l)) 3 1 true false Kd.plain)) = false ∧ (false = false ∨ Kd.isSh (Bk.kd (Bk.mk (List.take i (isD l)) 3 1 true false Kd.plain)) = true)) (vs 10 (D.osl 4 0 (0 + i + 1) ((0 + i + 1) * 1) true) (D.osl 4 0 (i + 1) (i + 1) true) (by simp (disch := omega) only [Nat.zero_add, Nat.mul_one]) (veT (zB ?_))))
     refine zD1 [0, 2, 3, 5, 8, 9, 11, 1, 4, 6, 10, 12] [(7, [(1, 100000), (10, 100000), (12, 100000)], []), (13, [(1, 100000)], [14, 15])] (by kernel_rfl) rfl ?_
     refine vr 10 (True ∧ True ∧ True ∧ 0 < 3 ∧ 0 < 2 ∧ (0 : Int) ≤ (↑i : Int) ∧ True ∧ True ∧ 0 < 1 ∧ Int.toNat (↑i : Int) ≤ List.length l ∧ List.length l ≤ List.length l ∧ List.length l = List.length l) (vs 84 (D.row (List.take ((List.length l - Int.toNat (↑i : Int)) * 1) (List.drop (Int.toNat (↑i : Int) * 1) (rwsD l))) (List.length l - Int.toNat (↑i : Int))) (D.row (List.take (List.length l - i) (List.drop i (rwsD l))) (List.length l - i)) (by simp (disch := omega) only [Int.toNat_natCast, Nat.mul_one]) (vr 2 (0 < 1 ∧ (0 : Int) ≤ (↑i : Int) ∧ True ∧ True ∧ 0 < 1 ∧ Int.toNat (↑i : Int) ≤ List.length l ∧ List.length l ≤ List.length l ∧ List.length l = List.length l) (vs 90 (D.row (List.take ((List.length l - Int.toNat (↑i : Int)) * 1) (List.drop (Int.toNat (↑i : Int) * 1) (isD l))) (List.length l - Int.toNat (↑i : Int))) (D.row (List.take (List.length l - i) (List.drop i (isD l))) (List.length l - i)) (by simp (disch := omega) only [Int.toNat_natCast, Nat.mul_one]) (vnil (zD7 rfl rfl (by kernel_rfl) (vr 1 (Bk.arr (Bk.mk (List.take i (rwsD l) ++ [D.row (zK r) (List.length r)]) 72 1 true false Kd.plain) = true ∧ List.length (List.take i (rwsD l) ++ [D.row (zK r) (List.length r)]) = (i + 1) * 1 ∧ i + 1 = (i + 1) * 1 ∧ Bk.ty (Bk.mk (List.take i (rwsD l) ++ [D.row (zK r) (List.length r)]) 72 1 true false Kd.plain) = 72 ∧ Bk.sz (Bk.mk (List.take i (rwsD l) ++ [D.row (zK r) (List.length r)]) 72 1 true false Kd.plain) = 1 ∧ List.length (List.take (List.length l - i) (List.drop i (rwsD l))) = (List.length l - i) * 1 ∧ 0 < 1 ∧ 0 < 24 ∧ 72 = 72 ∧ (i + 1 + (List.length l - i)) * 24 ≤ 140737488355328 ∧ 1 = 1 ∧ Kd.isMap (Bk.kd (Bk.mk (List.take i (rwsD l) ++ [D.row (zK r) (List.length r)]) 72 1 true false Kd.plain)) = false ∧ (false = false ∨ Kd.isSh (Bk.kd (Bk.mk (List.take i (rwsD l) ++ [D.row (zK r) (List.length r)]) 72 1 true false Kd.plain)) = true)) (vnil ?_)))))))
     refine zD6 (C := 0 < 3 ∧ [Uk, Uk, Uk, D.own 0 0, Uk, Uk, D.own 1 0, iD ↑i, Uk, Uk, D.osl 4 0 (i + 1) (i + 1) true, Uk, Uk, Uk, Uk, Uk, Uk, Uk, Uk, Uk, Uk, Uk, Uk, Uk, Uk, Uk, Uk, Uk, Uk, Uk, Uk, Uk, Uk, Uk, Uk, Uk, Uk, Uk, Uk, Uk, Uk, Uk, Uk, Uk, Uk, Uk, Uk, Uk, Uk, Uk, Uk, Uk, Uk, Uk, Uk, Uk, Uk, Uk, Uk, Uk, Uk, Uk, Uk, Uk, Uk, Uk, Uk, Uk, Uk, Uk, Uk, Uk, Uk, Uk, Uk, Uk, Uk, Uk, D.own 0 0, D.row (nsD A) (List.length A), Uk, D.own 0 1, D.row (rwsD l) (List.length l), iD ↑i, D.row (List.take (List.length l - i) (List.drop i (rwsD l))) (List.length l - i), D.osl 2 0 (i + 1 + (List.length l - i)) ((i + 1 + (List.length l - i)) * 1) true, D.osl 4 0 (i + 1) (i + 1) true, D.own 0 2, D.row (isD l) (List.length l), iD ↑i, D.row (List.take (List.length l - i) (List.drop i (isD l))) (List.length l - i), Uk, Uk][79]? = some (List.headD [D.row (nsD A) (List.length A), D.row (rwsD l) (List.length l), D.row (isD l) (List.length l)] Uk) ∧ 0 < 1 ∧ [Uk, Uk, Uk, D.own 0 0, Uk, Uk, D.own 1 0, iD ↑i, Uk, Uk, D.osl 4 0 (i + 1) (i + 1) true, Uk, Uk, Uk, Uk, Uk, Uk, Uk, Uk, Uk, Uk, Uk, Uk, Uk, Uk, Uk, Uk, Uk, Uk, Uk, Uk, Uk, Uk, Uk, Uk, Uk, Uk, Uk, Uk, Uk, Uk, Uk, Uk, Uk, Uk, Uk, Uk, Uk, Uk, Uk, Uk, Uk, Uk, Uk, Uk, Uk, Uk, Uk, Uk, Uk, Uk, Uk, Uk, Uk, Uk, Uk, Uk, Uk, Uk, Uk, Uk, Uk, Uk, Uk, Uk, Uk, Uk, Uk, D.own 0 0, D.row (nsD A) (List.length A), Uk, D.own 0 1, D.row (rwsD l) (List.length l), iD ↑i, D.row (List.take (List.length l - i) (List.drop i (rwsD l))) (List.length l - i), D.osl 2 0 (i + 1 + (List.length l - i)) ((i + 1 + (List.length l - i)) * 1) true, D.osl 4 0 (i + 1) (i + 1) true, D.own 0 2, D.row (isD l) (List.length l), iD ↑i, D.row (List.take (List.length l - i) (List.drop i (isD l))) (List.length l - i), Uk, Uk][88]? = some (List.headD [D.row (isD l) (List.length l)] Uk) ∧ ((0 : Int) ≤ (↑i : Int) ∧ True ∧ True ∧ 0 < 1 ∧ Int.toNat (↑i : Int) ≤ List.length l ∧ List.length l ≤ List.length l ∧ List.length l = List.length l) ∧ [Uk, Uk, Uk, D.own 0 0, Uk, Uk, D.own 1 0, iD ↑i, Uk, Uk, D.osl 4 0 (i + 1) (i + 1) true, Uk, Uk, Uk, Uk, Uk, Uk, Uk, Uk, Uk, Uk, Uk, Uk, Uk, Uk, Uk, Uk, Uk, Uk, Uk, Uk, Uk, Uk, Uk, Uk, Uk, Uk, Uk, Uk, Uk, Uk, Uk, Uk, Uk, Uk, Uk, Uk, Uk, Uk, Uk, Uk, Uk, Uk, Uk, Uk, Uk, Uk, Uk, Uk, Uk, Uk, Uk, Uk, Uk, Uk, Uk, Uk, Uk, Uk, Uk, Uk, Uk, Uk, Uk, Uk, Uk, Uk, Uk, D.own 0 0, D.row (nsD A) (List.length A), Uk, D.own 0 1, D.row (rwsD l) (List.length l), iD ↑i, D.row (List.take (List.length l - i) (List.drop i (rwsD l))) (List.length l - i), D.osl 2 0 (i + 1 + (List.length l - i)) ((i + 1 + (List.length l - i)) * 1) true, D.osl 4 0 (i + 1) (i + 1) true, D.own 0 2, D.row (isD l) (List.length l), iD ↑i, D.row (List.take (List.length l - i) (List.drop i (isD l))) (List.length l - i), Uk, Uk][90]? = some (D.row (List.take ((List.length l - Int.toNat (↑i : Int)) * 1) (List.drop (Int.toNat (↑i : Int) * 1) (isD l))) (List.length l - Int.toNat (↑i : Int)))) (by kernel_rfl) ⟨(by omega), (by kernel_rfl), (by omega), (by kernel_rfl), ⟨(by omega), ⟨trivial, ⟨trivial, (by omega)⟩⟩⟩, (by simp)⟩ (by kernel_rfl) ?_
     refine vnil (zD7 rfl rfl (by kernel_rfl) (vr 1 (Bk.arr (Bk.mk (List.take i (isD l) ++ [iD ↑v]) 3 1 true false Kd.plain) = true ∧ List.length (List.take i (isD l) ++ [iD ↑v]) = (i + 1) * 1 ∧ i + 1 = (i + 1) * 1 ∧ Bk.ty (Bk.mk (List.take i (isD l) ++ [iD ↑v]) 3 1 true false Kd.plain) = 3 ∧ Bk.sz (Bk.mk (List.take i (isD l) ++ [iD ↑v]) 3 1 true false Kd.plain) = 1 ∧ List.length (List.take (List.length l - i) (List.drop i (isD l))) = (List.length l - i) * 1 ∧ 0 < 1 ∧ 0 < 8 ∧ 3 = 3 ∧ (i + 1 + (List.length l - i)) * 8 ≤ 140737488355328 ∧ 1 = 1 ∧ Kd.isMap (Bk.kd (Bk.mk (List.take i (isD l) ++ [iD ↑v]) 3 1 true false Kd.plain)) = false ∧ (false = false ∨ Kd.isSh (Bk.kd (Bk.mk (List.take i (isD l) ++ [iD ↑v]) 3 1 true false Kd.plain)) = true)) (vnil ?_)))
     refine zD6 (C := 0 < 3 ∧ [Uk, Uk, Uk, D.own 0 0, Uk, Uk, D.own 1 0, iD ↑i, Uk, Uk, Uk, Uk, Uk, Uk, Uk, Uk, Uk, Uk, Uk, Uk, Uk, Uk, Uk, Uk, Uk, Uk, Uk, Uk, Uk, Uk, Uk, Uk, Uk, Uk, Uk, Uk, Uk, Uk, Uk, Uk, Uk, Uk, Uk, Uk, Uk, Uk, Uk, Uk, Uk, Uk, Uk, Uk, Uk, Uk, Uk, Uk, Uk, Uk, Uk, Uk, Uk, Uk, Uk, Uk, Uk, Uk, Uk, Uk, Uk, Uk, Uk, Uk, Uk, Uk, Uk, Uk, Uk, Uk, D.own 0 0, (q4_ A), Uk, D.own 0 1, (q7_ l), iD ↑i, D.row (List.take (List.length l - i) (List.drop i (rwsD l))) (List.length l - i), D.osl 2 0 (i + 1 + (List.length l - i)) ((i + 1 + (List.length l - i)) * 1) true, Uk, D.own 0 2, (q9_ l), iD ↑i, D.row (List.take (List.length l - i) (List.drop i (isD l))) (List.length l - i), D.osl 4 0 (i + 1 + (List.length l - i)) ((i + 1 + (List.length l - i)) * 1) true, Uk][79]? = some (List.headD [(q4_ A), (q7_ l), (q9_ l)] Uk)) (by kernel_rfl) ⟨(by omega), (by kernel_rfl)⟩ (by kernel_rfl) ?_
     refine vr 1 ((1 = 1 ∧ 1 ≤ 3 ∧ 1 = 1 ∧ 2 ≤ 3 ∧ 1 = 1 ∧ 3 ≤ 3 ∧ True) ∧ true = true) (vs 92 (D.agg [D.row (nsD A) (List.length A), D.osl 2 0 (i + 1 + (List.length l - i)) ((i + 1 + (List.length l - i)) * 1) true, D.osl 4 0 (i + 1 + (List.length l - i)) ((i + 1 + (List.length l - i)) * 1) true]) (D.agg [D.row (nsD A) (List.length A), D.osl 2 0 (i + 1 + (List.length l - i)) (i + 1 + (List.length l - i)) true, D.osl 4 0 (i + 1 + (List.length l - i)) (i + 1 + (List.length l - i)) true]) (by simp (disch := omega) only [Nat.mul_one]) (vr 1 (false = false ∧ true = true ∧ 3 = 3 ∧ 3 ≤ 3) (vnil (zGg (zC (zD (zM ?_)))))))
     refine zBm (3 ≤ 3) (D.agg [D.row (nsD A) (List.length A), D.row (List.take (i + 1 + (List.length l - i)) (List.drop 0 (List.take i (rwsD l) ++ [D.row (zK r) (List.length r)] ++ List.take (List.length l - i) (List.drop i (rwsD l))))) (i + 1 + (List.length l - i)), D.row (List.take (i + 1 + (List.length l - i)) (List.drop 0 (List.take i (isD l) ++ [iD ↑v] ++ List.take (List.length l - i) (List.drop i (isD l))))) (i + 1 + (List.length l - i))]) (D.agg [D.row (nsD A) (List.length A), D.row (List.take (i + 1 + (List.length l - i)) (List.take i (rwsD l) ++ [D.row (zK r) (List.length r)] ++ List.take (List.length l - i) (List.drop i (rwsD l)))) (i + 1 + (List.length l - i)), D.row (List.take (i + 1 + (List.length l - i)) (List.take i (isD l) ++ [D.val (Value.int IntKind.i64 (↑v : Int))] ++ List.take (List.length l - i) (List.drop i (isD l)))) (i + 1 + (List.length l - i))]) (.inr rfl) (by kernel_rfl) (by omega) (by simp (disch := omega) only [List.drop_zero]) ?_
     rotate_left
    exact rf_ins A l r v i h1
 ·have hins := zMw (v := v) h2 h1 fun h => absurd h (by omega)
  rw [hins]
  focus
   refine zB (zB (zA rfl (v0s (vew [] [(5, false)] (True ∧ 0 < 2 ∧ decide ((↑i : Int) < ↑(List.length l)) = false) (vf (zQ (zH (zH (zP rfl (zC (zD (zB (zB ?_)))))))))))))
   refine zA rfl (vew [] [(5, false)] (True ∧ 0 < 2 ∧ decide ((↑i : Int) < ↑(List.length l)) = false) (vf (zG (zC (zD (zB (zA rfl (vr 5 ((True ∧ 0 < 1 ∧ 1 = 1 ∧ 0 ≤ 16777216 ∧ 0 ≤ 9223372036854775807) ∧ True ∧ 0 < 2 ∧ True ∧ (0 : Int) ≤ (↑i : Int) ∧ True ∧ 0 < 1 ∧ 0 ≤ Int.toNat (↑i : Int) ∧ Int.toNat (↑i : Int) ≤ List.length l ∧ Int.toNat (↑i : Int) = Int.toNat (↑i : Int)) (vs 64 (D.row (List.take ((Int.toNat (↑i : Int) - 0) * 1) (List.drop 0 (rwsD l))) (Int.toNat (↑i : Int) - 0)) (D.row (List.take i (rwsD l)) i) (by simp (disch := omega) only [Int.toNat_natCast, Nat.sub_zero, Nat.mul_one, List.drop_zero]) (vr 5 ((true = true ∧ 0 = 0 ∧ 0 = 0 ∧ 72 = 72 ∧ 1 = 1 ∧ List.length (List.take i (rwsD l)) = i * 1 ∧ 0 < 1 ∧ 0 < 24 ∧ 72 = 72 ∧ (0 + i) * 24 ≤ 140737488355328 ∧ 1 = 1 ∧ false = false ∧ (false = false ∨ false = true)) ∧ ((1 = 1 ∧ 1 ≤ 1 ∧ True) ∧ 0 < 1 ∧ 1 = 1 ∧ 1 ≤ 16777216 ∧ 1 ≤ 9223372036854775807) ∧ Bk.arr (Bk.mk (List.take i (rwsD l)) 72 1 true false Kd.plain) = true ∧ List.length (List.take i (rwsD l)) = (0 + i) * 1 ∧ (0 + i) * 1 = (0 + i) * 1 ∧ Bk.ty (Bk.mk (List.take i (rwsD l)) 72 1 true false Kd.plain) = 72 ∧ Bk.sz (Bk.mk (List.take i (rwsD l)) 72 1 true false Kd.plain) = 1 ∧ 1 = 1 ∧ 0 < 1 ∧ 0 < 24 ∧ 72 = 72 ∧ (0 + i + 1) * 24 ≤ 140737488355328 ∧ 1 = 1 ∧ Kd.isMap (Bk.kd (Bk.mk (List.take i (rwsD l)) 72 1 true false Kd.plain)) = false ∧ (false = false ∨ Kd.isSh (Bk.kd (Bk.mk (List.take i (rwsD l)) 72 1 true false Kd.plain)) = true)) (vs 9 (D.osl 2 0 (0 + i + 1) ((0 + i + 1) * 1) true) (D.osl 2 0 (i + 1) (i + 1) true) (by simp (disch := omega) only [Nat.zero_add, Nat.mul_one]) (veT (zB ?_)))))))))))))
   refine zA rfl (vr 5 ((True ∧ 0 < 1 ∧ 1 = 1 ∧ 0 ≤ 16777216 ∧ 0 ≤ 9223372036854775807) ∧ True ∧ 0 < 1 ∧ True ∧ (0 : Int) ≤ (↑i : Int) ∧ True ∧ 0 < 1 ∧ 0 ≤ Int.toNat (↑i : Int) ∧ Int.toNat (↑i : Int) ≤ List.length l ∧ Int.toNat (↑i : Int) = Int.toNat (↑i : Int)) (vs 73 (D.row (List.take ((Int.toNat (↑i : Int) - 0) * 1) (List.drop 0 (isD l))) (Int.toNat (↑i : Int) - 0)) (D.row (List.take i (isD l)) i) (by simp (disch := omega) only [Int.toNat_natCast, Nat.sub_zero, Nat.mul_one, List.drop_zero]) (vr 5 ((true = true ∧ 0 = 0 ∧ 0 = 0 ∧ 3 = 3 ∧ 1 = 1 ∧ List.length (List.take i (isD l)) = i * 1 ∧ 0 < 1 ∧ 0 < 8 ∧ 3 = 3 ∧ (0 + i) * 8 ≤ 140737488355328 ∧ 1 = 1 ∧ false = false ∧ (false = false ∨ false = true)) ∧ ((1 = 1 ∧ 1 ≤ 1 ∧ True) ∧ 0 < 1 ∧ 1 = 1 ∧ 1 ≤ 16777216 ∧ 1 ≤ 9223372036854775807) ∧ Bk.arr (Bk.mk (List.take i (isD l)) 3 1 true false Kd.plain) = true ∧ List.length (List.take i (isD l)) = (0 + i) * 1 ∧ (0 + i) * 1 = (0 + i) * 1 ∧ Bk.ty (Bk.mk (List.take i (isD l)) 3 1 true false Kd.plain) = 3 ∧ Bk.sz (Bk.mk (List.take i (isD l)) 3 1 true false Kd.plain) = 1 ∧ 1 = 1 ∧ 0 < 1 ∧ 0 < 8 ∧ 3 = 3 ∧ (0 + i + 1) * 8 ≤ 140737488355328 ∧ 1 = 1 ∧ Kd.isMap (Bk.kd (Bk.mk (List.take i (isD l)) 3 1 true false Kd.plain)) = false ∧ (false = false ∨ Kd.isSh (Bk.kd (Bk.mk (List.take i (isD l)) 3 1 true false Kd.plain)) = true)) (vs 10 (D.osl 4 0 (0 + i + 1) ((0 + i + 1) * 1) true) (D.osl 4 0 (i + 1) (i + 1) true) (by simp (disch := omega) only [Nat.zero_add, Nat.mul_one]) (veT (zB ?_))))))
   refine zD1 [0, 2, 3, 5, 8, 9, 11, 1, 4, 6, 10, 12] [(7, [(1, 100000), (10, 100000), (12, 100000)], []), (13, [(1, 100000)], [14, 15])] (by kernel_rfl) rfl ?_
   refine vr 10 (True ∧ True ∧ True ∧ 0 < 3 ∧ 0 < 2 ∧ (0 : Int) ≤ (↑i : Int) ∧ True ∧ True ∧ 0 < 1 ∧ Int.toNat (↑i : Int) ≤ List.length l ∧ List.length l ≤ List.length l ∧ List.length l = List.length l) (vs 84 (D.row (List.take ((List.length l - Int.toNat (↑i : Int)) * 1) (List.drop (Int.toNat (↑i : Int) * 1) (rwsD l))) (List.length l - Int.toNat (↑i : Int))) (D.row (List.take (List.length l - i) (List.drop i (rwsD l))) (List.length l - i)) (by simp (disch := omega) only [Int.toNat_natCast, Nat.mul_one]) (vr 2 (0 < 1 ∧ (0 : Int) ≤ (↑i : Int) ∧ True ∧ True ∧ 0 < 1 ∧ Int.toNat (↑i : Int) ≤ List.length l ∧ List.length l ≤ List.length l ∧ List.length l = List.length l) (vs 90 (D.row (List.take ((List.length l - Int.toNat (↑i : Int)) * 1) (List.drop (Int.toNat (↑i : Int) * 1) (isD l))) (List.length l - Int.toNat (↑i : Int))) (D.row (List.take (List.length l - i) (List.drop i (isD l))) (List.length l - i)) (by simp (disch := omega) only [Int.toNat_natCast, Nat.mul_one]) (vnil (zD7 rfl rfl (by kernel_rfl) (vr 1 (Bk.arr (Bk.mk (List.take i (rwsD l) ++ [D.row (zK r) (List.length r)]) 72 1 true false Kd.plain) = true ∧ List.length (List.take i (rwsD l) ++ [D.row (zK r) (List.length r)]) = (i + 1) * 1 ∧ i + 1 = (i + 1) * 1 ∧ Bk.ty (Bk.mk (List.take i (rwsD l) ++ [D.row (zK r) (List.length r)]) 72 1 true false Kd.plain) = 72 ∧ Bk.sz (Bk.mk (List.take i (rwsD l) ++ [D.row (zK r) (List.length r)]) 72 1 true false Kd.plain) = 1 ∧ List.length (List.take (List.length l - i) (List.drop i (rwsD l))) = (List.length l - i) * 1 ∧ 0 < 1 ∧ 0 < 24 ∧ 72 = 72 ∧ (i + 1 + (List.length l - i)) * 24 ≤ 140737488355328 ∧ 1 = 1 ∧ Kd.isMap (Bk.kd (Bk.mk (List.take i (rwsD l) ++ [D.row (zK r) (List.length r)]) 72 1 true false Kd.plain)) = false ∧ (false = false ∨ Kd.isSh (Bk.kd (Bk.mk (List.take i (rwsD l) ++ [D.row (zK r) (List.length r)]) 72 1 true false Kd.plain)) = true)) (vnil ?_)))))))
   refine zD6 (C := 0 < 3 ∧ [Uk, Uk, Uk, D.own 0 0, Uk, Uk, D.own 1 0, iD ↑i, Uk, Uk, D.osl 4 0 (i + 1) (i + 1) true, Uk, Uk, Uk, Uk, Uk, Uk, Uk, Uk, Uk, Uk, Uk, Uk, Uk, Uk, Uk, Uk, Uk, Uk, Uk, Uk, Uk, Uk, Uk, Uk, Uk, Uk, Uk, Uk, Uk, Uk, Uk, Uk, Uk, Uk, Uk, Uk, Uk, Uk, Uk, Uk, Uk, Uk, Uk, Uk, Uk, Uk, Uk, Uk, Uk, Uk, Uk, Uk, Uk, Uk, Uk, Uk, Uk, Uk, Uk, Uk, Uk, Uk, Uk, Uk, Uk, Uk, Uk, D.own 0 0, D.row (nsD A) (List.length A), Uk, D.own 0 1, D.row (rwsD l) (List.length l), iD ↑i, D.row (List.take (List.length l - i) (List.drop i (rwsD l))) (List.length l - i), D.osl 2 0 (i + 1 + (List.length l - i)) ((i + 1 + (List.length l - i)) * 1) true, D.osl 4 0 (i + 1) (i + 1) true, D.own 0 2, D.row (isD l) (List.length l), iD ↑i, D.row (List.take (List.length l - i) (List.drop i (isD l))) (List.length l - i), Uk, Uk][79]? = some (List.headD [D.row (nsD A) (List.length A), D.row (rwsD l) (List.length l), D.row (isD l) (List.length l)] Uk) ∧ 0 < 1 ∧ [Uk, Uk, Uk, D.own 0 0, Uk, Uk, D.own 1 0, iD ↑i, Uk, Uk, D.osl 4 0 (i + 1) (i + 1) true, Uk, Uk, Uk, Uk, Uk, Uk, Uk, Uk, Uk, Uk, Uk, Uk, Uk, Uk, Uk, Uk, Uk, Uk, Uk, Uk, Uk, Uk, Uk, Uk, Uk, Uk, Uk, Uk, Uk, Uk, Uk, Uk, Uk, Uk, Uk, Uk, Uk, Uk, Uk, Uk, Uk, Uk, Uk, Uk, Uk, Uk, Uk, Uk, Uk, Uk, Uk, Uk, Uk, Uk, Uk, Uk, Uk, Uk, Uk, Uk, Uk, Uk, Uk, Uk, Uk, Uk, Uk, D.own 0 0, D.row (nsD A) (List.length A), Uk, D.own 0 1, D.row (rwsD l) (List.length l), iD ↑i, D.row (List.take (List.length l - i) (List.drop i (rwsD l))) (List.length l - i), D.osl 2 0 (i + 1 + (List.length l - i)) ((i + 1 + (List.length l - i)) * 1) true, D.osl 4 0 (i + 1) (i + 1) true, D.own 0 2, D.row (isD l) (List.length l), iD ↑i, D.row (List.take (List.length l - i) (List.drop i (isD l))) (List.length l - i), Uk, Uk][88]? = some (List.headD [D.row (isD l) (List.length l)] Uk) ∧ ((0 : Int) ≤ (↑i : Int) ∧ True ∧ True ∧ 0 < 1 ∧ Int.toNat (↑i : Int) ≤ List.length l ∧ List.length l ≤ List.length l ∧ List.length l = List.length l) ∧ [Uk, Uk, Uk, D.own 0 0, Uk, Uk, D.own 1 0, iD ↑i, Uk, Uk, D.osl 4 0 (i + 1) (i + 1) true, Uk, Uk, Uk, Uk, Uk, Uk, Uk, Uk, Uk, Uk, Uk, Uk, Uk, Uk, Uk, Uk, Uk, Uk, Uk, Uk, Uk, Uk, Uk, Uk, Uk, Uk, Uk, Uk, Uk, Uk, Uk, Uk, Uk, Uk, Uk, Uk, Uk, Uk, Uk, Uk, Uk, Uk, Uk, Uk, Uk, Uk, Uk, Uk, Uk, Uk, Uk, Uk, Uk, Uk, Uk, Uk, Uk, Uk, Uk, Uk, Uk, Uk, Uk, Uk, Uk, Uk, Uk, D.own 0 0, D.row (nsD A) (List.length A), Uk, D.own 0 1, D.row (rwsD l) (List.length l), iD ↑i, D.row (List.take (List.length l - i) (List.drop i (rwsD l))) (List.length l - i), D.osl 2 0 (i + 1 + (List.length l - i)) ((i + 1 + (List.length l - i)) * 1) true, D.osl 4 0 (i + 1) (i + 1) true, D.own 0 2, D.row (isD l) (List.length l), iD ↑i, D.row (List.take (List.length l - i) (List.drop i (isD l))) (List.length l - i), Uk, Uk][90]? = some (D.row (List.take ((List.length l - Int.toNat (↑i : Int)) * 1) (List.drop (Int.toNat (↑i : Int) * 1) (isD l))) (List.length l - Int.toNat (↑i : Int)))) (by kernel_rfl) ⟨(by omega), (by kernel_rfl), (by omega), (by kernel_rfl), ⟨(by omega), ⟨trivial, ⟨trivial, (by omega)⟩⟩⟩, (by simp)⟩ (by kernel_rfl) ?_
   refine vnil (zD7 rfl rfl (by kernel_rfl) (vr 1 (Bk.arr (Bk.mk (List.take i (isD l) ++ [iD ↑v]) 3 1 true false Kd.plain) = true ∧ List.length (List.take i (isD l) ++ [iD ↑v]) = (i + 1) * 1 ∧ i + 1 = (i + 1) * 1 ∧ Bk.ty (Bk.mk (List.take i (isD l) ++ [iD ↑v]) 3 1 true false Kd.plain) = 3 ∧ Bk.sz (Bk.mk (List.take i (isD l) ++ [iD ↑v]) 3 1 true false Kd.plain) = 1 ∧ List.length (List.take (List.length l - i) (List.drop i (isD l))) = (List.length l - i) * 1 ∧ 0 < 1 ∧ 0 < 8 ∧ 3 = 3 ∧ (i + 1 + (List.length l - i)) * 8 ≤ 140737488355328 ∧ 1 = 1 ∧ Kd.isMap (Bk.kd (Bk.mk (List.take i (isD l) ++ [iD ↑v]) 3 1 true false Kd.plain)) = false ∧ (false = false ∨ Kd.isSh (Bk.kd (Bk.mk (List.take i (isD l) ++ [iD ↑v]) 3 1 true false Kd.plain)) = true)) (vnil ?_)))
   refine zD6 (C := 0 < 3 ∧ [Uk, Uk, Uk, D.own 0 0, Uk, Uk, D.own 1 0, iD ↑i, Uk, Uk, Uk, Uk, Uk, Uk, Uk, Uk, Uk, Uk, Uk, Uk, Uk, Uk, Uk, Uk, Uk, Uk, Uk, Uk, Uk, Uk, Uk, Uk, Uk, Uk, Uk, Uk, Uk, Uk, Uk, Uk, Uk, Uk, Uk, Uk, Uk, Uk, Uk, Uk, Uk, Uk, Uk, Uk, Uk, Uk, Uk, Uk, Uk, Uk, Uk, Uk, Uk, Uk, Uk, Uk, Uk, Uk, Uk, Uk, Uk, Uk, Uk, Uk, Uk, Uk, Uk, Uk, Uk, Uk, D.own 0 0, (q4_ A), Uk, D.own 0 1, (q7_ l), iD ↑i, D.row (List.take (List.length l - i) (List.drop i (rwsD l))) (List.length l - i), D.osl 2 0 (i + 1 + (List.length l - i)) ((i + 1 + (List.length l - i)) * 1) true, Uk, D.own 0 2, (q9_ l), iD ↑i, D.row (List.take (List.length l - i) (List.drop i (isD l))) (List.length l - i), D.osl 4 0 (i + 1 + (List.length l - i)) ((i + 1 + (List.length l - i)) * 1) true, Uk][79]? = some (List.headD [(q4_ A), (q7_ l), (q9_ l)] Uk)) (by kernel_rfl) ⟨(by omega), (by kernel_rfl)⟩ (by kernel_rfl) ?_
   refine vr 1 ((1 = 1 ∧ 1 ≤ 3 ∧ 1 = 1 ∧ 2 ≤ 3 ∧ 1 = 1 ∧ 3 ≤ 3 ∧ True) ∧ true = true) (vs 92 (D.agg [D.row (nsD A) (List.length A), D.osl 2 0 (i + 1 + (List.length l - i)) ((i + 1 + (List.length l - i)) * 1) true, D.osl 4 0 (i + 1 + (List.length l - i)) ((i + 1 + (List.length l - i)) * 1) true]) (D.agg [D.row (nsD A) (List.length A), D.osl 2 0 (i + 1 + (List.length l - i)) (i + 1 + (List.length l - i)) true, D.osl 4 0 (i + 1 + (List.length l - i)) (i + 1 + (List.length l - i)) true]) (by simp (disch := omega) only [Nat.mul_one]) (vr 1 (false = false ∧ true = true ∧ 3 = 3 ∧ 3 ≤ 3) (vnil (zGg (zC (zD (zM ?_)))))))
   refine zBm (3 ≤ 3) (D.agg [D.row (nsD A) (List.length A), D.row (List.take (i + 1 + (List.length l - i)) (List.drop 0 (List.take i (rwsD l) ++ [D.row (zK r) (List.length r)] ++ List.take (List.length l - i) (List.drop i (rwsD l))))) (i + 1 + (List.length l - i)), D.row (List.take (i + 1 + (List.length l - i)) (List.drop 0 (List.take i (isD l) ++ [iD ↑v] ++ List.take (List.length l - i) (List.drop i (isD l))))) (i + 1 + (List.length l - i))]) (D.agg [D.row (nsD A) (List.length A), D.row (List.take (i + 1 + (List.length l - i)) (List.take i (rwsD l) ++ [D.row (zK r) (List.length r)] ++ List.take (List.length l - i) (List.drop i (rwsD l)))) (i + 1 + (List.length l - i)), D.row (List.take (i + 1 + (List.length l - i)) (List.take i (isD l) ++ [D.val (Value.int IntKind.i64 (↑v : Int))] ++ List.take (List.length l - i) (List.drop i (isD l)))) (i + 1 + (List.length l - i))]) (.inr rfl) (by kernel_rfl) (by omega) (by simp (disch := omega) only [List.drop_zero]) ?_
   rotate_left
  exact rf_ins A l r v i h1
end
section
open Go.RowKit
section
variable {P : Program} {n : Nat} {t : TypeId}
end
end
section
open Go.RowKit
set_option maxRecDepth 100000
structure Raw where
 V : List Int
 R : List Rw
 W : List Int
 deriving Inhabited
abbrev rawC (f : Raw) : List D := [.row (f.V.map iD) f.V.length, .row (f.R.map rowV) f.R.length, .row (f.W.map iD) f.W.length]
theorem zMu (f : Raw) : (rawC f).length = 3 := rfl
abbrev rawD (f : Raw) : D := .agg (rawC f)
def Vi (a : Va) : Prop := inK .i64 a.kind ∧ inK .i64 a.int ∧ a.str.length ≤ maxLen
structure RawOk (f : Raw) : Prop where
 v : ∀ z ∈ f.V, inK .i64 z
 r : ∀ x ∈ f.R, ∀ a ∈ x, Vi a
 w : ∀ z ∈ f.W, inK .i64 z
theorem zXa {P : Program} {n : Nat} {t e : TypeId} (hu : P.underlying t = some (.slice e)) (he : P.underlying e = some (.int .i64)) {ds : List D} (h : Shp P n t ds) : ∃ l : List Int, ds = [.row (l.map iD) l.length] ∧ ∀ z ∈ l, inK .i64 z := by
 obtain ⟨m, ls, rfl, h1, _⟩ := zGf hu h
 obtain ⟨bs, h2, h3, h4⟩ := zKp (g := fun z : Int => iD z) (Q := fun x => inK .i64 x) fun x hx => by
  obtain ⟨z, rfl, h5⟩ := zG3 he (h1 x hx)
  exact ⟨z, rfl, h5⟩
 exact ⟨bs, by rw [h2, ← h3], h4⟩
theorem len3 {α : Type} {l : List α} (h : l.length = 3) : ∃ a b c, l = [a, b, c] := by
 match l, h with
 | [a, b, c], _ => exact ⟨a, b, c, rfl⟩
theorem in_va {n : Nat} {ds : List D} (h : Shp Tryd.prog n 69 ds) : ∃ a : Va, ds = vaC a ∧ Vi a := by
 obtain ⟨hl, m, hf⟩ := zLn Tryd.underlying69 h
 rw [show Tryd.prog.cellsOf 69 = 3 by kernel_rfl] at hl
 obtain ⟨a, b, c, rfl⟩ := len3 hl
 have c3 : Tryd.prog.cellsOf 3 = 1 := by kernel_rfl
 have c4 : Tryd.prog.cellsOf 2 = 1 := by kernel_rfl
 have c5 : Tryd.prog.cellsOf 9 = 1 := by kernel_rfl
 simp only [List.mem_cons, List.not_mem_nil, or_false, forall_eq_or_imp, forall_eq, c3, c4, c5, List.drop_zero, List.drop_succ_cons, List.take_succ_cons, List.take_zero] at hf
 obtain ⟨g0, g1, g2⟩ := hf
 obtain ⟨x2, e2, k2⟩ := zG3 Tryd.underlying3 g0
 obtain ⟨x3, e3, k3⟩ := zG3 Tryd.underlying2 g1
 obtain ⟨x4, e4, k4⟩ := zTs Tryd.underlying9 g2
 simp only [List.cons.injEq, and_true] at e2 e3 e4
 subst e2 e3 e4
 exact ⟨⟨x2, x3, x4.data.toList⟩, rfl, k2, k3, k4⟩
theorem in_row {n : Nat} {ds : List D} (h : Shp Tryd.prog n 72 ds) : ∃ x : Rw, ds = [rowV x] ∧ ∀ a ∈ x, Vi a := by
 obtain ⟨m, ls, rfl, h1, _⟩ := zGf Tryd.underlying72 h
 obtain ⟨bs, h2, h3, h4⟩ := zKq (g := vaC) (Q := Vi) fun x hx => in_va (h1 x hx)
 exact ⟨bs, by rw [h2, ← h3]; rfl, h4⟩
theorem in_raw {n : Nat} {ds : List D} (h : Shp Tryd.prog n 46 ds) : ∃ f : Raw, ds = rawC f ∧ RawOk f := by
 obtain ⟨hl, m, hf⟩ := zLn Tryd.underlying46 h
 rw [show Tryd.prog.cellsOf 46 = 3 by kernel_rfl] at hl
 obtain ⟨a, b, c, rfl⟩ := len3 hl
 have c3 : Tryd.prog.cellsOf 26 = 1 := by kernel_rfl
 have c4 : Tryd.prog.cellsOf 27 = 1 := by kernel_rfl
 simp only [List.mem_cons, List.not_mem_nil, or_false, forall_eq_or_imp, forall_eq, c3, c4, List.drop_zero, List.drop_succ_cons, List.take_succ_cons, List.take_zero] at hf
 obtain ⟨g0, g1, g2⟩ := hf
 obtain ⟨V, e0, k0⟩ := zXa Tryd.underlying26 Tryd.underlying3 g0
 obtain ⟨W, e2, k2⟩ := zXa Tryd.underlying26 Tryd.underlying3 g2
 obtain ⟨m', ls, e1, h1, _⟩ := zGf Tryd.underlying27 g1
 obtain ⟨R, r2, r3, r4⟩ := zKp (g := rowV) (Q := fun x => ∀ a ∈ x, Vi a) fun x hx => in_row (h1 x hx)
 simp only [List.cons.injEq, and_true] at e0 e1 e2
 subst e0 e1 e2
 exact ⟨⟨V, R, W⟩, by rw [r2, ← r3], k0, r4, k2⟩
theorem arg_raws {d : D} (h : ArgD Tryd.prog 23 d) : ∃ l : List Raw, d = .row (l.flatMap rawC) l.length ∧ ∀ f ∈ l, RawOk f := by
 obtain ⟨n, hs⟩ := h.cell (by kernel_rfl)
 obtain ⟨m, ls, e, h1, _⟩ := zGf Tryd.underlying23 hs
 obtain ⟨fs, h2, h3, h4⟩ := zKq (g := rawC) (Q := RawOk) fun x hx => in_raw (h1 x hx)
 simp only [List.cons.injEq, and_true] at e
 exact ⟨fs, by rw [e, h2, ← h3, List.flatMap_def], h4⟩
theorem arg_int {d : D} (h : ArgD Tryd.prog 3 d) : ∃ z : Int, d = iD z ∧ inK .i64 z := by
 obtain ⟨n, hs⟩ := h.cell (by kernel_rfl)
 obtain ⟨z, e, hz⟩ := zG3 Tryd.underlying3 hs
 simp only [List.cons.injEq, and_true] at e
 exact ⟨z, e, hz⟩
end
section
open Go.RowKit
attribute [local irreducible] seqW awp zAf zAo zAg Weak updS zAw retL Pure Acts rP setP setQ cP nP fr
set_option maxRecDepth 4096
theorem zTy (k : Nat) : ((k + 1 : Nat) : Int) - 1 = (k : Int) := by omega
abbrev q10_ := D.val (Value.int IntKind.i64 4)
set_option maxHeartbeats 4000000 in
theorem zY9 (n : Int) (V : List Int) (R : List Rw) (W : List Int) (hV : V.length ≤ 1000000) (hR : R.length ≤ 1000000) :
    Pure Tryd.prog 20 [iD n, rawD ⟨V, R, W⟩] [] (iD (chk n V R W.length)) := by
  obtain ⟨m, hm⟩ : ∃ m, m = W.length := ⟨_, rfl⟩
  refine zL zBo mixed Tryd.func20 rfl ?_
  focus
    refine zB (zA rfl (v0s (veT (zB (zB (zA rfl (veT (zF ?_))))))))
    rotate_left
  refine zW (fun (i : Nat) => fr 145 [(0, iD n), (3, D.own 0 0), (5, iD ↑i)]) (fun (i : Nat) => [rB (.row (V.map fun z => iD z) V.length) (.row (R.map rowV) R.length) (.row (W.map fun z => iD z) W.length)]) (fun i => V.length - i) (fun (i : Nat) => i ≤ V.length ∧ ∀ j, j < i → zEt n V j = true) 0 ?_ ?_ ?_
  · exact ⟨by omega, fun j h => by omega⟩
  · refine vk 1
  rintro i ⟨h1, h2⟩
  rcases Nat.lt_or_ge i V.length with h3 | h3
  · have hne : (V.map fun z => iD z) ≠ [] := zY (by omega)
    have hx := zCk V i h3
    by_cases hs : zEt n V i = true
    · have hs2 := hs
      simp only [zEt, Bool.and_eq_true, Bool.or_eq_true, decide_eq_true_eq] at hs2
      obtain ⟨s1, s2, s3⟩ := hs2
      rcases i with _ | k
      · rw [List.drop_zero] at hx
        focus
          refine zB (zB (zA rfl (v0s (ve (True ∧ 0 < 3) (vT ((↑(0 : Nat) : Int) < ↑(List.length V)) (zG (zC (zD (zB (zF (zB (vd [0, 2, 1, 3, 4, 5, 6, 7, 9, 12, 8, 10, 11, 13, 14, 15, 16, 17, 18, 19, 21, 22, 25, 27, 20, 23, 24, 26, 28, 29, 30, 31, 32] (vr 5 (True ∧ 0 < 3 ∧ ix ↑(0 : Nat) ↑(List.length V) (List.map (fun (z : Int) => iD z) V ≠ []) ∧ 0 < List.length (List.map (fun (z : Int) => iD z) V)) ?_)))))))))))))
          refine vsh 22 hx (vw 8 [] [(6, false)] (decide (List.getD V 0 (0 : Int) < 0) = false ∧ True ∧ 0 < 3 ∧ ix ↑(0 : Nat) ↑(List.length V) (List.map (fun (z : Int) => iD z) V ≠ []) ∧ 0 < List.length (List.map (fun (z : Int) => iD z) V)) (vsh 29 hx (vew [] [(15, false)] (decide (List.getD V 0 (0 : Int) ≥ n) = false) (vf (zG (zE (zC (zD (zA rfl (vr 3 (i6 (↑(0 : Nat) + 1)) (vnil (zC ?_))))))))) (by exact decide_eq_false (by omega)))) ⟨(by exact decide_eq_false (by omega)), trivial, (by omega), ⟨(by omega), ⟨(by omega), (by assumption)⟩⟩, (by (simp; omega))⟩)
          rotate_left
        refine ⟨1, ⟨by omega, fun j hj => ?_⟩, by omega, ?_⟩
        · obtain rfl : j = 0 := by omega
          exact hs
        · refine vk 1
      · have hx2 := zCk V k (by omega)
        have s4 : V.getD k 0 < V.getD (k + 1) 0 := by
          rcases s3 with h | h
          · omega
          · exact h
        focus
          refine zB (zB (zA rfl (v0s (ve (True ∧ 0 < 3) (vT ((↑(k + 1) : Int) < ↑(List.length V)) (zG (zC (zD (zB (zF (zB (vd [0, 2, 1, 3, 4, 5, 6, 7, 9, 12, 8, 10, 11, 13, 14, 15, 16, 17, 18, 19, 21, 22, 25, 27, 20, 23, 24, 26, 28, 29, 30, 31, 32] (vr 4 (True ∧ 0 < 3 ∧ ix ↑(k + 1) ↑(List.length V) (List.map (fun (z : Int) => iD z) V ≠ [])) ?_)))))))))))))
          refine vp 21 (k + 1) (List.map (fun (z : Int) => iD z) V) (vr 1 (0 < List.length (List.drop (k + 1) (List.map (fun (z : Int) => iD z) V))) (vsh 22 hx (vw 7 [] [(6, false)] (decide (List.getD V (k + 1) (0 : Int) < 0) = false ∧ True ∧ 0 < 3 ∧ ix ↑(k + 1) ↑(List.length V) (List.map (fun (z : Int) => iD z) V ≠ [])) (vp 28 (k + 1) (List.map (fun (z : Int) => iD z) V) (vr 1 (0 < List.length (List.drop (k + 1) (List.map (fun (z : Int) => iD z) V))) (vsh 29 hx (vw 9 [] [(15, false), (18, true)] (decide (List.getD V (k + 1) (0 : Int) ≥ n) = false ∧ decide ((↑(k + 1) : Int) > (0 : Int)) = true ∧ True ∧ i6 (↑(k + 1) - 1)) (vs 40 (iD (↑(k + 1) - 1)) (iD ↑k) (by simp (disch := omega) only [zTy]) (vr 4 (True ∧ 0 < 3 ∧ ix ↑k ↑(List.length V) (List.map (fun (z : Int) => iD z) V ≠ [])) (vp 41 k (List.map (fun (z : Int) => iD z) V) (vr 1 (0 < List.length (List.drop k (List.map (fun (z : Int) => iD z) V))) (vsh 42 hx2 (vr 2 (0 < 3 ∧ ix ↑(k + 1) ↑(List.length V) (List.map (fun (z : Int) => iD z) V ≠ [])) ?_)))))) ⟨(by exact decide_eq_false (by omega)), (by exact decide_eq_true (by omega)), trivial, (by omega)⟩)))) ⟨(by exact decide_eq_false (by omega)), trivial, (by omega), ⟨(by omega), ⟨(by omega), (by assumption)⟩⟩⟩)))
          refine vp 46 (k + 1) (List.map (fun (z : Int) => iD z) V) (vr 1 (0 < List.length (List.drop (k + 1) (List.map (fun (z : Int) => iD z) V))) (vsh 47 hx (veT (vF (List.getD V k (0 : Int) ≥ List.getD V (k + 1) (0 : Int)) (zG (zE (zC (zD (zA rfl (vr 3 (i6 (↑(k + 1) + 1)) (vnil (zC ?_))))))))))))
          rotate_left
        refine ⟨k + 2, ⟨by omega, fun j hj => ?_⟩, by omega, ?_⟩
        · rcases Nat.lt_or_ge j (k + 1) with h | h
          · exact h2 j h
          · obtain rfl : j = k + 1 := by omega
            exact hs
        · refine vk 1
    · have hc3 : chk n V R W.length = 3 := chk_v h3 (by simpa using hs)
      rw [hc3]
      rcases i with _ | k
      · rw [List.drop_zero] at hx
        focus
          refine zB (zB (zA rfl (v0s (ve (True ∧ 0 < 3) (vT ((↑(0 : Nat) : Int) < ↑(List.length V)) (zG (zC (zD (zB (zF (zB (vd [0, 2, 1, 3, 4, 5, 6, 7, 9, 12, 8, 10, 11, 13, 14, 15, 16, 17, 18, 19, 21, 22, 25, 27, 20, 23, 24, 26, 28, 29, 30, 31, 32] (vr 5 (True ∧ 0 < 3 ∧ ix ↑(0 : Nat) ↑(List.length V) (List.map (fun (z : Int) => iD z) V ≠ []) ∧ 0 < List.length (List.map (fun (z : Int) => iD z) V)) ?_)))))))))))))
          refine vsh 22 hx (vrT 2 ?_)
          refine vsp 24 (decide (List.getD V 0 (0 : Int) < 0)) (fun hc => ?_) (fun hc => ?_)
          simp only [decide_eq_true_eq] at hc
          refine veT (vt (zB (zA rfl (veT (zM (zN (zJ (zJ (zN (zJ (vret (True) (.inr rfl))))))))))))
          simp only [decide_eq_false_iff_not] at hc
          refine vr 6 (True ∧ 0 < 3 ∧ ix ↑(0 : Nat) ↑(List.length V) (List.map (fun (z : Int) => iD z) V ≠ []) ∧ 0 < List.length (List.map (fun (z : Int) => iD z) V)) (vsh 29 hx (vrT 3 ?_))
          refine vsp 33 (decide (List.getD V 0 (0 : Int) ≥ n)) (fun hc => ?_) (fun hc => ?_)
          simp only [decide_eq_true_eq] at hc
          refine veT (vt (zB (zA rfl (veT (zM (zN (zJ (zJ (zN (zJ (vret (True) (.inr rfl))))))))))))
          simp only [decide_eq_false_iff_not] at hc
          refine veT (vf (zG (zE (zC (zD (zA rfl (vr 3 (i6 (↑(0 : Nat) + 1)) (vnil (zC ?_)))))))))
          rotate_left
        all_goals exact absurd (zJr (by omega) (by omega) (.inl rfl)) hs
      · have hx2 := zCk V k (by omega)
        focus
          refine zB (zB (zA rfl (v0s (ve (True ∧ 0 < 3) (vT ((↑(k + 1) : Int) < ↑(List.length V)) (zG (zC (zD (zB (zF (zB (vd [0, 2, 1, 3, 4, 5, 6, 7, 9, 12, 8, 10, 11, 13, 14, 15, 16, 17, 18, 19, 21, 22, 25, 27, 20, 23, 24, 26, 28, 29, 30, 31, 32] (vr 4 (True ∧ 0 < 3 ∧ ix ↑(k + 1) ↑(List.length V) (List.map (fun (z : Int) => iD z) V ≠ [])) ?_)))))))))))))
          refine vp 21 (k + 1) (List.map (fun (z : Int) => iD z) V) (vr 1 (0 < List.length (List.drop (k + 1) (List.map (fun (z : Int) => iD z) V))) (vsh 22 hx (vrT 2 ?_)))
          refine vsp 24 (decide (List.getD V (k + 1) (0 : Int) < 0)) (fun hc => ?_) (fun hc => ?_)
          simp only [decide_eq_true_eq] at hc
          refine veT (vt (zB (zA rfl (veT (zM (zN (zJ (zJ (zN (zJ (vret (True) (.inr rfl))))))))))))
          simp only [decide_eq_false_iff_not] at hc
          refine vr 5 (True ∧ 0 < 3 ∧ ix ↑(k + 1) ↑(List.length V) (List.map (fun (z : Int) => iD z) V ≠ [])) (vp 28 (k + 1) (List.map (fun (z : Int) => iD z) V) (vr 1 (0 < List.length (List.drop (k + 1) (List.map (fun (z : Int) => iD z) V))) (vsh 29 hx (vrT 3 ?_))))
          refine vsp 33 (decide (List.getD V (k + 1) (0 : Int) ≥ n)) (fun hc => ?_) (fun hc => ?_)
          simp only [decide_eq_true_eq] at hc
          refine veT (vt (zB (zA rfl (veT (zM (zN (zJ (zJ (zN (zJ (vret (True) (.inr rfl))))))))))))
          simp only [decide_eq_false_iff_not] at hc
          refine vw 6 [] [(18, true)] (decide ((↑(k + 1) : Int) > (0 : Int)) = true ∧ True ∧ i6 (↑(k + 1) - 1)) (vs 40 (iD (↑(k + 1) - 1)) (iD ↑k) (by simp (disch := omega) only [zTy]) (vr 4 (True ∧ 0 < 3 ∧ ix ↑k ↑(List.length V) (List.map (fun (z : Int) => iD z) V ≠ [])) (vp 41 k (List.map (fun (z : Int) => iD z) V) (vr 1 (0 < List.length (List.drop k (List.map (fun (z : Int) => iD z) V))) (vsh 42 hx2 (vr 2 (0 < 3 ∧ ix ↑(k + 1) ↑(List.length V) (List.map (fun (z : Int) => iD z) V ≠ [])) (vp 46 (k + 1) (List.map (fun (z : Int) => iD z) V) (vr 1 (0 < List.length (List.drop (k + 1) (List.map (fun (z : Int) => iD z) V))) (vsh 47 hx (veT ?_))))))))))
          refine zR (t := decide (List.getD V k (0 : Int) ≥ List.getD V (k + 1) (0 : Int))) (by kernel_rfl) (fun hc => ?_) (fun hc => ?_)
          simp only [decide_eq_true_eq] at hc
          refine zB (zA rfl (veT (zM (zN (zJ (zJ (zN (zJ (vret (True) (.inr rfl))))))))))
          simp only [decide_eq_false_iff_not] at hc
          refine zG (zE (zC (zD (zA rfl (vr 3 (i6 (↑(k + 1) + 1)) (vnil (zC ?_)))))))
          rotate_left
        all_goals exact absurd (zJr (by omega) (by omega) (.inr (by simp only [Nat.add_sub_cancel]; omega))) hs
  have hv := zF2 (p := zEt n V) (n := V.length) fun j hj => h2 j (by omega)
  by_cases hlm : R.length = W.length
  case neg =>
    rw [chk_l hv hlm]
    focus
      refine zB (zB (zA rfl (v0s (ve (True ∧ 0 < 3) (vF ((↑i : Int) < ↑(List.length V)) (zQ (zH (zH (zP rfl (zC (zD (zB (zB ?_)))))))))))))
      refine zA rfl (ve (True ∧ 0 < 2 ∧ True ∧ 0 < 1 ∧ True) (zEs (t := (↑(List.length R) : Int) != (↑(List.length W) : Int)) (by kernel_rfl) (by simpa using by omega) (zB (zA rfl (veT (zM (zJ (vret (True) (.inr rfl)))))))))
  focus
    refine zB (zB (zA rfl (v0s (ve (True ∧ 0 < 3) (vF ((↑i : Int) < ↑(List.length V)) (zQ (zH (zH (zP rfl (zC (zD (zB (zB ?_)))))))))))))
    refine zA rfl (ve (True ∧ 0 < 2 ∧ True ∧ 0 < 1 ∧ True) (zFy (t := (↑(List.length R) : Int) != (↑(List.length W) : Int)) (by kernel_rfl) (by simpa using by omega) (zG (zC (zD (zB (zB (zA rfl (veT (zF ?_))))))))))
    rotate_left
  refine zW (fun (i : Nat) => fr 145 [(3, D.own 0 0), (6, iD ↑i)]) (fun (i : Nat) => [rB (.row (V.map fun z => iD z) V.length) (.row (R.map rowV) R.length) (.row (W.map fun z => iD z) W.length)]) (fun i => R.length - i) (fun (i : Nat) => i ≤ R.length ∧ ∀ j, j < i → j < R.length → decide ((R.getD j []).length = V.length) = true) 0 ?_ ?_ ?_
  · exact ⟨by omega, fun j h => by omega⟩
  · refine vk 1
  clear h1 h2 h3 i
  rintro i ⟨h1, h2⟩
  rcases Nat.lt_or_ge i R.length with h3 | h3
  · have hne : R.map rowV ≠ [] := zY (by omega)
    have hx := zAh R i h3
    have hca := chk_a hv hlm h3
    generalize hg : R.getD i [] = r at *
    focus
      refine zB (zB (zA rfl (v0s (ve (True ∧ 0 < 2) (vT ((↑i : Int) < ↑(List.length R)) (zG (zC (zD (zB (zF (zB (vd [0, 2, 6, 1, 3, 4, 5, 7, 8, 9] (vr 5 (True ∧ True ∧ 0 < 2 ∧ ix ↑i ↑(List.length R) (List.map rowV R ≠ [])) ?_)))))))))))))
      refine vp 68 i (List.map rowV R) (vr 1 (0 < List.length (List.drop i (List.map rowV R))) (vsh 69 hx (ve (0 < 3 ∧ True) ?_)))
      refine zR (t := (↑(List.length r) : Int) != (↑(List.length V) : Int)) (by kernel_rfl) (fun hc => ?_) (fun hc => ?_)
      simp only [bne_iff_ne] at hc
      refine zB (zA rfl (veT (zM (zN (zJ (zJ (zN (zJ ?_))))))))
      refine vre (True) (D.val (Value.int IntKind.i64 6)) (.inr rfl) ?_
      rotate_left
      simp only [bne_eq_false_iff_eq] at hc
      refine zG (zE (zC (zD (zA rfl (vr 3 (i6 (↑i + 1)) (vnil (zC ?_)))))))
      rotate_left
    · rw [hca (by omega)]
    · refine ⟨i + 1, ⟨by omega, fun j hj hjl => ?_⟩, by omega, ?_⟩
      · rcases Nat.lt_or_ge j i with h | h
        · exact h2 j h hjl
        · obtain rfl : j = i := by omega
          rw [hg]; exact decide_eq_true (by omega)
      · refine vk 1
  have ha := zFq (p := fun x : Rw => decide (x.length = V.length)) (d := []) h3 h2
  have hl : ∀ x ∈ R, x.length ≤ 1000000000 := fun x hx => by
    have := of_decide_eq_true (List.all_eq_true.1 ha x hx)
    omega
  focus
    refine zB (zB (zA rfl (v0s (ve (True ∧ 0 < 2) (vF ((↑i : Int) < ↑(List.length R)) (zQ (zH (zH (zP rfl (zC (zD (zB (zB ?_)))))))))))))
    refine zA rfl (veT (zF ?_))
    rotate_left
  refine zW (fun (i : Nat) => fr 145 [(3, D.own 0 0), (7, iD ↑i)]) (fun (i : Nat) => [rB (.row (V.map fun z => iD z) V.length) (.row (R.map rowV) R.length) (.row (W.map fun z => iD z) W.length)]) (fun i => R.length - i) (fun (i : Nat) => i ≤ R.length ∧ ∀ j, j < i → j < R.length → (R.getD j []).all vok = true) 0 ?_ ?_ ?_
  · exact ⟨by omega, fun j h => by omega⟩
  · refine vk 1
  clear h1 h2 h3 i
  rintro i ⟨h1, h2⟩
  rcases Nat.lt_or_ge i R.length with h3 | h3
  · have hne : R.map rowV ≠ [] := zY (by omega)
    have hx := zAh R i h3
    have hco := chk_o hv hlm ha h3
    have hlr := hl _ (zAt R [] i h3)
    generalize hg : R.getD i [] = r at *
    focus
      refine zB (zB (zA rfl (v0s (ve (True ∧ 0 < 2) (vT ((↑i : Int) < ↑(List.length R)) (zG (zC (zD (zB (zF (zB (zA rfl (veT ?_)))))))))))))
      refine zF ?_
      rotate_left
    refine zW (fun (k : Nat) => fr 145 [(3, D.own 0 0), (7, iD ↑i), (8, iD ↑k)]) (fun (k : Nat) => [rB (.row (V.map fun z => iD z) V.length) (.row (R.map rowV) R.length) (.row (W.map fun z => iD z) W.length)]) (fun k => r.length - k) (fun (k : Nat) => k ≤ r.length ∧ ∀ j, j < k → j < r.length → vok (r.getD j default) = true) 0 ?_ ?_ ?_
    · exact ⟨by omega, fun j h => by omega⟩
    · refine vk 1
    rintro k ⟨k1, k2⟩
    rcases Nat.lt_or_ge k r.length with k3 | k3
    · have hno : vok (r.getD k default) = false → r.all vok = false := zTh vok default r k k3
      generalize hv2 : r.getD k default = v at *
      focus
        refine zB (zB (zA rfl (v0s (vr 5 (True ∧ 0 < 2 ∧ ix ↑i ↑(List.length R) (List.map rowV R ≠ [])) (vp 86 i (List.map rowV R) (vr 1 (0 < List.length (List.drop i (List.map rowV R))) (vsh 87 hx (veT (vT ((↑k : Int) < ↑(List.length r)) (zG (zC (zD (zB ?_)))))))))))))
        refine zF (zB (zA rfl (vr 4 (True ∧ 0 < 2 ∧ ix ↑i ↑(List.length R) (List.map rowV R ≠ [])) (vp 95 i (List.map rowV R) (vr 1 (0 < List.length (List.drop i (List.map rowV R))) (vsh 96 hx (vr 3 (ix ↑k ↑(List.length r) (zK r ≠ []) ∧ 3 ≤ List.length (List.drop (k * 3) (zK r))) (vs 99 (D.agg (List.take 3 (List.drop (k * 3) (zK r)))) (D.agg (vaC v)) (by simp (disch := omega) only [zA9, hv2]) (ve (false = false ∧ true = true ∧ 3 = 3 ∧ 3 ≤ 3) (zB (zA rfl (vr 4 (True ∧ 0 < 3 ∧ True) ?_))))) ⟨⟨(by omega), ⟨(by omega), (by exact zDd _ (by omega))⟩⟩, (by exact zB2 _ _ (by omega))⟩)))))))
        refine vsp 103 (Va.kind v == (1 : Int)) (fun hc => ?_) (fun hc => ?_)
        simp only [beq_iff_eq] at hc
        refine vr 3 (True ∧ 0 < 1 ∧ True) (vs 106 (bD (ByteArray.toList (bs (Va.str v)) == ByteArray.toList (ByteArray.mk #[]))) (bD (List.isEmpty (Va.str v))) (by simp (disch := omega) only [zFa, zLl, zNv]) (vrT 2 ?_))
        refine vsp 108 (List.isEmpty (Va.str v)) (fun hc => ?_) (fun hc => ?_)
        refine veT (vf (zG (zE (zC (zD (zA rfl (vr 3 (i6 (↑k + 1)) (vnil (zC ?_)))))))))
        rotate_left
        refine vew [] [(12, false)] (True ∧ 0 < 3 ∧ True ∧ (Va.kind v == (2 : Int)) = false) (vt (zB (zA rfl (veT (zM (zN (zJ (zJ (zN (zN (zJ (zJ (zN ?_)))))))))))))
        refine zJ ?_
        refine vre (True) (q10_) (.inr rfl) ?_
        rotate_left
        simp only [beq_eq_false_iff_ne] at hc
        refine vr 9 (True ∧ 0 < 3 ∧ True) ?_
        refine vsp 112 (Va.kind v == (2 : Int)) (fun hc => ?_) (fun hc => ?_)
        simp only [beq_iff_eq] at hc
        refine vr 5 (True ∧ 0 < 2 ∧ True) ?_
        refine vsp 117 (Va.int v == (0 : Int)) (fun hc => ?_) (fun hc => ?_)
        simp only [beq_iff_eq] at hc
        refine ve (True ∧ 0 < 1) ?_
        refine zR (t := !decide ((↑(List.length (Va.str v)) : Int) ≤ (24 : Int))) (by kernel_rfl) (fun hc => ?_) (fun hc => ?_)
        simp only [Bool.not_eq_true'] at hc
        refine zB (zA rfl (veT (zM (zN (zJ (zJ (zN (zN (zJ (zJ (zN (zJ ?_))))))))))))
        refine vre (True) (q10_) (.inr rfl) ?_
        rotate_left
        simp only [Bool.not_eq_false'] at hc
        refine zG (zE (zC (zD (zA rfl (vr 3 (i6 (↑k + 1)) (vnil (zC ?_)))))))
        rotate_left
        simp only [beq_eq_false_iff_ne] at hc
        refine veT (vt (zB (zA rfl (veT (zM (zN (zJ (zJ (zN (zN (zJ (zJ (zN ?_)))))))))))))
        refine zJ ?_
        refine vre (True) (q10_) (.inr rfl) ?_
        rotate_left
        simp only [beq_eq_false_iff_ne] at hc
        refine veT (vt (zB (zA rfl (veT (zM (zN (zJ (zJ (zN (zN (zJ (zJ (zN ?_)))))))))))))
        refine zJ ?_
        refine vre (True) (q10_) (.inr rfl) ?_
        rotate_left
      · have hvk : vok v = true := by simp [vok, *] <;> omega
        refine ⟨k + 1, ⟨by omega, fun j hj hjl => ?_⟩, by omega, ?_⟩
        · rcases Nat.lt_or_ge j k with h | h
          · exact k2 j h hjl
          · obtain rfl : j = k := by omega
            rw [hv2]; exact hvk
        · refine vk 1
      · rw [hco (hno (by simp [vok, *] <;> omega))]
      · rw [hco (hno (by have hd := hc; simp only [decide_eq_false_iff_not, decide_eq_true_eq] at hd; simp [vok, *] <;> omega))]
      · have hvk : vok v = true := by have hd := hc; simp only [decide_eq_false_iff_not, decide_eq_true_eq] at hd; simp [vok, *] <;> omega
        refine ⟨k + 1, ⟨by omega, fun j hj hjl => ?_⟩, by omega, ?_⟩
        · rcases Nat.lt_or_ge j k with h | h
          · exact k2 j h hjl
          · obtain rfl : j = k := by omega
            rw [hv2]; exact hvk
        · refine vk 1
      · rw [hco (hno (by simp [vok, *] <;> omega))]
      · rw [hco (hno (by simp [vok, *] <;> omega))]
    · have hra := zFq (p := vok) (d := default) k3 k2
      focus
        refine zB (zB (zA rfl (v0s (vr 5 (True ∧ 0 < 2 ∧ ix ↑i ↑(List.length R) (List.map rowV R ≠ [])) (vp 86 i (List.map rowV R) (vr 1 (0 < List.length (List.drop i (List.map rowV R))) (vsh 87 hx (veT (vF ((↑k : Int) < ↑(List.length r)) (zQ (zH (zH (zP rfl ?_)))))))))))))
        refine zE (zC (zD (zA rfl (vr 3 (i6 (↑i + 1)) (vnil (zC ?_))))))
        rotate_left
      refine ⟨i + 1, ⟨by omega, fun j hj hjl => ?_⟩, by omega, ?_⟩
      · rcases Nat.lt_or_ge j i with h | h
        · exact h2 j h hjl
        · obtain rfl : j = i := by omega
          rw [hg]; exact hra
      · refine vk 1
  have ho := zFq (p := fun x : Rw => x.all vok) (d := []) h3 h2
  focus
    refine zB (zB (zA rfl (v0s (ve (True ∧ 0 < 2) (vF ((↑i : Int) < ↑(List.length R)) (zQ (zH (zH (zP rfl (zC (zD (zB (zB ?_)))))))))))))
    refine zA rfl (veT (zF ?_))
    rotate_left
  refine zW (fun (k : Nat) => fr 145 [(3, D.own 0 0), (10, iD (↑k + 1))]) (fun (k : Nat) => [rB (.row (V.map fun z => iD z) V.length) (.row (R.map rowV) R.length) (.row (W.map fun z => iD z) W.length)]) (fun k => R.length - k) (fun (k : Nat) => k ≤ R.length ∧ ∀ j, j ≤ k → j < R.length → zJc R j = true) 0 ?_ ?_ ?_
  · exact ⟨by omega, fun j h _ => by obtain rfl : j = 0 := by omega
                                     rfl⟩
  · refine vk 1
  clear h1 h2 h3 i
  rintro k ⟨h1, h2⟩
  rcases Nat.lt_or_ge (k + 1) R.length with h3 | h3
  · have hne : R.map rowV ≠ [] := zY (by omega)
    have hx := zAh R (k + 1) h3
    have hx0 := zAh R k (by omega)
    have hcs := chk_s hv hlm ha ho h3
    have hst : zJc R (k + 1) = decide (rcmp (R.getD k []) (R.getD (k + 1) []) < 0) := by simp [zJc]
    have hcm := zJ3 (R.getD k []) (R.getD (k + 1) []) _ _ rfl rfl (hl _ (zAt R [] k (by omega))) (hl _ (zAt R [] (k + 1) h3))
    generalize R.getD (k + 1) [] = r at *
    generalize R.getD k [] = r0 at *
    focus
      refine zB (zB (zA rfl (v0s (ve (True ∧ 0 < 2) (vT ((↑(k + 1) : Int) < ↑(List.length R)) (zG (zC (zD (zB (zF (zB (vd [0, 2, 3, 6, 8, 1, 4, 5, 7, 9, 10, 11, 12] (vr 3 (True ∧ i6 (↑(k + 1) - 1)) ?_)))))))))))))
      refine vs 135 (iD (↑(k + 1) - 1)) (iD ↑k) (by simp (disch := omega) only [zTy]) (vr 4 (True ∧ 0 < 2 ∧ ix ↑k ↑(List.length R) (List.map rowV R ≠ [])) (vp 136 k (List.map rowV R) (vr 1 (0 < List.length (List.drop k (List.map rowV R))) (vsh 137 hx0 (vr 2 (0 < 2 ∧ ix ↑(k + 1) ↑(List.length R) (List.map rowV R ≠ [])) (vp 141 (k + 1) (List.map rowV R) (vr 1 (0 < List.length (List.drop (k + 1) (List.map rowV R))) (vsh 142 hx (vc hcm (veT ?_))))))))))
      refine zR (t := !decide (rcmp r0 r < 0)) (by kernel_rfl) (fun hc => ?_) (fun hc => ?_)
      simp only [Bool.not_eq_true'] at hc
      refine zB (zA rfl (veT (zM (zN (zJ (zJ (zN (zJ ?_))))))))
      refine vre (True) (D.val (Value.int IntKind.i64 16)) (.inr rfl) ?_
      rotate_left
      simp only [Bool.not_eq_false'] at hc
      refine zG (zE (zC (zD (zA rfl (vr 3 (i6 (↑(k + 1) + 1)) (vnil (zC ?_)))))))
      rotate_left
    · rw [hcs (by rw [hst]; simpa using hc)]
    · refine ⟨k + 1, ⟨by omega, fun j hj hjl => ?_⟩, by omega, ?_⟩
      · rcases Nat.lt_or_ge j (k + 1) with h | h
        · exact h2 j (by omega) hjl
        · obtain rfl : j = k + 1 := by omega
          rw [hst]; simpa using hc
      · refine vk 1
  rw [chk_0 hv hlm ha ho (zF2 fun j hj => h2 j (by omega) hj)]
  focus
    refine zB (zB (zA rfl (v0s (ve (True ∧ 0 < 2) (vF ((↑k : Int) + (1 : Int) < (↑(List.length R) : Int)) (zQ (zH (zH (zP rfl (zC (zD (zB (zA rfl ?_)))))))))))))
    refine veT (zM (vret (True) (.inr rfl)))
end
section
open Go.RowKit
attribute [local irreducible] seqW awp zAf zAo zAg Weak updS zAw retL Pure Acts rP setP setQ cP nP fr
set_option maxRecDepth 4096
abbrev fcR (V : List Int) (R : List Rw) (W : List Nat) : D := .agg [.row (V.map fun z => iD z) V.length, .row (R.map rowV) R.length, .row (W.map natD) W.length]
set_option maxHeartbeats 4000000 in
theorem zXz (n : Int) (V : List Int) (R : List Rw) (W : List Nat) (hV : V.length ≤ 1000000) (hR : R.length ≤ 1000000) :
    Pure Tryd.prog 19 [iD n, fcR V R W] [] (iD (chk n V R W.length)) := by
  obtain ⟨m, hm⟩ : ∃ m, m = W.length := ⟨_, rfl⟩
  refine zL Tq_ok mixed Tryd.func19 rfl ?_
  focus
    refine zB (zA rfl (v0s (veT (zB (zB (zA rfl (ve (True ∧ 0 < 3) (zF ?_))))))))
    rotate_left
  refine zW (fun (i : Nat) => fr 94 [(0, iD n), (3, D.own 0 0), (13, D.row (List.map (fun (z : Int) => iD z) V) (List.length V)), (14, iD ↑(List.length V)), (15, iD ↑i)]) (fun (i : Nat) => [fB1 (.row (V.map fun z => iD z) V.length) (.row (R.map rowV) R.length) (.row (W.map natD) W.length)]) (fun i => V.length - i) (fun (i : Nat) => i ≤ V.length ∧ ∀ j, j < i → zEt n V j = true) 0 ?_ ?_ ?_
  · exact ⟨by omega, fun j h => by omega⟩
  · refine vk 1
  rintro i ⟨h1, h2⟩
  rcases Nat.lt_or_ge i V.length with h3 | h3
  · have hne : (V.map fun z => iD z) ≠ [] := zY (by omega)
    have hx := zCk V i h3
    by_cases hs : zEt n V i = true
    · have hs2 := hs
      simp only [zEt, Bool.and_eq_true, Bool.or_eq_true, decide_eq_true_eq] at hs2
      obtain ⟨s1, s2, s3⟩ := hs2
      rcases i with _ | k
      · rw [List.drop_zero] at hx
        focus
          refine zB (zA rfl (v0s (veT (zB (vT ((↑(0 : Nat) : Int) < ↑(List.length V)) (zG (zC (zD (zB (zF (zB (zA rfl (vr 3 (ix ↑(0 : Nat) ↑(List.length V) (List.map (fun (z : Int) => iD z) V ≠ []) ∧ 0 < List.length (List.map (fun (z : Int) => iD z) V)) ?_)))))))))))))
          refine vsh 19 hx (veT (zB (zA rfl (vew [] [(2, false), (7, false)] (decide (List.getD V 0 (0 : Int) < 0) = false ∧ decide (List.getD V 0 (0 : Int) ≥ n) = false) (vf (zG (zE (zC (zD (zA rfl (vr 2 (i6 (↑(0 : Nat) + 1)) (vnil (zC ?_))))))))) ⟨(by exact decide_eq_false (by omega)), (by exact decide_eq_false (by omega))⟩))))
          rotate_left
        refine ⟨1, ⟨by omega, fun j hj => ?_⟩, by omega, ?_⟩
        · obtain rfl : j = 0 := by omega
          exact hs
        · refine vk 1
      · have hx2 := zCk V k (by omega)
        have s4 : V.getD k 0 < V.getD (k + 1) 0 := by
          rcases s3 with h | h
          · omega
          · exact h
        focus
          refine zB (zA rfl (v0s (veT (zB (vT ((↑(k + 1) : Int) < ↑(List.length V)) (zG (zC (zD (zB (zF (zB (zA rfl (vr 2 (ix ↑(k + 1) ↑(List.length V) (List.map (fun (z : Int) => iD z) V ≠ [])) ?_)))))))))))))
          refine vp 18 (k + 1) (List.map (fun (z : Int) => iD z) V) (vr 1 (0 < List.length (List.drop (k + 1) (List.map (fun (z : Int) => iD z) V))) (vsh 19 hx (veT (zB (zA rfl (vw 15 [] [(2, false), (7, false), (10, true)] (decide (List.getD V (k + 1) (0 : Int) < 0) = false ∧ decide (List.getD V (k + 1) (0 : Int) ≥ n) = false ∧ decide ((↑(k + 1) : Int) > (0 : Int)) = true ∧ True ∧ 0 < 3 ∧ i6 (↑(k + 1) - 1)) (vs 34 (iD (↑(k + 1) - 1)) (iD ↑k) (by simp (disch := omega) only [zTy]) (vr 1 (ix ↑k ↑(List.length V) (List.map (fun (z : Int) => iD z) V ≠ [])) (vp 35 k (List.map (fun (z : Int) => iD z) V) (vr 1 (0 < List.length (List.drop k (List.map (fun (z : Int) => iD z) V))) (vsh 36 hx2 (veT (vF (List.getD V k (0 : Int) ≥ List.getD V (k + 1) (0 : Int)) ?_))))))) ⟨(by exact decide_eq_false (by omega)), (by exact decide_eq_false (by omega)), (by exact decide_eq_true (by omega)), trivial, (by omega), (by omega)⟩))))))
          refine zG (zE (zC (zD (zA rfl (vr 2 (i6 (↑(k + 1) + 1)) (vnil (zC ?_)))))))
          rotate_left
        refine ⟨k + 2, ⟨by omega, fun j hj => ?_⟩, by omega, ?_⟩
        · rcases Nat.lt_or_ge j (k + 1) with h | h
          · exact h2 j h
          · obtain rfl : j = k + 1 := by omega
            exact hs
        · refine vk 1
    · have hc3 : chk n V R W.length = 3 := chk_v h3 (by simpa using hs)
      rw [hc3]
      rcases i with _ | k
      · rw [List.drop_zero] at hx
        focus
          refine zB (zA rfl (v0s (veT (zB (vT ((↑(0 : Nat) : Int) < ↑(List.length V)) (zG (zC (zD (zB (zF (zB (zA rfl (vr 3 (ix ↑(0 : Nat) ↑(List.length V) (List.map (fun (z : Int) => iD z) V ≠ []) ∧ 0 < List.length (List.map (fun (z : Int) => iD z) V)) ?_)))))))))))))
          refine vsh 19 hx (veT (zB (zA rfl (vrT 3 ?_))))
          refine vsp 22 (decide (List.getD V 0 (0 : Int) < 0)) (fun hc => ?_) (fun hc => ?_)
          simp only [decide_eq_true_eq] at hc
          refine veT (vt (zB (zA rfl (veT (zM (zN (zJ (zJ (zN (zJ (vret (True) (.inr rfl))))))))))))
          simp only [decide_eq_false_iff_not] at hc
          refine vrT 5 ?_
          refine vsp 27 (decide (List.getD V 0 (0 : Int) ≥ n)) (fun hc => ?_) (fun hc => ?_)
          simp only [decide_eq_true_eq] at hc
          refine veT (vt (zB (zA rfl (veT (zM (zN (zJ (zJ (zN (zJ (vret (True) (.inr rfl))))))))))))
          simp only [decide_eq_false_iff_not] at hc
          refine veT (vf (zG (zE (zC (zD (zA rfl (vr 2 (i6 (↑(0 : Nat) + 1)) (vnil (zC ?_)))))))))
          rotate_left
        all_goals exact absurd (zJr (by omega) (by omega) (.inl rfl)) hs
      · have hx2 := zCk V k (by omega)
        focus
          refine zB (zA rfl (v0s (veT (zB (vT ((↑(k + 1) : Int) < ↑(List.length V)) (zG (zC (zD (zB (zF (zB (zA rfl (vr 2 (ix ↑(k + 1) ↑(List.length V) (List.map (fun (z : Int) => iD z) V ≠ [])) ?_)))))))))))))
          refine vp 18 (k + 1) (List.map (fun (z : Int) => iD z) V) (vr 1 (0 < List.length (List.drop (k + 1) (List.map (fun (z : Int) => iD z) V))) (vsh 19 hx (veT (zB (zA rfl (vrT 3 ?_))))))
          refine vsp 22 (decide (List.getD V (k + 1) (0 : Int) < 0)) (fun hc => ?_) (fun hc => ?_)
          simp only [decide_eq_true_eq] at hc
          refine veT (vt (zB (zA rfl (veT (zM (zN (zJ (zJ (zN (zJ (vret (True) (.inr rfl))))))))))))
          simp only [decide_eq_false_iff_not] at hc
          refine vrT 5 ?_
          refine vsp 27 (decide (List.getD V (k + 1) (0 : Int) ≥ n)) (fun hc => ?_) (fun hc => ?_)
          simp only [decide_eq_true_eq] at hc
          refine veT (vt (zB (zA rfl (veT (zM (zN (zJ (zJ (zN (zJ (vret (True) (.inr rfl))))))))))))
          simp only [decide_eq_false_iff_not] at hc
          refine vw 7 [] [(10, true)] (decide ((↑(k + 1) : Int) > (0 : Int)) = true ∧ True ∧ 0 < 3 ∧ i6 (↑(k + 1) - 1)) (vs 34 (iD (↑(k + 1) - 1)) (iD ↑k) (by simp (disch := omega) only [zTy]) (vr 1 (ix ↑k ↑(List.length V) (List.map (fun (z : Int) => iD z) V ≠ [])) (vp 35 k (List.map (fun (z : Int) => iD z) V) (vr 1 (0 < List.length (List.drop k (List.map (fun (z : Int) => iD z) V))) (vsh 36 hx2 (veT ?_))))))
          refine zR (t := decide (List.getD V k (0 : Int) ≥ List.getD V (k + 1) (0 : Int))) (by kernel_rfl) (fun hc => ?_) (fun hc => ?_)
          simp only [decide_eq_true_eq] at hc
          refine zB (zA rfl (veT (zM (zN (zJ (zJ (zN (zJ (vret (True) (.inr rfl))))))))))
          simp only [decide_eq_false_iff_not] at hc
          refine zG (zE (zC (zD (zA rfl (vr 2 (i6 (↑(k + 1) + 1)) (vnil (zC ?_)))))))
          rotate_left
        all_goals exact absurd (zJr (by omega) (by omega) (.inr (by simp only [Nat.add_sub_cancel]; omega))) hs
  have hv := zF2 (p := zEt n V) (n := V.length) fun j hj => h2 j (by omega)
  by_cases hlm : R.length = W.length
  case neg =>
    rw [chk_l hv hlm]
    focus
      refine zB (zA rfl (v0s (veT (zB (vF ((↑i : Int) < ↑(List.length V)) (zQ (zH (zH (zP rfl (zC (zD (zB (zB ?_)))))))))))))
      refine zA rfl (ve (True ∧ 0 < 2 ∧ True ∧ 0 < 1 ∧ True) (zEs (t := (↑(List.length R) : Int) != (↑(List.length W) : Int)) (by kernel_rfl) (by simpa using by omega) (zB (zA rfl (veT (zM (zJ (vret (True) (.inr rfl)))))))))
  focus
    refine zB (zA rfl (v0s (veT (zB (vF ((↑i : Int) < ↑(List.length V)) (zQ (zH (zH (zP rfl (zC (zD (zB (zB ?_)))))))))))))
    refine zA rfl (ve (True ∧ 0 < 2 ∧ True ∧ 0 < 1 ∧ True) (zFy (t := (↑(List.length R) : Int) != (↑(List.length W) : Int)) (by kernel_rfl) (by simpa using by omega) (zG (zC (zD (zB (zB (zA rfl (ve (True ∧ 0 < 2) (zF ?_))))))))))
    rotate_left
  refine zW (fun (i : Nat) => fr 94 [(3, D.own 0 0), (50, (q5_ R)), (51, iD ↑(List.length R)), (52, iD ↑i)]) (fun (i : Nat) => [fB1 (.row (V.map fun z => iD z) V.length) (.row (R.map rowV) R.length) (.row (W.map natD) W.length)]) (fun i => R.length - i) (fun (i : Nat) => i ≤ R.length ∧ ∀ j, j < i → j < R.length → decide ((R.getD j []).length = V.length) = true) 0 ?_ ?_ ?_
  · exact ⟨by omega, fun j h => by omega⟩
  · refine vk 1
  clear h1 h2 h3 i
  rintro i ⟨h1, h2⟩
  rcases Nat.lt_or_ge i R.length with h3 | h3
  · have hne : R.map rowV ≠ [] := zY (by omega)
    have hx := zAh R i h3
    have hca := chk_a hv hlm h3
    generalize hg : R.getD i [] = r at *
    focus
      refine zB (zA rfl (v0s (veT (zB (vT ((↑i : Int) < ↑(List.length R)) (zG (zC (zD (zB (zF (zB (zA rfl (vr 1 (ix ↑i ↑(List.length R) (List.map rowV R ≠ [])) ?_)))))))))))))
      refine vp 54 i (List.map rowV R) (vr 1 (0 < List.length (List.drop i (List.map rowV R))) (vsh 55 hx (veT (zB (zA rfl (ve (True ∧ 0 < 3 ∧ True) ?_))))))
      refine zR (t := (↑(List.length r) : Int) != (↑(List.length V) : Int)) (by kernel_rfl) (fun hc => ?_) (fun hc => ?_)
      simp only [bne_iff_ne] at hc
      refine zB (zA rfl (veT (zM (zN (zJ (zJ (zN (zJ ?_))))))))
      refine vre (True) (D.val (Value.int IntKind.i64 6)) (.inr rfl) ?_
      rotate_left
      simp only [bne_eq_false_iff_eq] at hc
      refine zG (zE (zC (zD (zA rfl (vr 2 (i6 (↑i + 1)) (vnil (zC ?_)))))))
      rotate_left
    · rw [hca (by omega)]
    · refine ⟨i + 1, ⟨by omega, fun j hj hjl => ?_⟩, by omega, ?_⟩
      · rcases Nat.lt_or_ge j i with h | h
        · exact h2 j h hjl
        · obtain rfl : j = i := by omega
          rw [hg]; exact decide_eq_true (by omega)
      · refine vk 1
  have ha := zFq (p := fun x : Rw => decide (x.length = V.length)) (d := []) h3 h2
  have hl : ∀ x ∈ R, x.length ≤ 1000000000 := fun x hx => by
    have := of_decide_eq_true (List.all_eq_true.1 ha x hx)
    omega
  focus
    refine zB (zA rfl (v0s (veT (zB (vF ((↑i : Int) < ↑(List.length R)) (zQ (zH (zH (zP rfl (zC (zD (zB (zB ?_)))))))))))))
    refine zA rfl (ve (True ∧ 0 < 2) (zF ?_))
    rotate_left
  refine zW (fun (i : Nat) => fr 94 [(3, D.own 0 0), (64, (q5_ R)), (65, iD ↑(List.length R)), (66, iD ↑i)]) (fun (i : Nat) => [fB1 (.row (V.map fun z => iD z) V.length) (.row (R.map rowV) R.length) (.row (W.map natD) W.length)]) (fun i => R.length - i) (fun (i : Nat) => i ≤ R.length ∧ ∀ j, j < i → j < R.length → (R.getD j []).all vok = true) 0 ?_ ?_ ?_
  · exact ⟨by omega, fun j h => by omega⟩
  · refine vk 1
  clear h1 h2 h3 i
  rintro i ⟨h1, h2⟩
  rcases Nat.lt_or_ge i R.length with h3 | h3
  · have hne : R.map rowV ≠ [] := zY (by omega)
    have hx := zAh R i h3
    have hco := chk_o hv hlm ha h3
    have hlr := hl _ (zAt R [] i h3)
    generalize hg : R.getD i [] = r at *
    focus
      refine zB (zA rfl (v0s (veT (zB (vT ((↑i : Int) < ↑(List.length R)) (zG (zC (zD (zB (zF (zB (zA rfl (vr 1 (ix ↑i ↑(List.length R) (List.map rowV R ≠ [])) ?_)))))))))))))
      refine vp 68 i (List.map rowV R) (vr 1 (0 < List.length (List.drop i (List.map rowV R))) (vsh 69 hx (veT (zB (zA rfl (vrT 1 (vc (zY6 r _ rfl (by omega)) (veT ?_))))))))
      refine zR (t := !List.all r vok) (by kernel_rfl) (fun hc => ?_) (fun hc => ?_)
      simp only [Bool.not_eq_true'] at hc
      refine zB (zA rfl (veT (zM (zN (zJ (zJ (zN (zJ ?_))))))))
      refine vre (True) (q10_) (.inr rfl) ?_
      rotate_left
      simp only [Bool.not_eq_false'] at hc
      refine zG (zE (zC (zD (zA rfl (vr 2 (i6 (↑i + 1)) (vnil (zC ?_)))))))
      rotate_left
    · rw [hco (by simpa using hc)]
    · refine ⟨i + 1, ⟨by omega, fun j hj hjl => ?_⟩, by omega, ?_⟩
      · rcases Nat.lt_or_ge j i with h | h
        · exact h2 j h hjl
        · obtain rfl : j = i := by omega
          rw [hg]; simpa using hc
      · refine vk 1
  have ho := zFq (p := fun x : Rw => x.all vok) (d := []) h3 h2
  focus
    refine zB (zA rfl (v0s (veT (zB (vF ((↑i : Int) < ↑(List.length R)) (zQ (zH (zH (zP rfl (zC (zD (zB (zB ?_)))))))))))))
    refine zA rfl (veT (zF ?_))
    rotate_left
  refine zW (fun (k : Nat) => fr 94 [(3, D.own 0 0), (11, iD (↑k + 1))]) (fun (k : Nat) => [fB1 (.row (V.map fun z => iD z) V.length) (.row (R.map rowV) R.length) (.row (W.map natD) W.length)]) (fun k => R.length - k) (fun (k : Nat) => k ≤ R.length ∧ ∀ j, j ≤ k → j < R.length → zJc R j = true) 0 ?_ ?_ ?_
  · exact ⟨by omega, fun j h _ => by obtain rfl : j = 0 := by omega
                                     rfl⟩
  · refine vk 1
  clear h1 h2 h3 i
  rintro k ⟨h1, h2⟩
  rcases Nat.lt_or_ge (k + 1) R.length with h3 | h3
  · have hne : R.map rowV ≠ [] := zY (by omega)
    have hx := zAh R (k + 1) h3
    have hx0 := zAh R k (by omega)
    have hcs := chk_s hv hlm ha ho h3
    have hst : zJc R (k + 1) = decide (rcmp (R.getD k []) (R.getD (k + 1) []) < 0) := by simp [zJc]
    have hcm := zLt (R.getD k []) (R.getD (k + 1) []) _ _ rfl rfl (hl _ (zAt R [] k (by omega))) (hl _ (zAt R [] (k + 1) h3))
    generalize R.getD (k + 1) [] = r at *
    generalize R.getD k [] = r0 at *
    focus
      refine zB (zB (zA rfl (v0s (ve (True ∧ 0 < 2) (vT ((↑(k + 1) : Int) < ↑(List.length R)) (zG (zC (zD (zB (zF (zB (vd [0, 2, 3, 6, 8, 1, 4, 5, 7, 9, 10, 11, 12] (vr 3 (True ∧ i6 (↑(k + 1) - 1)) ?_)))))))))))))
      refine vs 84 (iD (↑(k + 1) - 1)) (iD ↑k) (by simp (disch := omega) only [zTy]) (vr 4 (True ∧ 0 < 2 ∧ ix ↑k ↑(List.length R) (List.map rowV R ≠ [])) (vp 85 k (List.map rowV R) (vr 1 (0 < List.length (List.drop k (List.map rowV R))) (vsh 86 hx0 (vr 2 (0 < 2 ∧ ix ↑(k + 1) ↑(List.length R) (List.map rowV R ≠ [])) (vp 90 (k + 1) (List.map rowV R) (vr 1 (0 < List.length (List.drop (k + 1) (List.map rowV R))) (vsh 91 hx (vc hcm (veT ?_))))))))))
      refine zR (t := decide (rcmp r0 r ≥ (0 : Int))) (by kernel_rfl) (fun hc => ?_) (fun hc => ?_)
      simp only [decide_eq_true_eq] at hc
      refine zB (zA rfl (veT (zM (zN (zJ (zJ (zN (zJ ?_))))))))
      refine vre (True) (D.val (Value.int IntKind.i64 16)) (.inr rfl) ?_
      rotate_left
      simp only [decide_eq_false_iff_not] at hc
      refine zG (zE (zC (zD (zA rfl (vr 3 (i6 (↑(k + 1) + 1)) (vnil (zC ?_)))))))
      rotate_left
    · rw [hcs (by rw [hst]; exact decide_eq_false (by omega))]
    · refine ⟨k + 1, ⟨by omega, fun j hj hjl => ?_⟩, by omega, ?_⟩
      · rcases Nat.lt_or_ge j (k + 1) with h | h
        · exact h2 j (by omega) hjl
        · obtain rfl : j = k + 1 := by omega
          rw [hst]; exact decide_eq_true (by omega)
      · refine vk 1
  rw [chk_0 hv hlm ha ho (zF2 fun j hj => h2 j (by omega) hj)]
  focus
    refine zB (zB (zA rfl (v0s (ve (True ∧ 0 < 2) (vF ((↑k : Int) + (1 : Int) < (↑(List.length R) : Int)) (zQ (zH (zH (zP rfl (zC (zD (zB (zA rfl ?_)))))))))))))
    refine veT (zM (vret (True) (.inr rfl)))
end
end Go.Proofs.YtmfamhoopjeaiaaDoor

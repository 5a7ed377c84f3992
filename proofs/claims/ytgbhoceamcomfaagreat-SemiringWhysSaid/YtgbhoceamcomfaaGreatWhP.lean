/- Sets of sets as sorted lists: the plain law of why-provenance. No program. -/
import Derived.Lib.SlicesCompact
namespace Go.Proofs.YtgbhoceamcomfaaGreat
open Go.Proofs
set_option linter.unusedVariables false
set_option linter.unusedSimpArgs false
/-- a total order as a comparison -/
structure Cm {α : Type} (c : α → α → Int) : Prop where
  eq : ∀ a b, c a b = 0 ↔ a = b
  neg : ∀ a b, c b a = 0 - c a b
  tr : ∀ a b d, c a b < 0 → c b d < 0 → c a d < 0
def icmp (a b : Int) : Int := if a < b then -1 else if b < a then 1 else 0
theorem icmp_cm : Cm icmp := by
  refine ⟨fun a b => ?_, fun a b => ?_, fun a b d => ?_⟩ <;> unfold icmp <;> (repeat' split) <;> omega
def lcmp : List Int → List Int → Int
  | [], [] => 0
  | [], _ :: _ => -1
  | _ :: _, [] => 1
  | x :: a, y :: b => if x < y then -1 else if y < x then 1 else lcmp a b
theorem lcmp_eq : ∀ a b, lcmp a b = 0 ↔ a = b
  | [], [] => by simp [lcmp]
  | [], _ :: _ => by simp [lcmp]
  | _ :: _, [] => by simp [lcmp]
  | x :: a, y :: b => by
    have := lcmp_eq a b
    simp only [lcmp, List.cons.injEq]
    by_cases h1 : x < y
    · rw [if_pos h1]; constructor
      · intro h; cases h
      · rintro ⟨rfl, _⟩; omega
    · by_cases h2 : y < x
      · rw [if_neg h1, if_pos h2]; constructor
        · intro h; cases h
        · rintro ⟨rfl, _⟩; omega
      · rw [if_neg h1, if_neg h2, this]
        exact ⟨fun h => ⟨by omega, h⟩, fun h => h.2⟩
theorem lcmp_neg : ∀ a b, lcmp b a = 0 - lcmp a b
  | [], [] => by simp [lcmp]
  | [], _ :: _ => by simp [lcmp]
  | _ :: _, [] => by simp [lcmp]
  | x :: a, y :: b => by
    have := lcmp_neg a b
    simp only [lcmp]
    (repeat' split) <;> omega
theorem lcmp_range : ∀ a b, lcmp a b = -1 ∨ lcmp a b = 0 ∨ lcmp a b = 1
  | [], [] => by simp [lcmp]
  | [], _ :: _ => by simp [lcmp]
  | _ :: _, [] => by simp [lcmp]
  | x :: a, y :: b => by
    have := lcmp_range a b
    simp only [lcmp]
    (repeat' split) <;> simp_all
theorem lcmp_tr : ∀ a b d, lcmp a b < 0 → lcmp b d < 0 → lcmp a d < 0
  | [], [], d, h, k => by simp [lcmp] at h
  | _ :: _, [], d, h, k => by simp [lcmp] at h
  | _, _ :: _, [], h, k => by simp [lcmp] at k
  | [], y :: b, z :: d, h, k => by simp [lcmp]
  | x :: a, y :: b, z :: d, h, k => by
    have ih := lcmp_tr a b d
    simp only [lcmp] at h k ⊢
    by_cases h1 : x < y
    · by_cases h2 : y < z
      · rw [if_pos (by omega)]; omega
      · by_cases h3 : z < y
        · rw [if_neg h2, if_pos h3] at k; omega
        · rw [if_pos (by omega)]; omega
    · by_cases h4 : y < x
      · rw [if_neg h1, if_pos h4] at h; omega
      · rw [if_neg h1, if_neg h4] at h
        have e : x = y := by omega
        subst e
        by_cases h2 : x < z
        · rw [if_pos h2]; omega
        · by_cases h3 : z < x
          · rw [if_neg h2, if_pos h3] at k; omega
          · rw [if_neg h2, if_neg h3] at k ⊢
            exact ih h k
theorem lcmp_cm : Cm lcmp := ⟨lcmp_eq, lcmp_neg, lcmp_tr⟩
section
variable {α : Type} {c : α → α → Int}
/-- strictly ascending -/
def Asc (c : α → α → Int) (l : List α) : Prop := l.Pairwise fun a b => c a b < 0
def putG (c : α → α → Int) (x : α) : List α → Bool → List α
  | [], done => if done then [] else [x]
  | y :: l, done => (if !done && decide (0 ≤ c y x) then [x] else []) ++ (if c y x ≠ 0 then [y] else []) ++ putG c x l (done || decide (0 ≤ c y x))
def setG (c : α → α → Int) (l : List α) : List α := l.foldl (fun o x => putG c x o false) []
theorem putG_mem (hc : Cm c) (x z : α) : ∀ (l : List α) (done : Bool), z ∈ putG c x l done ↔ (done = false ∧ z = x) ∨ (z ∈ l ∧ z ≠ x)
  | [], done => by cases done <;> simp [putG]
  | y :: l, done => by
    simp only [putG, List.mem_append, putG_mem hc x z l, List.mem_cons]
    have e := hc.eq y x
    by_cases h : c y x = 0
    · have := e.1 h
      subst this
      by_cases hx : z = y <;> cases done <;> simp [h, hx]
    · have hyx : y ≠ x := fun h' => h (e.2 h')
      by_cases h0 : 0 ≤ c y x <;> cases done <;> simp [h, h0] <;> (constructor <;> intro hz) <;> (by_cases hx : z = x <;> by_cases hy : z = y <;> simp_all)
theorem putG_done (hc : Cm c) (x : α) : ∀ (l : List α), Asc c l → Asc c (putG c x l true)
  | [], h => by simp [putG, Asc]
  | y :: l, h => by
    unfold Asc at h
    rw [List.pairwise_cons] at h
    have ih := putG_done hc x l h.2
    simp only [putG, Bool.not_true, Bool.false_and, Bool.false_eq_true, if_false, List.nil_append, Bool.true_or]
    split
    · unfold Asc
      rw [List.singleton_append, List.pairwise_cons]
      refine ⟨fun z hz => ?_, ih⟩
      rw [putG_mem hc] at hz
      rcases hz with hz | hz
      · cases hz.1
      · exact h.1 z hz.1
    · exact ih
theorem putG_asc (hc : Cm c) (x : α) : ∀ (l : List α), Asc c l → Asc c (putG c x l false)
  | [], h => by simp [putG, Asc]
  | y :: l, h => by
    unfold Asc at h
    rw [List.pairwise_cons] at h
    by_cases h0 : 0 ≤ c y x
    · have hd := putG_done hc x l h.2
      simp only [putG, h0, decide_true, Bool.not_false, Bool.and_self, if_true, Bool.or_true]
      have hxl : ∀ z ∈ l, c x z < 0 := by
        intro z hz
        have := h.1 z hz
        by_cases he : c y x = 0
        · rw [(hc.eq y x).1 he] at this; exact this
        · exact hc.tr x y z (by have := hc.neg y x; omega) this
      have hx2 : ∀ z ∈ putG c x l true, z ∈ l := by
        intro z hz
        rw [putG_mem hc] at hz
        rcases hz with hz | hz
        · cases hz.1
        · exact hz.1
      unfold Asc
      split
      · rename_i hne
        simp only [List.cons_append, List.nil_append, List.pairwise_cons, List.mem_cons]
        refine ⟨fun z hz => ?_, fun z hz => h.1 z (hx2 z hz), hd⟩
        rcases hz with rfl | hz
        · have := hc.neg z x; omega
        · exact hxl z (hx2 z hz)
      · simp only [List.cons_append, List.nil_append, List.pairwise_cons]
        exact ⟨fun z hz => hxl z (hx2 z hz), hd⟩
    · have ih := putG_asc hc x l h.2
      have hne : c y x ≠ 0 := by omega
      simp only [putG, h0, decide_false, Bool.and_false, Bool.false_eq_true, if_false, List.nil_append, hne, ne_eq, not_false_eq_true, if_true, Bool.or_false]
      unfold Asc
      rw [List.singleton_append, List.pairwise_cons]
      refine ⟨fun z hz => ?_, ih⟩
      rw [putG_mem hc] at hz
      rcases hz with hz | hz
      · rw [hz.2]; omega
      · exact h.1 z hz.1
theorem setG_foldl (hc : Cm c) (z : α) : ∀ (l o : List α), Asc c o → Asc c (l.foldl (fun o x => putG c x o false) o) ∧ (z ∈ l.foldl (fun o x => putG c x o false) o ↔ z ∈ l ∨ z ∈ o)
  | [], o, h => by simp [h]
  | x :: l, o, h => by
    have := setG_foldl hc z l (putG c x o false) (putG_asc hc x o h)
    rw [List.foldl_cons]
    refine ⟨this.1, ?_⟩
    rw [this.2, putG_mem hc, List.mem_cons]
    constructor
    · rintro (h | ⟨_, h⟩ | h)
      · exact .inl (.inr h)
      · exact .inl (.inl h)
      · exact .inr h.1
    · rintro ((h | h) | h)
      · exact .inr (.inl ⟨rfl, h⟩)
      · exact .inl h
      · by_cases hx : z = x
        · exact .inr (.inl ⟨rfl, hx⟩)
        · exact .inr (.inr ⟨h, hx⟩)
theorem setG_asc (hc : Cm c) (l : List α) : Asc c (setG c l) := by
  cases l with
  | nil => exact List.Pairwise.nil
  | cons x l => exact (setG_foldl hc x (x :: l) [] List.Pairwise.nil).1
theorem setG_mem (hc : Cm c) (l : List α) (z : α) : z ∈ setG c l ↔ z ∈ l := by
  have := (setG_foldl hc z l [] List.Pairwise.nil).2
  simpa [setG] using this
/-- ascending lists with the same elements are the same -/
theorem asc_ext (hc : Cm c) : ∀ {l m : List α}, Asc c l → Asc c m → (∀ z, z ∈ l ↔ z ∈ m) → l = m
  | [], [], _, _, _ => rfl
  | [], y :: m, _, _, h => by have := (h y).2 (List.mem_cons_self ..); cases this
  | x :: l, [], _, _, h => by have := (h x).1 (List.mem_cons_self ..); cases this
  | x :: l, y :: m, hl, hm, h => by
    unfold Asc at hl hm
    rw [List.pairwise_cons] at hl hm
    have irr : ∀ a, ¬ c a a < 0 := fun a => by have := (hc.eq a a).2 rfl; omega
    have e : x = y := by
      have h1 := (h x).1 (List.mem_cons_self ..)
      have h2 := (h y).2 (List.mem_cons_self ..)
      rcases List.mem_cons.1 h1 with h1 | h1
      · exact h1
      · rcases List.mem_cons.1 h2 with h2 | h2
        · exact h2.symm
        · exact absurd (hc.tr _ _ _ (hl.1 y h2) (hm.1 x h1)) (irr x)
    subst e
    congr 1
    refine asc_ext hc hl.2 hm.2 fun z => ?_
    have := h z
    rw [List.mem_cons, List.mem_cons] at this
    constructor
    · intro hz
      rcases this.1 (.inr hz) with e | e
      · subst e; exact absurd (hl.1 z hz) (irr z)
      · exact e
    · intro hz
      rcases this.2 (.inr hz) with e | e
      · subst e; exact absurd (hm.1 z hz) (irr z)
      · exact e
theorem setG_of_asc (hc : Cm c) {l : List α} (h : Asc c l) : setG c l = l := asc_ext hc (setG_asc hc l) h fun z => setG_mem hc l z
theorem setG_congr (hc : Cm c) {l m : List α} (h : ∀ z, z ∈ l ↔ z ∈ m) : setG c l = setG c m := asc_ext hc (setG_asc hc l) (setG_asc hc m) fun z => by rw [setG_mem hc, setG_mem hc, h]
/-- neighbours that differ -/
def dedG [DecidableEq α] (p : α) : List α → List α
  | [] => []
  | x :: l => if x = p then dedG p l else x :: dedG x l
def ddG [DecidableEq α] : List α → List α
  | [] => []
  | x :: l => x :: dedG x l
theorem dedG_spec [DecidableEq α] (hc : Cm c) : ∀ (l : List α) (p : α), (p :: l).Pairwise (fun a b => ¬ c b a < 0) → Asc c (p :: dedG p l) ∧ ∀ z, z ∈ p :: dedG p l ↔ z ∈ p :: l
  | [], p, h => by simp [dedG, Asc]
  | x :: l, p, h => by
    rw [List.pairwise_cons] at h
    have hpx := h.1 x (List.mem_cons_self ..)
    have ih := dedG_spec hc l x h.2
    unfold dedG
    split
    · rename_i e
      subst e
      refine ⟨ih.1, fun z => ?_⟩
      rw [ih.2]; simp
    · rename_i hne
      have hlt : c p x < 0 := by
        have h1 := hc.neg p x
        have h2 : c p x ≠ 0 := fun h => hne ((hc.eq p x).1 h).symm
        omega
      refine ⟨?_, fun z => by rw [List.mem_cons, ih.2, List.mem_cons (a := z) (b := p)]⟩
      unfold Asc
      rw [List.pairwise_cons]
      refine ⟨fun z hz => ?_, ih.1⟩
      rcases List.mem_cons.1 hz with rfl | hz
      · exact hlt
      · have := ih.1
        unfold Asc at this
        rw [List.pairwise_cons] at this
        exact hc.tr _ _ _ hlt (this.1 z hz)
theorem ddG_sorted [DecidableEq α] (hc : Cm c) {l : List α} (h : l.Pairwise (fun a b => ¬ c b a < 0)) : ddG l = setG c l := by
  cases l with
  | nil => rfl
  | cons x l =>
    have := dedG_spec hc l x h
    exact asc_ext hc this.1 (setG_asc hc _) fun z => by rw [setG_mem hc]; exact this.2 z
end
/-- Go's Compact -/
theorem compact_cons (x : Int) (l : List Int) : Lib.compact (x :: l) = x :: dedG x l := by
  have key : ∀ (l : List Int) (x : Int), Lib.compact (x :: l) = x :: dedG x l := by
    intro l
    induction l with
    | nil => intro x; simp [Lib.compact, Lib.compactUpTo, dedG, List.range_succ, Lib.keeps]
    | cons y l ih =>
      intro x
      have h1 : Lib.compact (x :: y :: l) = x :: (if y = x then (Lib.compact (y :: l)).tail else Lib.compact (y :: l)) := by
        simp only [Lib.compact, Lib.compactUpTo, List.length_cons]
        rw [List.range_succ_eq_map, List.filter_cons]
        have hk0 : Lib.keeps (x :: y :: l).toArray 0 = true := by simp [Lib.keeps]
        rw [if_pos hk0, List.map_cons, List.filter_map, List.map_map]
        congr 1
        have hfun : ((fun x_1 => (x :: y :: l).toArray[x_1]!) ∘ Nat.succ) = fun i => (y :: l).toArray[i]! := by funext i; simp
        rw [hfun]
        rw [List.range_succ_eq_map]
        simp only [List.filter_cons, List.filter_map, List.map_cons, List.map_map]
        have hk1 : (Lib.keeps (x :: y :: l).toArray ∘ Nat.succ) 0 = decide (y ≠ x) := by
          simp [Lib.keeps]
        have hk2 : Lib.keeps (y :: l).toArray 0 = true := by simp [Lib.keeps]
        have hk3 : ((Lib.keeps (x :: y :: l).toArray ∘ Nat.succ) ∘ Nat.succ) = (Lib.keeps (y :: l).toArray ∘ Nat.succ) := by
          funext i; simp [Lib.keeps]
        rw [hk1, hk2, hk3]
        by_cases hyx : y = x <;> simp [hyx]
      rw [h1, ih y]
      simp only [dedG, List.tail_cons]
      split
      · rename_i e; rw [e]
      · rfl
  exact key l x
theorem compact_dd (l : List Int) : Lib.compact l = ddG l := by
  cases l with
  | nil => rfl
  | cons x l => exact compact_cons x l
/-- a set of sets, as it is normalized -/
def wset (w : List (List Int)) : List (List Int) := setG lcmp (w.map (setG icmp))
theorem wset_asc (w : List (List Int)) : Asc lcmp (wset w) := setG_asc lcmp_cm _
theorem wset_sets (w : List (List Int)) : ∀ s ∈ wset w, setG icmp s = s := fun s hs => by
  rw [wset, setG_mem lcmp_cm, List.mem_map] at hs
  obtain ⟨t, _, rfl⟩ := hs
  exact setG_of_asc icmp_cm (setG_asc icmp_cm t)
theorem map_sets (w : List (List Int)) : (wset w).map (setG icmp) = wset w := by
  rw [List.map_congr_left (wset_sets w), List.map_id']
theorem wset_either (a b : List (List Int)) : wset (wset a ++ wset b) = wset (a ++ b) := by
  have h1 : wset (wset a ++ wset b) = setG lcmp (wset a ++ wset b) := by
    conv => lhs; unfold wset
    rw [List.map_append]
    show setG lcmp ((wset a).map (setG icmp) ++ (wset b).map (setG icmp)) = _
    rw [map_sets, map_sets]
  rw [h1]
  have h2 : wset (a ++ b) = setG lcmp (a.map (setG icmp) ++ b.map (setG icmp)) := by rw [wset, List.map_append]
  rw [h2]
  refine setG_congr lcmp_cm fun z => ?_
  rw [List.mem_append, List.mem_append, wset, wset, setG_mem lcmp_cm, setG_mem lcmp_cm]
theorem wset_idem (a : List (List Int)) : wset (wset a) = wset a := by
  rw [wset, map_sets]; exact setG_of_asc lcmp_cm (wset_asc a)
/-- lists of lists, one by one -/
def sameL : List (List Int) → List (List Int) → Bool
  | [], [] => true
  | x :: a, y :: b => lcmp x y == 0 && sameL a b
  | _, _ => false
theorem sameL_eq : ∀ a b, sameL a b = decide (a = b)
  | [], [] => by simp [sameL]
  | [], _ :: _ => by simp [sameL]
  | _ :: _, [] => by simp [sameL]
  | x :: a, y :: b => by
    rw [sameL, sameL_eq a b]
    have := lcmp_eq x y
    by_cases h : x = y
    · subst h; simp [(lcmp_eq x x).2 rfl]
    · have h2 : lcmp x y ≠ 0 := fun h3 => h (this.1 h3)
      simp [h, h2]
/-- all unions -/
def prodL (a b : List (List Int)) : List (List Int) := a.flatMap fun x => b.map fun y => x ++ y
end Go.Proofs.YtgbhoceamcomfaaGreat

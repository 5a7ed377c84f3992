/- Rows of digits that came in, as data. -/
import Derived.Test.YtgbhoceamcomfaaGreatRe
import Derived.Test.YtgbhoceamcomfaaGreatDp
namespace Go.Proofs.YtgbhoceamcomfaaGreat
open Go.RowKit
set_option linter.unusedVariables false
set_option linter.unusedSimpArgs false
section
variable {P : Program} {n : Nat} {t : TypeId}
theorem in_digits {e : TypeId} (hu : P.underlying t = some (.slice e)) (he : P.underlying e = some (.int .u32)) {ds : List D} (h : Shp P n t ds) : ∃ l : List Nat, ds = [digR l] ∧ Digs l := by
  obtain ⟨m, ls, rfl, h1, _⟩ := shp_slice hu h
  obtain ⟨bs, h2, h3, h4⟩ := lift_rows (g := dig) (Q := fun x => x < 4294967296) fun x hx => by
    obtain ⟨z, rfl, h5⟩ := shp_int he (h1 x hx)
    simp only [inK] at h5
    exact ⟨z.toNat, by show _ = [D.val (.int .u32 ((z.toNat : Nat) : Int))]; rw [show ((z.toNat : Nat) : Int) = z by omega], by omega⟩
  refine ⟨bs, by rw [h2, ← h3], fun i => ?_⟩
  rw [List.getD_eq_getElem?_getD]
  cases hi : bs[i]? with
  | none => simp
  | some x => simpa using h4 x (List.mem_of_getElem? hi)
theorem in_nats {e e' : TypeId} (hu : P.underlying t = some (.slice e)) (he : P.underlying e = some (.slice e')) (he' : P.underlying e' = some (.int .u32)) {ds : List D} (h : Shp P n t ds) : ∃ l : List (List Nat), ds = [.row (l.map digR) l.length] ∧ ∀ s ∈ l, Digs s := by
  obtain ⟨m, ls, rfl, h1, _⟩ := shp_slice hu h
  obtain ⟨bs, h2, h3, h4⟩ := lift_rows (g := digR) (Q := fun s => Digs s) fun x hx => in_digits he he' (h1 x hx)
  exact ⟨bs, by rw [h2, ← h3], h4⟩
end
end Go.Proofs.YtgbhoceamcomfaaGreat

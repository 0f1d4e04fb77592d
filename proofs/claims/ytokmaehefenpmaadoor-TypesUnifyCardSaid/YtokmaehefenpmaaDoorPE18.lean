/- TypesSolves: the law function answers true. -/
import Derived.Test.YtokmaehefenpmaaDoorPE15
import Derived.Test.YtokmaehefenpmaaDoorPE17
import Derived.Test.YtokmaehefenpmaaDoorPE1
namespace Go.Proofs.YtokmaehefenpmaaDoor
open Go.RowKit Go.ChangeMaps Go.Proofs.YtokmaehefenpmaaDoor.Nm
set_option linter.unusedSimpArgs false
theorem unify_run (es : Eqs) : ∃ k r, OpenE es → Steps k es (start (mOf es)) r := by
  by_cases h : OpenE es
  · obtain ⟨k, r, hs⟩ := steps_end _ _ es (start (mOf es)) (start_good _) (fine_open h) (Nat.le_refl _) (Nat.le_refl _)
    exact ⟨k, r, fun _ => hs⟩
  · exact ⟨0, .ok [], fun h2 => absurd h2 h⟩
/-- What Unify hands back, in one form. -/
def USay (es : Eqs) (r : Except Int (List Ty)) (A : Option Addr) (l c : Nat) (err : Int) (w w' : World) : Prop := Below w.heap.size w w' ∧ ((¬ OpenE es ∧ A = none ∧ l = 0 ∧ c = 0 ∧ err = 30) ∨ (OpenE es ∧ r = .error err ∧ A = none ∧ l = 0 ∧ c = 0) ∨ (OpenE es ∧ err = 0 ∧ ∃ s, r = .ok s ∧ TysAt w' (fun b => w.heap.size ≤ b) s A l c))
theorem UPost.say {w w' : World} {es : Eqs} {r : Except Int (List Ty)} {e : Ending} (h : UPost w es r e w') : ∃ A l c err, e = .returned (.tuple #[.slice A l c, .int .i64 err]) ∧ USay es r A l c err w w' := by
  obtain ⟨hb, ⟨ho, he⟩ | ⟨ho, hr⟩⟩ := h
  · exact ⟨none, 0, 0, 30, he, hb, .inl ⟨ho, rfl, rfl, rfl, rfl⟩⟩
  · cases r with
    | error c => exact ⟨none, 0, 0, c, hr, hb, .inr (.inl ⟨ho, rfl, rfl, rfl, rfl⟩)⟩
    | ok s =>
      obtain ⟨A, l, c, he, ht⟩ := hr
      exact ⟨A, l, c, 0, he, hb, .inr (.inr ⟨ho, rfl, s, rfl, ht⟩)⟩
end Go.Proofs.YtokmaehefenpmaaDoor

/- Words for memory: slices of slices of integers. -/
import Derived.Test.YtmbmejclnagffaaDoorM1
set_option linter.unusedSimpArgs false
set_option linter.unusedVariables false
set_option maxRecDepth 100000
namespace Go.Proofs.YtmbmejclnagffaaDoor
open Go.RowKit
/-- the slice over A holds lists of integers -/
def ListsAt (w : World) (A : Option Addr) (ll : List (List Int)) : Prop :=
  ∀ i, i < ll.length → ∃ b off Ai ci, A = some ⟨b, off, none⟩ ∧ b < w.heap.size ∧ w.cell? ⟨b, off + i, none⟩ = some (.slice Ai (ll.getD i []).length ci) ∧ (ll.getD i []).length ≤ ci ∧ IntsAt w Ai .i64 (ll.getD i [])
theorem ListsAt.below {w w' : World} {A : Option Addr} {ll : List (List Int)} (h : ListsAt w A ll) (hb : Below w.heap.size w w') : ListsAt w' A ll := fun i hi => by
  obtain ⟨b, off, Ai, ci, e, hlt, hc, hcap, hi'⟩ := h i hi
  exact ⟨b, off, Ai, ci, e, by have := hb.size; omega, (hb.cell (p := ⟨b, off + i, none⟩) hlt).trans hc, hcap, hi'.below hb⟩
end Go.Proofs.YtmbmejclnagffaaDoor

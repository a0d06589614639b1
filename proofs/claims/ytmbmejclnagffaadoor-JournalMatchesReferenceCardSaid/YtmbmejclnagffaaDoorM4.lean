/- Plain laws of the digest: a step loses nothing. -/
import Derived.Laws.BitsAllLaws
import Derived.Test.YtmbmejclnagffaaDoorM3
set_option linter.unusedSimpArgs false
set_option linter.unusedVariables false
set_option maxRecDepth 100000
namespace Go.Proofs.YtmbmejclnagffaaDoor
open Go.RowKit
theorem stepB_in (d b : Int) : 0 ≤ stepB d b ∧ stepB d b ≤ 18446744073709551615 := by
  unfold stepB; rw [IntKind.wrap_u64]; omega
theorem sumB_in (d : Int) (h : 0 ≤ d ∧ d ≤ 18446744073709551615) (l : List Int) : 0 ≤ sumB d l ∧ sumB d l ≤ 18446744073709551615 := by
  induction l generalizing d with
  | nil => exact h
  | cons x r ih => exact ih (stepB d x) (stepB_in d x)
theorem sumB_append (d : Int) (l m : List Int) : sumB d (l ++ m) = sumB (sumB d l) m := by simp [sumB]
end Go.Proofs.YtmbmejclnagffaaDoor

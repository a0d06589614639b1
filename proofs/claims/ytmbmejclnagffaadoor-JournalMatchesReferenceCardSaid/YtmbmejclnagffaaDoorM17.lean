/- Contracts of the reference of sign. -/
import Derived.Test.YtmbmejclnagffaaDoorM16
set_option linter.unusedSimpArgs false
set_option linter.unusedVariables false
set_option maxRecDepth 100000
namespace Go.Proofs.YtmbmejclnagffaaDoor
open Go.RowKit
theorem rSecret_any (n : Int) (w : World) : Calls Tryd.prog 29 #[.int .i64 n] w fun e w' => e = .returned (.bool (wthB n 1)) ∧ w = w' := by
  by_cases h1 : 1 ≤ n
  · by_cases h2 : n < 1073741789
    · have e : wthB n 1 = true := wthB_iff.2 ⟨h1, h2⟩
      rw [e]; clear e
      go_enter Tryd.func29, Tryd.ntmps29
      go_wp2_with fail
      go_ret
      exact ⟨rfl, rfl⟩
    · have e : wthB n 1 = false := by simp [wthB, h2]
      have h2' : decide (n < 1073741789) = false := by simpa using h2
      rw [e]; clear e
      go_enter Tryd.func29, Tryd.ntmps29
      go_wp2_with fail
      go_ret
      exact ⟨rfl, rfl⟩
  · have e : wthB n 1 = false := by simp [wthB, h1]
    have h1' : decide (1 ≤ n) = false := by simpa using h1
    rw [e]; clear e
    go_enter Tryd.func29, Tryd.ntmps29
    go_wp2_with fail
    go_ret
    exact ⟨rfl, rfl⟩
end Go.Proofs.YtmbmejclnagffaaDoor

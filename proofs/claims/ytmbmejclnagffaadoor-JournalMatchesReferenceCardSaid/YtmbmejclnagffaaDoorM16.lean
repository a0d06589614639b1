/- Plain facts on signatures: what was signed is right; elements. -/
import Derived.Test.YtmbmejclnagffaaDoorM14
import Derived.Test.YtmbmejclnagffaaDoorM15
set_option linter.unusedSimpArgs false
set_option linter.unusedVariables false
set_option maxRecDepth 100000
namespace Go.Proofs.YtmbmejclnagffaaDoor
open Go.RowKit
theorem right_law (s o : Nat) (l : List Int) : rightB (pw 4 s PP) (sigE s o l) (sigS s o l) l = true := by
  rw [rightB, backN, sigS, back_right s o _ (sigE_lt s o l), beq_iff_eq]; rfl
theorem pw45 : pw 4 5 PP = 1024 := by decide
theorem mem1024 : memZ ((1024 : Nat) : Int) = true := by rw [← pw45]; exact memZ_pw
theorem wth_sig {s o : Nat} {l : List Int} : wthB (sigE s o l) 0 = true ∧ wthB (sigS s o l) 0 = true := by
  have h1 := sigE_lt s o l
  have h2 := sigS_lt s o l
  have : QQ = 1073741789 := rfl
  exact ⟨wthB_iff.2 (by omega), wthB_iff.2 (by omega)⟩
end Go.Proofs.YtmbmejclnagffaaDoor

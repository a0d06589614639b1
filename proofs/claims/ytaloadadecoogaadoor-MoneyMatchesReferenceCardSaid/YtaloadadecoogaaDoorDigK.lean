/- Contracts: digest.Next in another spelling; the reference's Sum. -/
import Derived.Test.YtaloadadecoogaaDoorDigN
namespace Go.Proofs.YtaloadadecoogaaDoor
set_option linter.unusedSimpArgs false
set_option linter.unusedVariables false
set_option maxRecDepth 100000
open Go.RowKit

theorem infoI64 : (Tryd.prog.info? 3).map (fun i => (i.zero, i.size, i.bytes)) = some (some (.int .i64 0), 1, 8) := by kernel_rfl
theorem infoU8 : (Tryd.prog.info? 5).map (fun i => (i.zero, i.size, i.bytes)) = some (some (.int .u8 0), 1, 1) := by kernel_rfl
theorem fit_cons {x : Int} {l : List Int} (hx : -9223372036854775808 ≤ x ∧ x ≤ 9223372036854775807) (h : Fit l) : Fit (x :: l) := fun y hy => by
  rcases List.mem_cons.1 hy with rfl | h1
  · exact hx
  · exact h y h1

end Go.Proofs.YtaloadadecoogaaDoor

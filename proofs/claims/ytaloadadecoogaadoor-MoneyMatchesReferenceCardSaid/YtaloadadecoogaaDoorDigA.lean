/- Contracts of package digest: run, its two closures, Sum. -/
import Derived.Test.YtaloadadecoogaaDoorMem
namespace Go.Proofs.YtaloadadecoogaaDoor
set_option linter.unusedSimpArgs false
set_option linter.unusedVariables false
set_option maxRecDepth 100000
open Go.RowKit

/-- one step of the digest -/
def stepB (d b : Int) : Int := IntKind.u64.wrap (bits .xor .u64 d b * 1099511628211)
def sumB (d : Int) (l : List Int) : Int := l.foldl stepB d
theorem sumB_take_succ (d : Int) (l : List Int) (k : Nat) (h : k < l.length) : sumB d (l.take (k + 1)) = stepB (sumB d (l.take k)) (l.getD k 0) := by
  rw [List.take_succ_eq_append_getElem h, sumB, List.foldl_append]; simp [sumB, List.getD_eq_getElem?_getD, h]

end Go.Proofs.YtaloadadecoogaaDoor

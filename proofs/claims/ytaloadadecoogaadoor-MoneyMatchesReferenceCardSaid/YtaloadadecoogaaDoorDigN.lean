/- Contracts of package digest: Next, Chain. -/
import Derived.Test.YtaloadadecoogaaDoorDigT
import Derived.Test.YtaloadadecoogaaDoorShelf
import Derived.Lib.AppendIntMem
import Derived.Lib.OthersKept
namespace Go.Proofs.YtaloadadecoogaaDoor
set_option linter.unusedSimpArgs false
set_option linter.unusedVariables false
set_option maxRecDepth 100000
open Go.RowKit

/-- the library's table reads as its initialiser lays it -/
def Tab (w : World) : Prop := Lib.TabIs Tryd.prog w "internal/strconv.uint64pow10" .u64 Lib.pow10Tab
theorem Tab.below {w w' : World} (h : Tab w) (hb : Below w.heap.size w w') : Tab w' := Lib.tabBelow_of_tabIs h w' hb
theorem blk_grown {w w' : World} {g b : Nat} {o : Obj} (h : w.grownBy w' (some g)) (hb : w.heap[b]? = some o) (hne : b ≠ g) : w'.heap[b]? = some o := by
  rw [h.block b (lt_of_block hb) (by simpa using hne)]; exact hb
theorem blk_below {w w' : World} {b : Nat} {o : Obj} (h : Below w.heap.size w w') (hb : w.heap[b]? = some o) : w'.heap[b]? = some o := by
  rw [h.block b (lt_of_block hb)]; exact hb
theorem blk_alloc {w : World} {b : Nat} {o : Obj} (hb : w.heap[b]? = some o) (x : Obj) : (w.alloc x).heap[b]? = some o := by
  rw [Below.heap_alloc w x b (lt_of_block hb)]; exact hb
end Go.Proofs.YtaloadadecoogaaDoor

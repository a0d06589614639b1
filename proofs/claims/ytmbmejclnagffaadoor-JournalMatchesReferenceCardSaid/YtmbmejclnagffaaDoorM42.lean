/- The listed variable journal.counts, out of the rows' condition. -/
import Derived.Lib.SmallJoins
import Derived.Test.YtmbmejclnagffaaDoorM8
import Derived.Test.YtmbmejclnagffaaDoorM40
import Derived.Test.YtmbmejclnagffaaDoorM41
set_option linter.unusedSimpArgs false
set_option linter.unusedVariables false
set_option maxRecDepth 100000
namespace Go.Proofs.YtmbmejclnagffaaDoor
open Go.RowKit
section
open Go.RowKit Go.ChangeShapes Go.WideShapes Go.ChangeAt
/-- the tables of both packages -/
def JTab (w : World) : Prop := Tab w ∧ Cnt w
end
section
open Go.ChangeShapes Go.WideShapes Go.ChangeAt Go.RowKit
theorem cnt_of_laid {W : World} (h : laidMetH Tryd.prog seatLaid W) : Cnt W := by
  rw [MakeChecks.laidMetH_plain _ _ _ (by kernel_rfl)] at h
  have h2 : laidMet Tryd.prog (("innkeeper/journal.counts", Lib.tabData .i64 cntL) :: []) W := h.tail.tail.tail
  exact Lib.tabIs_of_head (g := 0) (t := 89) (e := 3) (n := 10) (by kernel_rfl) (by kernel_rfl) Tryd.underlying89 Tryd.underlying3 (by kernel_rfl) (by kernel_rfl) h2
theorem jtab_of_laid {W : World} (h : laidMetH Tryd.prog seatLaid W) : JTab W := ⟨tab_of_laid h, cnt_of_laid h⟩
end
end Go.Proofs.YtmbmejclnagffaaDoor

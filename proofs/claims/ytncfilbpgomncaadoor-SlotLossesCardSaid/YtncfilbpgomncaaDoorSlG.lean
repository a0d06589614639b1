/- Write where it may, and where its lists lie. -/
import Derived.Test.YtncfilbpgomncaaDoorSlF0
import Derived.Test.YtncfilbpgomncaaDoorSlF1
import Derived.Test.YtncfilbpgomncaaDoorSlF2
import Derived.Test.YtncfilbpgomncaaDoorSlO
namespace Go.Proofs.YtncfilbpgomncaaDoor
set_option linter.unusedSimpArgs false
set_option linter.unusedVariables false
set_option maxRecDepth 100000
open Go.RowKit

theorem write2_ok (x y : Slt) (c at_ : Int) (A : Option Addr) (n p : Nat) (B : Option Addr) (m q : Nat) (D : Option Addr) (k r : Nat) (l : List Int) (hlk : l.length = k) (w : World) (hx : SlotIs w A n x) (hy : SlotIs w B m y) (hc : -9223372036854775808 ≤ c ∧ c ≤ 9223372036854775807) (hl : IntsAt w D .i64 l) (hf : Fit l) (ht : Tab w) (e : wrE x y c l at_ = 0) :
    Calls Tryd.prog 39 #[.agg #[.int .i64 x.s, .int .i64 x.c, .slice A n p, .int .u64 x.u, .int .i64 y.s, .int .i64 y.c, .slice B m q, .int .u64 y.u], .int .i64 c, .slice D k r, .int .i64 at_] w (SlotsErr2 A x.l B y.l (wr0 x y c l at_) (wr1 x y c l at_) 0 w) := by
  obtain ⟨hF, ht0, ha, hl5⟩ := wr_props e
  have h3 : at_ = 0 ∨ at_ = 1 ∨ at_ = 2 ∨ at_ = 3 := by omega
  cases hE : bestB x y with
  | false => exact write2_none x y c at_ A n p B m q D k r l hlk w hx hy hc hl (by omega) hf ht hF hE h3 (by omega) (by omega) e
  | true =>
    rcases bestI_01 x y with hI | hI
    · have et : topS x y = x.s := by simp [topS, hE, hI]
      rw [et] at ht0
      exact write2_b0 x y c at_ A n p B m q D k r l hlk w hx hy hc hl (by omega) hf ht hF hE hI h3 ht0 (ok_s (best_ok0 hE hI)) e
    · have et : topS x y = y.s := by simp [topS, hE, hI]
      rw [et] at ht0
      exact write2_b1 x y c at_ A n p B m q D k r l hlk w hx hy hc hl (by omega) hf ht hF hE hI h3 ht0 (ok_s (best_ok1 hI)) e
end Go.Proofs.YtncfilbpgomncaaDoor

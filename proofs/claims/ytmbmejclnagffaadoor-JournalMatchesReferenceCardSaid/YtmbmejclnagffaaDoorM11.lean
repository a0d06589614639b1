/- Contracts of digests with the value named. -/
import Derived.Lib.AppendStr
import Derived.Lib.SlBytesConst
import Derived.Test.YtmbmejclnagffaaDoorM10
set_option linter.unusedSimpArgs false
set_option linter.unusedVariables false
set_option maxRecDepth 100000
namespace Go.Proofs.YtmbmejclnagffaaDoor
open Go.RowKit
theorem digSum_val (A : Option Addr) (c n : Nat) (l : List Int) (hln : l.length = n) (v : Int) (hv : sumB 14695981039346656037 l = v) (w : World) (hl : IntsAt w A .u8 l) (hn : n ≤ 100000000) (hb : ∀ x ∈ l, 0 ≤ x ∧ x ≤ 255) :
    Calls Tryd.prog 80 #[.slice A n c] w fun e w' => e = .returned (.int .u64 v) ∧ Below w.heap.size w w' := by
  subst hln hv; exact digSum_any A c l w hl (by omega) (bytes_getD hb)
theorem digNext_val (d : Int) (A : Option Addr) (c n : Nat) (l : List Int) (hln : l.length = n) (v : Int) (hv : nextB d l = v) (w : World) (hd : 0 ≤ d ∧ d ≤ 18446744073709551615) (hl : IntsAt w A .i64 l) (hn : n ≤ 1000000) (hb : Fit l) (ht : Tab w) :
    Calls Tryd.prog 55 #[.int .u64 d, .slice A n c] w fun e w' => e = .returned (.int .u64 v) ∧ Below w.heap.size w w' := by
  subst hln hv; exact digNext_any d A c l w hd hl hn hb ht
theorem sum_nil : sumB 14695981039346656037 [] = 14695981039346656037 := by simp only [sumB, List.foldl_nil]
end Go.Proofs.YtmbmejclnagffaaDoor

/- Strings and rows of bytes; equality of lists. -/
import Derived.Laws.BytesArg
import Derived.Lib.Strings
import Derived.Test.YtmbmejclnagffaaDoorM2
import Derived.Test.YtmbmejclnagffaaDoorM7
set_option linter.unusedSimpArgs false
set_option linter.unusedVariables false
set_option maxRecDepth 100000
namespace Go.Proofs.YtmbmejclnagffaaDoor
open Go.RowKit
theorem infoI64 : (Tryd.prog.info? 3).map (fun i => (i.zero, i.size, i.bytes)) = some (some (.int .i64 0), 1, 8) := by kernel_rfl
theorem digNext_at (d : Int) (A : Option Addr) (c n : Nat) (l : List Int) (hln : l.length = n) (w : World) (hd : 0 ≤ d ∧ d ≤ 18446744073709551615) (hl : IntsAt w A .i64 l) (hn : n ≤ 1000000) (hb : Fit l) (ht : Tab w) :
    Calls Tryd.prog 55 #[.int .u64 d, .slice A n c] w fun e w' => e = .returned (.int .u64 (nextB d l)) ∧ Below w.heap.size w w' := by
  subst hln; exact digNext_any d A c l w hd hl hn hb ht
theorem fit_cons {x : Int} {l : List Int} (hx : -9223372036854775808 ≤ x ∧ x ≤ 9223372036854775807) (h : Fit l) : Fit (x :: l) := fun y hy => by
  rcases List.mem_cons.1 hy with rfl | h1
  · exact hx
  · exact h y h1
/-- two lists of integers are equal -/
def sameB (l m : List Int) : Bool := l == m
theorem sameB_iff {l m : List Int} : sameB l m = true ↔ l = m := by simp [sameB]
theorem list_ne_at {l m : List Int} {k : Nat} (h : l.getD k 0 ≠ m.getD k 0) : sameB l m = false := by
  rw [Bool.eq_false_iff]; intro h2; rw [sameB_iff] at h2; rw [h2] at h; exact h rfl
theorem list_eq_of {l m : List Int} (hl : l.length = m.length) (h : ∀ k, k < l.length → l.getD k 0 = m.getD k 0) : sameB l m = true := by
  rw [sameB_iff]
  apply List.ext_getElem hl
  intro i h1 h2
  have := h i h1
  simpa [List.getD_eq_getElem?_getD, h1, h2] using this
end Go.Proofs.YtmbmejclnagffaaDoor

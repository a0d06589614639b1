/- Opening arguments: integers and slices of integers, read out of their cells. -/
import Derived.Lib.SmallJoins
import Derived.Test.YtmbmejclnagffaaDoorM2
import Derived.Test.YtmbmejclnagffaaDoorM15
set_option linter.unusedSimpArgs false
set_option linter.unusedVariables false
set_option maxRecDepth 100000
namespace Go.Proofs.YtmbmejclnagffaaDoor
open Go.RowKit
section
open Go.RowKit Go.ChangeShapes Go.WideShapes Go.ChangeAt
/-- a slice of integers, read out of its one cell -/
theorem read_ints {H : Type} {enc : TypeId × Value → H} {P : Program} {W : World} {held : Bool} {t e : TypeId} {k : IntKind} {v : Value} {fuel : Nat} {y : DataW H × List MemPlace} (ht : P.underlying t = some (.slice e)) (he : P.underlying e = some (.int k)) (hc : P.cellsOf e = 1)
    (hf : DataW.trod enc P W 0 (fun _ => true) held fuel t [v] = some y) : ∃ A c l, v = .slice A l.length c ∧ IntsAt W A k l ∧ l.length ≤ c ∧ c ≤ maxLen ∧ ∀ n ∈ l, (Lit.int k n).wf = true := by
  rcases open_ints ht he hc hf with ⟨hcs, _⟩ | ⟨a, len', cap', zs, hcs, _, hle, hmax, hall, _, hcell, hwf⟩
  · have : v = .slice none 0 0 := by simpa using hcs
    subst this
    exact ⟨none, 0, [], rfl, IntsAt.nil, by simp, by simp, by simp⟩
  · have : v = .slice (some a) len' cap' := by simpa using hcs
    subst this
    simp only [if_true] at hall
    refine ⟨some a, cap', zs.take len', ?_, IntsAt.take (ints_of_cells hcell) len', ?_, hmax, fun n hn => hwf n (List.mem_of_mem_take hn)⟩
    · congr 1; simp; omega
    · simp; omega
theorem read_int {H : Type} {enc : TypeId × Value → H} {P : Program} {W : World} {held : Bool} {t : TypeId} {k : IntKind} {v : Value} {fuel : Nat} {y : DataW H × List MemPlace} (ht : P.underlying t = some (.int k))
    (hf : DataW.trod enc P W 0 (fun _ => true) held fuel t [v] = some y) : ∃ n, v = .int k n ∧ (Lit.int k n).wf = true := by
  obtain ⟨a, ea, _, w⟩ := DataW.trod_int ht hf
  exact ⟨a, by simpa using ea, w⟩
end
end Go.Proofs.YtmbmejclnagffaaDoor

/- Opening arguments: slices of integers. -/
import Derived.ProofKit
import Derived.OpenShut
import Derived.ChangeOld
import Derived.Deep.Matrix
import Derived.DataShut
import Derived.SizedLaws
import Derived.Test.YtmbmejclnagffaaDoorM1
set_option linter.unusedSimpArgs false
set_option linter.unusedVariables false
set_option maxRecDepth 100000
namespace Go.Proofs.YtmbmejclnagffaaDoor
open Go.RowKit
section
open Go.RowKit Go.ChangeShapes Go.WideShapes Go.ChangeAt
theorem addr_add {a : Addr} {w : World} {v : Value} {i : Nat} (h : w.cell? (a.add i) = some v) (h0 : a.spot = none) : w.cell? ⟨a.block, a.off + i, none⟩ = some v := by
  rw [← h]
  unfold Addr.add
  split
  · rename_i h1; subst h1; obtain ⟨b, o, s⟩ := a; simp at h0; subst h0; rfl
  · rfl
theorem cell_lt {w : World} {a : Addr} {v : Value} (h : w.cell? a = some v) : a.block < w.heap.size := by
  unfold World.cell? at h
  rcases Nat.lt_or_ge a.block w.heap.size with h1 | h1
  · exact h1
  · rw [Array.getElem?_eq_none h1] at h; cases h
theorem ints_of_cells {w : World} {a : Addr} {k : IntKind} {l : List Int} (h : ∀ i, i < l.length → w.cell? (a.add i) = some (.int k (l.getD i 0))) : IntsAt w (some a) k l := fun i hi => by
  have h0 : w.cell? a = some (.int k (l.getD 0 0)) := h 0 (by omega)
  have hs := World.cell?_spot h0
  exact ⟨a.block, a.off, by obtain ⟨b, o, s⟩ := a; simp at hs; subst hs; rfl, cell_lt h0, addr_add (h i hi) hs⟩
theorem wf_i64 {n : Int} (h : (Lit.int .i64 n).wf = true) : -9223372036854775808 ≤ n ∧ n ≤ 9223372036854775807 := by
  rw [Lit.wf_int_iff] at h; exact h
theorem wf_u8 {n : Int} (h : (Lit.int .u8 n).wf = true) : 0 ≤ n ∧ n ≤ 255 := by
  rw [Lit.wf_int_iff] at h; exact h
theorem wf_u16 {n : Int} (h : (Lit.int .u16 n).wf = true) : 0 ≤ n ∧ n ≤ 65535 := by
  rw [Lit.wf_int_iff] at h; exact h
end
end Go.Proofs.YtmbmejclnagffaaDoor

/- Literal rows of integers. -/
import Derived.Test.YtmbmejclnagffaaDoorM1
set_option linter.unusedSimpArgs false
set_option linter.unusedVariables false
set_option maxRecDepth 100000
namespace Go.Proofs.YtmbmejclnagffaaDoor
open Go.RowKit
theorem own_lit {w : World} {base : Nat} {E : TypeId} {k : IntKind} (l : List Int) (hb : base ≤ w.heap.size) (hl : l.length ≤ 1000) (n : Nat) (hn : w.heap.size = n) :
    OwnInts (w.alloc (.cells (l.map (Value.int k)).toArray E)) base E k (some ⟨n, 0, none⟩) l.length l := by
  subst hn
  have := World.ownsRow_lit (base := base) (e := E) (size := 1) w (l.map (Value.int k)).toArray l.length hb (by unfold maxLen; omega) (by simp)
  simpa [OwnInts] using this
theorem ints_lit {w : World} {E : TypeId} {k : IntKind} (l : List Int) (n : Nat) (hn : w.heap.size = n) : IntsAt (w.alloc (.cells (l.map (Value.int k)).toArray E)) (some ⟨n, 0, none⟩) k l := fun i hi => by
  subst hn
  refine ⟨w.heap.size, 0, rfl, by simp, ?_⟩
  rw [cell_of_row _ _ _ _ _ _ (heap_alloc_new w _)]
  simp [List.getD_eq_getElem?_getD, hi]
theorem mem_getD {P : Int → Prop} {l : List Int} (h : ∀ x ∈ l, P x) (h0 : P 0) (k : Nat) : P (l.getD k 0) := by
  rcases Nat.lt_or_ge k l.length with hk | hk
  · have : l.getD k 0 = l[k] := by simp [List.getD_eq_getElem?_getD, hk]
    rw [this]; exact h _ (List.getElem_mem hk)
  · have : l.getD k 0 = 0 := by simp [List.getD_eq_getElem?_getD, List.getElem?_eq_none hk]
    rw [this]; exact h0
theorem bytes_getD {l : List Int} (h : ∀ x ∈ l, 0 ≤ x ∧ x ≤ 255) (k : Nat) : 0 ≤ l.getD k 0 ∧ l.getD k 0 ≤ 255 := mem_getD (P := fun x => 0 ≤ x ∧ x ≤ 255) h (by omega) k
/-- integers that an int holds -/
def Fit (l : List Int) : Prop := ∀ x ∈ l, -9223372036854775808 ≤ x ∧ x ≤ 9223372036854775807
theorem int_bd {l : List Int} (h : Fit l) (k : Nat) : -9223372036854775808 ≤ l.getD k 0 ∧ l.getD k 0 ≤ 9223372036854775807 := mem_getD (P := fun x => -9223372036854775808 ≤ x ∧ x ≤ 9223372036854775807) h (by omega) k
theorem take_snocD {α : Type} (l : List α) (k : Nat) (z : α) (h : k < l.length) : l.take (k + 1) = l.take k ++ [l.getD k z] := by
  rw [List.take_succ_eq_append_getElem h]; simp [List.getD_eq_getElem?_getD, h]
end Go.Proofs.YtmbmejclnagffaaDoor

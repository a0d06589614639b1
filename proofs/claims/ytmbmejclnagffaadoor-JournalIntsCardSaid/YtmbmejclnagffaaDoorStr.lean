/- Strings and rows of bytes; equality of lists. -/
import Derived.Test.YtmbmejclnagffaaDoorLit
import Derived.Laws.BytesArg
import Derived.Lib.Strings
namespace Go.Proofs.YtmbmejclnagffaaDoor
set_option linter.unusedSimpArgs false
set_option linter.unusedVariables false
set_option maxRecDepth 100000
open Go.RowKit

/-- two lists of integers are equal -/
def sameB (l m : List Int) : Bool := l == m
theorem sameB_self (l : List Int) : sameB l l = true := by simp [sameB]
theorem sameB_iff {l m : List Int} : sameB l m = true ↔ l = m := by simp [sameB]

theorem run_str (w : World) (A : Option Addr) (l : List Int) (c : Nat) (h : IntsAt w A .u8 l) :
    (convert 110 9 (.slice A l.length c)).run Tryd.prog w = .ok (.string (strOfNums l)) w := by
  cases l with
  | nil =>
    cases A with
    | none => exact run_convert_bytes_nil w _ _ Tryd.underlying110 Tryd.underlying5 0 c _ Tryd.underlying9
    | some a =>
      rw [run_convert_bytes_string w _ _ _ _ _ c Tryd.underlying110 Tryd.underlying5 Tryd.underlying9]
      have := run_bytesToString (P := Tryd.prog) w a 0 c [] (by simp [loadCells, loadCellsFrom])
      exact this
  | cons x r =>
    obtain ⟨b, off, rfl, _⟩ := h 0 (by simp)
    refine run_convert_bytes_arg w _ _ Tryd.underlying110 Tryd.underlying5 b off (x :: r).length c (x :: r) rfl (fun i hi => ?_) _ Tryd.underlying9
    obtain ⟨b', off', e, _, hc⟩ := h i hi
    injection e with e
    injection e with e1 e2
    subst e1 e2
    exact hc

theorem str_inj {l m : List Int} (hl : ∀ x ∈ l, 0 ≤ x ∧ x ≤ 255) (hm : ∀ x ∈ m, 0 ≤ x ∧ x ≤ 255) (h : strOfNums l = strOfNums m) : l = m := by
  have h2 : (l.map fun n => UInt8.ofNat n.toNat) = (m.map fun n => UInt8.ofNat n.toNat) := by
    simpa [strOfNums] using h
  clear h
  induction l generalizing m with
  | nil => cases m with
    | nil => rfl
    | cons y s => simp at h2
  | cons x r ih => cases m with
    | nil => simp at h2
    | cons y s =>
      simp only [List.map_cons, List.cons.injEq] at h2
      have e1 := congrArg UInt8.toNat h2.1
      have hx := hl x (by simp)
      have hy := hm y (by simp)
      simp only [UInt8.toNat_ofNat'] at e1
      have e2 : x = y := by omega
      rw [e2, ih (fun z hz => hl z (by simp [hz])) (fun z hz => hm z (by simp [hz])) h2.2]

theorem str_toList (l : List Int) : (strOfNums l).toList = l.map fun n => UInt8.ofNat n.toNat := by
  rw [Lib.toList_data]; rfl

theorem list_ne_at {l m : List Int} {k : Nat} (h : l.getD k 0 ≠ m.getD k 0) : sameB l m = false := by
  rw [Bool.eq_false_iff]; intro h2; rw [sameB_iff] at h2; rw [h2] at h; exact h rfl
theorem list_eq_of {l m : List Int} (hl : l.length = m.length) (h : ∀ k, k < l.length → l.getD k 0 = m.getD k 0) : sameB l m = true := by
  rw [sameB_iff]
  apply List.ext_getElem hl
  intro i h1 h2
  have := h i h1
  simpa [List.getD_eq_getElem?_getD, h1, h2] using this
end Go.Proofs.YtmbmejclnagffaaDoor

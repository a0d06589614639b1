/- Contracts of digests with the value named. -/
import Derived.Test.YtmbmejclnagffaaDoorDigS
import Derived.Lib.SlBytesConst
namespace Go.Proofs.YtmbmejclnagffaaDoor
set_option linter.unusedSimpArgs false
set_option linter.unusedVariables false
set_option maxRecDepth 100000
open Go.RowKit

theorem digSum_val (A : Option Addr) (c n : Nat) (l : List Int) (hln : l.length = n) (v : Int) (hv : sumB 14695981039346656037 l = v) (w : World) (hl : IntsAt w A .u8 l) (hn : n ≤ 100000000) (hb : ∀ x ∈ l, 0 ≤ x ∧ x ≤ 255) :
    Calls Tryd.prog 80 #[.slice A n c] w fun e w' => e = .returned (.int .u64 v) ∧ Below w.heap.size w w' := by
  subst hln hv; exact digSum_any A c l w hl (by omega) (bytes_getD hb)
theorem refSum_val (A : Option Addr) (c n : Nat) (l : List Int) (hln : l.length = n) (v : Int) (hv : sumB 14695981039346656037 l = v) (w : World) (hl : IntsAt w A .u8 l) (hn : n ≤ 100000000) (hb : ∀ x ∈ l, 0 ≤ x ∧ x ≤ 255) :
    Calls Tryd.prog 73 #[.slice A n c] w fun e w' => e = .returned (.int .u64 v) ∧ w = w' := by
  subst hln hv; exact refSum_any A c l w hl (by omega) (bytes_getD hb)
theorem digNext_val (d : Int) (A : Option Addr) (c n : Nat) (l : List Int) (hln : l.length = n) (v : Int) (hv : nextB d l = v) (w : World) (hd : 0 ≤ d ∧ d ≤ 18446744073709551615) (hl : IntsAt w A .i64 l) (hn : n ≤ 1000000) (hb : Fit l) (ht : Tab w) :
    Calls Tryd.prog 55 #[.int .u64 d, .slice A n c] w fun e w' => e = .returned (.int .u64 v) ∧ Below w.heap.size w w' := by
  subst hln hv; exact digNext_any d A c l w hd hl hn hb ht
theorem refNext_val (d : Int) (A : Option Addr) (c n : Nat) (l : List Int) (hln : l.length = n) (v : Int) (hv : nextB d l = v) (w : World) (hd : 0 ≤ d ∧ d ≤ 18446744073709551615) (hl : IntsAt w A .i64 l) (hn : n ≤ 1000000) (hb : Fit l) :
    Calls Tryd.prog 74 #[.int .u64 d, .slice A n c] w fun e w' => e = .returned (.int .u64 v) ∧ Below w.heap.size w w' := by
  subst hln hv; exact refNext_any d A c l w hd hl hn hb
theorem sum_nil : sumB 14695981039346656037 [] = 14695981039346656037 := by simp only [sumB, List.foldl_nil]
theorem fit_small {l : List Int} (h : ∀ x ∈ l, -1000 ≤ x ∧ x ≤ 1000) : Fit l := fun x hx => by have := h x hx; omega
theorem ints_litf {w : World} {E : TypeId} {k : IntKind} (l : List Int) (n : Nat) (hn : w.heap.size = n) (fr : Nat × Nat) : IntsAt (w.alloc (.cells (l.map (Value.int k)).toArray E fr)) (some ⟨n, 0, none⟩) k l := fun i hi => by
  subst hn
  refine ⟨w.heap.size, 0, rfl, by simp, ?_⟩
  rw [cell_of_row _ _ _ _ _ _ (heap_alloc_new w _)]
  simp [List.getD_eq_getElem?_getD, hi]
end Go.Proofs.YtmbmejclnagffaaDoor

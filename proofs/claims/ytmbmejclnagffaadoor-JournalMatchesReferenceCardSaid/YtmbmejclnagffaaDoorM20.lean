/- Words for memory: cells of the call's own that may be written. -/
import Derived.Test.YtmbmejclnagffaaDoorM2
set_option linter.unusedSimpArgs false
set_option linter.unusedVariables false
set_option maxRecDepth 100000
namespace Go.Proofs.YtmbmejclnagffaaDoor
open Go.RowKit
section
/-- a cell that is there, holds v, and may be written -/
def Cel (w : World) (b o : Nat) (v : Value) : Prop := b < w.heap.size ∧ w.cell? ⟨b, o, none⟩ = some v ∧ w.frozen? ⟨b, o, none⟩ = false
section
variable {w w' : World} {b o : Nat} {v : Value}
theorem Cel.lt (h : Cel w b o v) : b < w.heap.size := h.1
theorem Cel.at (h : Cel w b o v) : w.cell? ⟨b, o, none⟩ = some v := h.2.1
theorem Cel.free (h : Cel w b o v) : w.frozen? ⟨b, o, none⟩ = false := h.2.2
theorem Cel.below (h : Cel w b o v) (hb : Below w.heap.size w w') : Cel w' b o v := ⟨Nat.lt_of_lt_of_le h.1 hb.size, keepc hb h.1 h.2.1, keepf hb h.1 h.2.2⟩
theorem frozen_set (w : World) (p q : Addr) (u : Value) : (w.setCell p u).frozen? q = w.frozen? q := by simp
theorem Cel.same (h : Cel w b o v) (u : Value) : Cel (w.setCell ⟨b, o, none⟩ u) b o u := ⟨by simpa using h.1, World.cell?_setCell_same _ _ _ h.2.1, (frozen_set _ _ _ _).trans h.2.2⟩
theorem Cel.other (h : Cel w b o v) {p : Addr} (hp : p ≠ ⟨b, o, none⟩) (u : Value) : Cel (w.setCell p u) b o v :=
  ⟨by simpa using h.1, (World.cell?_setCell_other _ _ _ _ hp).trans h.2.1, (frozen_set _ _ _ _).trans h.2.2⟩
theorem Cel.far (h : Cel w b o v) {g p : Nat} (hp : g ≠ b) (u : Value) : Cel (w.setCell ⟨g, p, none⟩ u) b o v := h.other (by simp only [ne_eq, Addr.mk.injEq, and_true, not_and]; exact fun h => absurd h hp) u
theorem Cel.near (h : Cel w b o v) {p : Nat} (hp : p ≠ o) (u : Value) : Cel (w.setCell ⟨b, p, none⟩ u) b o v := h.other (by simp only [ne_eq, Addr.mk.injEq, and_true, not_and]; exact fun _ => hp) u
theorem Cel.alloc (h : Cel w b o v) (x : Obj) : Cel (w.alloc x) b o v := h.below ((Below.refl _ _).alloc (Nat.le_refl _) x)
theorem cel_new {w : World} {vs : Array Value} {t : TypeId} {n : Nat} (hn : w.heap.size = n) {o : Nat} {v : Value} (h : vs[o]? = some v) : Cel (w.alloc (.cells vs t)) n o v := by
  subst hn
  exact ⟨by simp, by rw [cell_of_row _ _ _ _ _ _ (heap_alloc_new w _)]; exact h, frozen_of_row _ _ _ _ _ (heap_alloc_new w _)⟩
theorem below_set {B : Nat} {w0 w : World} (h : Below B w0 w) {b : Nat} (hb : B ≤ b) (o : Nat) (v : Value) : Below B w0 (w.setCell ⟨b, o, none⟩ v) := h.setCell hb v
end
section
variable {w w' : World} {b o : Nat} {v0 v1 v2 v3 : Value}
end
theorem OwnInts.base_le {w : World} {base base' : Nat} {E : TypeId} {k : IntKind} {A : Option Addr} {c : Nat} {l : List Int} (h : OwnInts w base E k A c l) (hb : base' ≤ base) : OwnInts w base' E k A c l := by
  refine ⟨h.1, ?_⟩
  rcases h.2 with h2 | ⟨g, cap, cur, hv, hg, hr⟩
  · exact .inl h2
  · exact .inr ⟨g, cap, cur, hv, by omega, hr⟩
end
end Go.Proofs.YtmbmejclnagffaaDoor

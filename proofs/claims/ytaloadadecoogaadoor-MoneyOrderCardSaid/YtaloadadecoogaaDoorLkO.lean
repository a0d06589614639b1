/- Two new blocks; a map of the integers of a list. -/
import Derived.Test.YtaloadadecoogaaDoorBlk
import Derived.Test.YtaloadadecoogaaDoorMp
namespace Go.Proofs.YtaloadadecoogaaDoor
set_option linter.unusedSimpArgs false
set_option linter.unusedVariables false
set_option maxRecDepth 100000
open Go.RowKit Go.Maps

/-- two new slots -/
def Two (w wx : World) (g h : Nat) (u v : Array Value) : Prop := (w.heap.size ≤ g ∧ w.heap.size ≤ h ∧ g ≠ h) ∧ Blk wx g u ∧ Blk wx h v ∧ Below w.heap.size w wx
theorem Two.drew {w wx : World} {g h : Nat} {u v : Array Value} (t : Two w wx g h u v) : Two w wx.drew g h u v := ⟨t.1, t.2.1.below (Below.refl _ _).drew, t.2.2.1.below (Below.refl _ _).drew, t.2.2.2.drew⟩
section
variable {w w2 : World} {U V : Array Value} {t t' : TypeId} {g h : Nat} {z0 z1 z2 z3 y0 y1 y2 y3 a0 a1 a2 a3 b0 b1 b2 b3 : Value}
theorem two_nn (b : Below w.heap.size w w2) : Two w ((w2.alloc (.cells U t)).alloc (.cells V t')) w2.heap.size (w2.heap.size + 1) U V :=
  ⟨⟨b.size, by have := b.size; omega, by omega⟩, (blk_new rfl).alloc _, blk_new (by simp), (b.alloc b.size _).alloc (by have := b.size; simp; omega) _⟩
theorem two_nn' (b : Below w.heap.size w w2) : Two w ((w2.alloc (.cells V t)).alloc (.cells U t')) (w2.heap.size + 1) w2.heap.size U V :=
  ⟨⟨by have := b.size; omega, b.size, by omega⟩, blk_new (by simp), (blk_new rfl).alloc _, (b.alloc b.size _).alloc (by have := b.size; simp; omega) _⟩
theorem two_on (zg : Blk w2 g #[z0, z1, z2, z3]) (hg : w.heap.size ≤ g) (b : Below w.heap.size w w2) : Two w (((((w2.setCell ⟨g, 0, none⟩ a0).setCell ⟨g, 1, none⟩ a1).setCell ⟨g, 2, none⟩ a2).setCell ⟨g, 3, none⟩ a3).alloc (.cells V t)) g w2.heap.size #[a0, a1, a2, a3] V := by
  have k : Blk (putL w2 g 0 [a0, a1, a2, a3]) g #[a0, a1, a2, a3] := putL_blk zg [a0, a1, a2, a3] (by simp)
  have lt := (zg 0 _ rfl).lt
  exact ⟨⟨hg, b.size, by omega⟩, k.alloc _, blk_new (by simp [World.size_setCell]), (putL_below hg [a0, a1, a2, a3] w2 0 b).alloc (by rw [putL_size]; exact b.size) _⟩
theorem two_no (zh : Blk w2 h #[z0, z1, z2, z3]) (hh : w.heap.size ≤ h) (b : Below w.heap.size w w2) : Two w (((((w2.setCell ⟨h, 0, none⟩ b0).setCell ⟨h, 1, none⟩ b1).setCell ⟨h, 2, none⟩ b2).setCell ⟨h, 3, none⟩ b3).alloc (.cells U t)) w2.heap.size h U #[b0, b1, b2, b3] := by
  obtain ⟨⟨h1, h2, h3⟩, h4, h5, h6⟩ := two_on (V := U) (t := t) (a0 := b0) (a1 := b1) (a2 := b2) (a3 := b3) zh hh b
  exact ⟨⟨h2, h1, fun e => h3 e.symm⟩, h5, h4, h6⟩
theorem two_oo (zg : Blk w2 g #[z0, z1, z2, z3]) (zh : Blk w2 h #[y0, y1, y2, y3]) (hg : w.heap.size ≤ g) (hh : w.heap.size ≤ h) (ne : g ≠ h) (b : Below w.heap.size w w2) : Two w ((((((((w2.setCell ⟨g, 0, none⟩ a0).setCell ⟨g, 1, none⟩ a1).setCell ⟨g, 2, none⟩ a2).setCell ⟨g, 3, none⟩ a3).setCell ⟨h, 0, none⟩ b0).setCell ⟨h, 1, none⟩ b1).setCell ⟨h, 2, none⟩ b2).setCell ⟨h, 3, none⟩ b3) g h #[a0, a1, a2, a3] #[b0, b1, b2, b3] := by
  have k : Blk (putL w2 g 0 [a0, a1, a2, a3]) g #[a0, a1, a2, a3] := putL_blk zg [a0, a1, a2, a3] (by simp)
  have j : Blk (putL w2 g 0 [a0, a1, a2, a3]) h #[y0, y1, y2, y3] := putL_far zh ne 0 _
  have k2 : Blk (putL (putL w2 g 0 [a0, a1, a2, a3]) h 0 [b0, b1, b2, b3]) h #[b0, b1, b2, b3] := putL_blk j [b0, b1, b2, b3] (by simp)
  have j2 : Blk (putL (putL w2 g 0 [a0, a1, a2, a3]) h 0 [b0, b1, b2, b3]) g #[a0, a1, a2, a3] := putL_far k (Ne.symm ne) 0 _
  exact ⟨⟨hg, hh, ne⟩, j2, k2, putL_below (b := h) hh [b0, b1, b2, b3] (putL w2 g 0 [a0, a1, a2, a3]) 0 (putL_below (b := g) hg [a0, a1, a2, a3] w2 0 b)⟩
end
/-- a map that says true of the integers of a list, and of no others -/
def SetD (D : DataW Value) (l : List Int) : Prop := ∀ y, D.atKey (.int .i64 y) (.held (.bool false)) = .held (.bool (decide (y ∈ l)))
theorem setD_nil : SetD (.map []) [] := fun y => by simp [DataW.atKey]
theorem SetD.snoc {D : DataW Value} {l : List Int} (h : SetD D l) (hD : IsMap D) (x : Int) : SetD (D.put (.int .i64 x) (.held (.bool true))) (l ++ [x]) := fun y => by
  rw [at_put_int hD, h y]
  by_cases e : y = x
  · rw [if_pos e]; simp [e]
  · rw [if_neg e]; simp [e]
theorem take_int {l : List Int} {k : Nat} (h : k < l.length) : l.take (k + 1) = l.take k ++ [l.getD k 0] := by
  rw [List.take_add_one, List.getD_eq_getElem?_getD, List.getElem?_eq_getElem h]; rfl
theorem getD_in {l : List Int} {k : Nat} (h : k < l.length) : l.getD k 0 ∈ l := by
  rw [List.getD_eq_getElem?_getD, List.getElem?_eq_getElem h]; exact List.getElem_mem h
end Go.Proofs.YtaloadadecoogaaDoor

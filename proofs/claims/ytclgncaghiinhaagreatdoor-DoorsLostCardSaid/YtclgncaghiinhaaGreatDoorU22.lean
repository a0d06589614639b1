/- Contracts of package lock: guest, staff. -/
import Derived.Test.YtclgncaghiinhaaGreatDoorU15
import Derived.Test.YtclgncaghiinhaaGreatDoorU21
set_option linter.unusedSimpArgs false
set_option linter.unusedVariables false
set_option maxRecDepth 100000
namespace Go.Proofs.YtclgncaghiinhaaGreatDoor
open Go.RowKit
/-- kept, one slot -/
theorem kept_as (l : Lk) (A : Option Addr) (n p : Nat) (B : Option Addr) (m q : Nat) (w : World) (hx : SlotIs w A n l.x) (hy : SlotIs w B m l.y) (ht : Tab w) :
  ∃ K t, SlotIs w K (keepS l).l.length (keepS l) ∧ ∀ W, Below w.heap.size w W → Calls Tryz.prog 50 #[.agg (l.cells A n p B m q).toArray] W fun e w' => e = .returned (.tuple #[.agg #[.int .i64 (keepS l).s, .int .i64 (keepS l).c, .slice K (keepS l).l.length t, .int .u64 (keepS l).u], .bool (bestB l.x l.y)]) ∧ Below W.heap.size W w' := by
 have hn := hx.len
 have hm := hy.len
 subst hn hm
 by_cases h : bestI l.x l.y = 1
 ·have e : keepS l = l.y := by rw [keepS, if_pos h]
  rw [e]
  refine ⟨B, q, hy, fun W hW => ?_⟩
  have := kept_any l A _ p B _ q W (hx.below hW) (hy.below hW) (ht.below hW)
  rw [if_pos h] at this
  exact this
 ·have e : keepS l = l.x := by rw [keepS, if_neg h]
  rw [e]
  refine ⟨A, p, hx, fun W hW => ?_⟩
  have := kept_any l A _ p B _ q W (hx.below hW) (hy.below hW) (ht.below hW)
  rw [if_neg h] at this
  exact this
/-- what a lock keeps after a card -/
def aftC (l : Lk) (c : Crd) : Int := if c.k = 1 then max (keepS l).c c.n else (keepS l).c
def AftPost (x : Int) (L : List Int) (w : World) (e : Ending) (w' : World) : Prop := ∃ K t, e = .returned (.tuple #[.int .i64 x, .slice K L.length t]) ∧ IntsAt w' K .i64 L ∧ Below w.heap.size w w'
set_option maxHeartbeats 4000000 in
theorem guest_any (l : Lk) (c : Crd) (A : Option Addr) (n p : Nat) (B : Option Addr) (m q : Nat) (w : World) (hx : SlotIs w A n l.x) (hy : SlotIs w B m l.y) (ht : Tab w) :
  Calls Tryz.prog 119 #[.agg (l.cells A n p B m q).toArray, .agg c.cells.toArray] w (AftPost (max (keepS l).c c.n) (keepS l).l w) := by
 obtain ⟨w0, hw0⟩ : ∃ W, (w.alloc (.cells (l.cells A n p B m q).toArray 85)).alloc (.cells c.cells.toArray 28) = W := ⟨_, rfl⟩
 have bb0 : Below w.heap.size w w0 := by rw [← hw0]; exact ((Below.refl _ _).alloc (Nat.le_refl _) _).alloc (by simp) _
 have k0 : Blk w0 w.heap.size (l.cells A n p B m q).toArray := by rw [← hw0]; exact (blk_new rfl).alloc _
 have g0 : Blk w0 (w.heap.size + 1) c.cells.toArray := by rw [← hw0]; exact blk_new (by simp)
 obtain ⟨K, t, hs, q1⟩ := kept_as l A n p B m q w hx hy ht
 generalize keepS l = s at *
 generalize bestB l.x l.y = T at *
 unfold Lk.cells at k0 hw0 q1 ⊢
 unfold Crd.cells at g0 hw0 ⊢
 have ⟨Hbb0, Hk0, Hg0, Hhw0, Hq1, Hhx, Hhy, Hht⟩ := hid8 bb0 k0 g0 hw0 q1 hx hy ht; clear bb0 k0 g0 hw0 q1 hx hy ht; have Hhs := Lib.hid hs; clear hs
 go_enter Tryz.func119, Tryz.ntmps119
 go_wp2_with fail
 rw [Hhw0.out]
 obtain ⟨y0, y1, y2, y3, y4, y5, y6, y7, y8, y9, y10, y11⟩ := at12_of Hk0.out
 go_wp2_with fail
 (with_reducible refine (Hq1.out _ ?_).mono ?_)
 ·exact Hbb0.out
 rintro e w1 ⟨rfl, b1⟩
 have c1 : Below w0.heap.size w0 w1 := Below.trans belt (b1.mono omh)
 have s1 := c1.size
 have bb1 := Hbb0.out.trans (c1.mono Hbb0.out.size)
 have k1 := Hk0.out.below c1
 have g1 := Hg0.out.below c1
 have ⟨Hb1, Hc1, Hbb1, Hk1, Hg1⟩ := hid5 b1 c1 bb1 k1 g1; clear b1 c1 bb1 k1 g1
 clear y0 y1 y2 y3 y4 y5 y6 y7 y8 y9 y10 y11
 go_upto_region 2 with (fail)
 obtain ⟨w2, hw2⟩ : ∃ W, w1.alloc (.cells #[.int .i64 s.s, .int .i64 s.c, .slice K s.l.length t, .int .u64 s.u] 45) = W := ⟨_, rfl⟩
 rw [hw2]
 have o2 : Blk w2 w1.heap.size #[.int .i64 s.s, .int .i64 s.c, .slice K s.l.length t, .int .u64 s.u] := by rw [← hw2]; exact blk_new rfl
 have b2 : Below w1.heap.size w1 w2 := by rw [← hw2]; exact (Below.refl _ _).alloc (Nat.le_refl _) _
 have g2 := Hg1.out.below b2
 have bb2 := Hbb1.out.trans (b2.mono Hbb1.out.size)
 have ⟨Ho2, Hb2, Hg2, Hbb2, Hhw2⟩ := hid5 o2 b2 g2 bb2 hw2; clear o2 b2 g2 bb2 hw2
 obtain ⟨x0, x1, x2, x3⟩ := at4_of Ho2.out
 obtain ⟨z0, z1, z2, z3, z4, z5, z6, z7, z8⟩ := at9_of Hg2.out
 have lo := (Ho2.out 0 _ rfl).lt
 have lz := (Hg2.out 0 _ rfl).lt
 go_region_held3 (fun W => (∀ b o, b < w2.heap.size → W.cell? ⟨b, o, none⟩ = w2.cell? ⟨b, o, none⟩) ∧ Below w2.heap.size w2 W) (first | (refine ext_mk ?_; exact belt)) (fail)
 all_goals
  have gF : Below w2.heap.size w2 _ := And.right (by assumption)
  go_wp2_with fail
  go_ret2
  exact ⟨K, t, by first | rfl | (simp; done), (Hhs.out.below (Hbb2.out.trans (gF.mono Hbb2.out.size))).ints, Hbb2.out.trans (gF.mono Hbb2.out.size)⟩
set_option maxHeartbeats 4000000 in
theorem staff_any (l : Lk) (c : Crd) (A : Option Addr) (n p : Nat) (B : Option Addr) (m q : Nat) (w : World) (hx : SlotIs w A n l.x) (hy : SlotIs w B m l.y) (ht : Tab w) :
  Calls Tryz.prog 120 #[.agg (l.cells A n p B m q).toArray, .agg c.cells.toArray] w (AftPost (keepS l).c (keepS l).l w) := by
 obtain ⟨w0, hw0⟩ : ∃ W, (w.alloc (.cells (l.cells A n p B m q).toArray 85)).alloc (.cells c.cells.toArray 28) = W := ⟨_, rfl⟩
 have bb0 : Below w.heap.size w w0 := by rw [← hw0]; exact ((Below.refl _ _).alloc (Nat.le_refl _) _).alloc (by simp) _
 have k0 : Blk w0 w.heap.size (l.cells A n p B m q).toArray := by rw [← hw0]; exact (blk_new rfl).alloc _
 have g0 : Blk w0 (w.heap.size + 1) c.cells.toArray := by rw [← hw0]; exact blk_new (by simp)
 obtain ⟨K, t, hs, q1⟩ := kept_as l A n p B m q w hx hy ht
 generalize keepS l = s at *
 generalize bestB l.x l.y = T at *
 unfold Lk.cells at k0 hw0 q1 ⊢
 unfold Crd.cells at g0 hw0 ⊢
 have ⟨Hbb0, Hk0, Hg0, Hhw0, Hq1, Hhx, Hhy, Hht⟩ := hid8 bb0 k0 g0 hw0 q1 hx hy ht; clear bb0 k0 g0 hw0 q1 hx hy ht; have Hhs := Lib.hid hs; clear hs
 go_enter Tryz.func120, Tryz.ntmps120
 go_wp2_with fail
 rw [Hhw0.out]
 obtain ⟨y0, y1, y2, y3, y4, y5, y6, y7, y8, y9, y10, y11⟩ := at12_of Hk0.out
 go_wp2_with fail
 (with_reducible refine (Hq1.out _ ?_).mono ?_)
 ·exact Hbb0.out
 rintro e w1 ⟨rfl, b1⟩
 have c1 : Below w0.heap.size w0 w1 := Below.trans belt (b1.mono omh)
 have s1 := c1.size
 have bb1 := Hbb0.out.trans (c1.mono Hbb0.out.size)
 have k1 := Hk0.out.below c1
 have g1 := Hg0.out.below c1
 have ⟨Hb1, Hc1, Hbb1, Hk1, Hg1⟩ := hid5 b1 c1 bb1 k1 g1; clear b1 c1 bb1 k1 g1
 clear y0 y1 y2 y3 y4 y5 y6 y7 y8 y9 y10 y11
 go_upto_region 2 with (fail)
 obtain ⟨w2, hw2⟩ : ∃ W, w1.alloc (.cells #[.int .i64 s.s, .int .i64 s.c, .slice K s.l.length t, .int .u64 s.u] 45) = W := ⟨_, rfl⟩
 rw [hw2]
 have o2 : Blk w2 w1.heap.size #[.int .i64 s.s, .int .i64 s.c, .slice K s.l.length t, .int .u64 s.u] := by rw [← hw2]; exact blk_new rfl
 have b2 : Below w1.heap.size w1 w2 := by rw [← hw2]; exact (Below.refl _ _).alloc (Nat.le_refl _) _
 have g2 := Hg1.out.below b2
 have bb2 := Hbb1.out.trans (b2.mono Hbb1.out.size)
 have ⟨Ho2, Hb2, Hg2, Hbb2, Hhw2⟩ := hid5 o2 b2 g2 bb2 hw2; clear o2 b2 g2 bb2 hw2
 obtain ⟨x0, x1, x2, x3⟩ := at4_of Ho2.out
 obtain ⟨z0, z1, z2, z3, z4, z5, z6, z7, z8⟩ := at9_of Hg2.out
 have lo := (Ho2.out 0 _ rfl).lt
 have lz := (Hg2.out 0 _ rfl).lt
 go_region_held3 (fun W => (∀ b o, b < w2.heap.size → W.cell? ⟨b, o, none⟩ = w2.cell? ⟨b, o, none⟩) ∧ Below w2.heap.size w2 W) (first | (refine ext_mk ?_; exact belt)) (fail)
 all_goals
  have gF : Below w2.heap.size w2 _ := And.right (by assumption)
  go_wp2_with fail
  go_ret2
  exact ⟨K, t, by first | rfl | (simp; done), (Hhs.out.below (Hbb2.out.trans (gF.mono Hbb2.out.size))).ints, Hbb2.out.trans (gF.mono Hbb2.out.size)⟩
end Go.Proofs.YtclgncaghiinhaaGreatDoor

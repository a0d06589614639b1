/- Contract of the reference of locks: Accepts. -/
import Derived.Test.YtclgncaghiinhaaGreatDoorT43
set_option linter.unusedSimpArgs false
set_option linter.unusedVariables false
set_option maxRecDepth 100000
namespace Go.Proofs.YtclgncaghiinhaaGreatDoor
open Go.RowKit
set_option maxHeartbeats 16000000 in
theorem raccepts_any (l : Lk) (c : Crd) (t : Int) (A : Option Addr) (n p : Nat) (B : Option Addr) (m q : Nat) (w : World) (hx : SlotIs w A n l.x) (hy : SlotIs w B m l.y) :
  Calls Tryz.prog 64 #[.agg (l.cells A n p B m q).toArray, .agg c.cells.toArray, .int .i64 t] w fun e w' => e = .returned (.bool (accB l c t)) ∧ Below w.heap.size w w' := by
 obtain ⟨w0, hw0⟩ : ∃ W, (w.alloc (.cells (l.cells A n p B m q).toArray 48)).alloc (.cells c.cells.toArray 28) = W := ⟨_, rfl⟩
 have bb0 : Below w.heap.size w w0 := by rw [← hw0]; exact ((Below.refl _ _).alloc (Nat.le_refl _) _).alloc (by simp) _
 have k0 : Blk w0 w.heap.size (l.cells A n p B m q).toArray := by rw [← hw0]; exact (blk_new rfl).alloc _
 have g0 : Blk w0 (w.heap.size + 1) c.cells.toArray := by rw [← hw0]; exact blk_new (by simp)
 obtain ⟨K, tt, sl, q1⟩ := rlkeeps_as l A n p B m q w hx hy
 have sl0 := sl.below bb0
 have q2 := fun W (h : IntsAt W K .i64 (keepS l).l) => has_any K tt (keepS l).l.length (keepS l).l rfl c.i W h sl.few
 have q3 := fun W => rMaybe_any t l.r c.f c.u W
 have hR : accB l c t = (mayB t l.r c.f c.u && (decide (c.d = l.d) || decide (c.d = 0)) && !(keepS l).l.contains c.i && (!decide (c.k = 1) || decide ((keepS l).c ≤ c.n))) := by
  have : (askB t l.r c.f c.u && mayB t l.r c.f c.u) = mayB t l.r c.f c.u := by rw [mayB]; cases askB t l.r c.f c.u <;> simp
  rw [accB, this]
 generalize accB l c t = R at *
 generalize mayB t l.r c.f c.u = M at *
 generalize errN (askB t l.r c.f c.u) = E at *
 generalize (keepS l).l.contains c.i = H at *
 generalize keepS l = s at *
 unfold Lk.cells at k0 hw0 q1 ⊢
 unfold Crd.cells at g0 hw0 ⊢
 obtain ⟨ci, ck, cd, cn, cf, cu, cl, ce, cs⟩ := c
 obtain ⟨ld, lk, lr, lx, ly, lu⟩ := l
 dsimp only at *
 have hK : (ck ≠ 1 ∧ (!decide (ck = 1) || decide (s.c ≤ cn)) = true) ∨ (ck = 1 ∧ s.c ≤ cn ∧ (!decide (ck = 1) || decide (s.c ≤ cn)) = true) ∨ (ck = 1 ∧ ¬ s.c ≤ cn ∧ (!decide (ck = 1) || decide (s.c ≤ cn)) = false) := by
  by_cases h1 : ck = 1
  ·by_cases h2 : s.c ≤ cn
   ·exact .inr (.inl ⟨h1, h2, by simp [h2]⟩)
   ·exact .inr (.inr ⟨h1, h2, by simp [h1, h2]⟩)
  ·exact .inl ⟨h1, by simp [h1]⟩
 by_cases h1 : cd = ld
 ·subst h1
  rw [decide_eq_true rfl, Bool.true_or, Bool.and_true] at hR
  cases H with
  | true =>
   rw [Bool.not_true, Bool.and_false, Bool.false_and] at hR
   have ⟨Hbb0, Hk0, Hg0, Hhw0, Hq1, Hq2, Hq3, HhR⟩ := hid8 bb0 k0 g0 hw0 q1 q2 q3 hR; clear bb0 k0 g0 hw0 q1 q2 q3 hR; have ⟨Hhx, Hhy, Hsl0, Hsl⟩ := hid4 hx hy sl0 sl; clear hx hy sl0 sl
   go_enter Tryz.func64, Tryz.ntmps64
   go_wp2_with fail
   rw [Hhw0.out]
   obtain ⟨y0, y1, y2, y3, y4, y5, y6, y7, y8, y9, y10, y11⟩ := at12_of Hk0.out
   go_wp2_with fail
   (with_reducible refine (Hq1.out _ ?_).mono ?_)
   ·exact Hbb0.out
   rintro e w1 ⟨rfl, b1⟩
   have c1 : Below w0.heap.size w0 w1 := Below.trans belt (b1.mono omh)
   have s1 := c1.size
   have bb1 := Hbb0.out.trans (c1.mono Hbb0.out.size)
   have k1 := Hk0.out.below c1
   have g1 := Hg0.out.below c1
   have sl1 := Hsl0.out.below c1
   have ⟨Hb1, Hc1, Hbb1, Hk1, Hg1, Hsl1⟩ := hid6 b1 c1 bb1 k1 g1 sl1; clear b1 c1 bb1 k1 g1 sl1
   clear y0 y1 y2 y3 y4 y5 y6 y7 y8 y9 y10 y11
   go_upto_region 2 with (fail)
   obtain ⟨w2, hw2⟩ : ∃ W, w1.alloc (.cells #[.int .i64 s.s, .int .i64 s.c, .slice K s.l.length tt, .int .u64 s.u] 45) = W := ⟨_, rfl⟩
   rw [hw2]
   have c2 : Below w1.heap.size w1 w2 := by rw [← hw2]; exact (Below.refl _ _).alloc (Nat.le_refl _) _
   have v2 : Blk w2 w1.heap.size #[.int .i64 s.s, .int .i64 s.c, .slice K s.l.length tt, .int .u64 s.u] := by rw [← hw2]; exact blk_new rfl
   have k2 := Hk1.out.below c2
   have g2 := Hg1.out.below c2
   have i2 := Hsl1.out.ints.below c2
   have bb2 := Hbb1.out.trans (c2.mono Hbb1.out.size)
   have ⟨Hhw2, Hc2, Hv2, Hk2, Hg2, Hi2, Hbb2⟩ := hid7 hw2 c2 v2 k2 g2 i2 bb2; clear hw2 c2 v2 k2 g2 i2 bb2
   obtain ⟨y0, y1, y2, y3, y4, y5, y6, y7, y8, y9, y10, y11⟩ := at12_of Hk2.out
   obtain ⟨z0, z1, z2, z3, z4, z5, z6, z7, z8⟩ := at9_of Hg2.out
   obtain ⟨x0, x1, x2, x3⟩ := at4_of Hv2.out
   have ly := (Hk2.out 0 _ rfl).lt
   have lz := (Hg2.out 0 _ rfl).lt
   have lx := (Hv2.out 0 _ rfl).lt
   go_wp2_with fail
   (with_reducible refine (Hq2.out _ ?_).mono ?_)
   ·exact Hi2.out.below (show Below w2.heap.size w2 _ from belt)
   rintro e w3 ⟨rfl, b3⟩
   have c3 : Below w2.heap.size w2 w3 := Below.trans belt (b3.mono omh)
   have s3 := c3.size
   have bb3 := Hbb2.out.trans (c3.mono Hbb2.out.size)
   have k3 := Hk2.out.below c3
   have g3 := Hg2.out.below c3
   have v3 := Hv2.out.below c3
   have ⟨Hb3, Hc3, Hbb3, Hk3, Hg3, Hv3⟩ := hid6 b3 c3 bb3 k3 g3 v3; clear b3 c3 bb3 k3 g3 v3
   clear y0 y1 y2 y3 y4 y5 y6 y7 y8 y9 y10 y11 z0 z1 z2 z3 z4 z5 z6 z7 z8 x0 x1 x2 x3 ly lz lx
   go_wp2_with fail
   go_ret
   exact ⟨ret_bool (by rw [HhR.out]), Hbb3.out⟩
  | false =>
   rw [Bool.not_false, Bool.and_true] at hR
   cases M with
   | false =>
    rw [Bool.false_and] at hR
    have ⟨Hbb0, Hk0, Hg0, Hhw0, Hq1, Hq2, Hq3, HhR⟩ := hid8 bb0 k0 g0 hw0 q1 q2 q3 hR; clear bb0 k0 g0 hw0 q1 q2 q3 hR; have ⟨Hhx, Hhy, Hsl0, Hsl⟩ := hid4 hx hy sl0 sl; clear hx hy sl0 sl
    go_enter Tryz.func64, Tryz.ntmps64
    go_wp2_with fail
    rw [Hhw0.out]
    obtain ⟨y0, y1, y2, y3, y4, y5, y6, y7, y8, y9, y10, y11⟩ := at12_of Hk0.out
    go_wp2_with fail
    (with_reducible refine (Hq1.out _ ?_).mono ?_)
    ·exact Hbb0.out
    rintro e w1 ⟨rfl, b1⟩
    have c1 : Below w0.heap.size w0 w1 := Below.trans belt (b1.mono omh)
    have s1 := c1.size
    have bb1 := Hbb0.out.trans (c1.mono Hbb0.out.size)
    have k1 := Hk0.out.below c1
    have g1 := Hg0.out.below c1
    have sl1 := Hsl0.out.below c1
    have ⟨Hb1, Hc1, Hbb1, Hk1, Hg1, Hsl1⟩ := hid6 b1 c1 bb1 k1 g1 sl1; clear b1 c1 bb1 k1 g1 sl1
    clear y0 y1 y2 y3 y4 y5 y6 y7 y8 y9 y10 y11
    go_upto_region 2 with (fail)
    obtain ⟨w2, hw2⟩ : ∃ W, w1.alloc (.cells #[.int .i64 s.s, .int .i64 s.c, .slice K s.l.length tt, .int .u64 s.u] 45) = W := ⟨_, rfl⟩
    rw [hw2]
    have c2 : Below w1.heap.size w1 w2 := by rw [← hw2]; exact (Below.refl _ _).alloc (Nat.le_refl _) _
    have v2 : Blk w2 w1.heap.size #[.int .i64 s.s, .int .i64 s.c, .slice K s.l.length tt, .int .u64 s.u] := by rw [← hw2]; exact blk_new rfl
    have k2 := Hk1.out.below c2
    have g2 := Hg1.out.below c2
    have i2 := Hsl1.out.ints.below c2
    have bb2 := Hbb1.out.trans (c2.mono Hbb1.out.size)
    have ⟨Hhw2, Hc2, Hv2, Hk2, Hg2, Hi2, Hbb2⟩ := hid7 hw2 c2 v2 k2 g2 i2 bb2; clear hw2 c2 v2 k2 g2 i2 bb2
    obtain ⟨y0, y1, y2, y3, y4, y5, y6, y7, y8, y9, y10, y11⟩ := at12_of Hk2.out
    obtain ⟨z0, z1, z2, z3, z4, z5, z6, z7, z8⟩ := at9_of Hg2.out
    obtain ⟨x0, x1, x2, x3⟩ := at4_of Hv2.out
    have ly := (Hk2.out 0 _ rfl).lt
    have lz := (Hg2.out 0 _ rfl).lt
    have lx := (Hv2.out 0 _ rfl).lt
    go_wp2_with fail
    (with_reducible refine (Hq2.out _ ?_).mono ?_)
    ·exact Hi2.out.below (show Below w2.heap.size w2 _ from belt)
    rintro e w3 ⟨rfl, b3⟩
    have c3 : Below w2.heap.size w2 w3 := Below.trans belt (b3.mono omh)
    have s3 := c3.size
    have bb3 := Hbb2.out.trans (c3.mono Hbb2.out.size)
    have k3 := Hk2.out.below c3
    have g3 := Hg2.out.below c3
    have v3 := Hv2.out.below c3
    have ⟨Hb3, Hc3, Hbb3, Hk3, Hg3, Hv3⟩ := hid6 b3 c3 bb3 k3 g3 v3; clear b3 c3 bb3 k3 g3 v3
    clear y0 y1 y2 y3 y4 y5 y6 y7 y8 y9 y10 y11 z0 z1 z2 z3 z4 z5 z6 z7 z8 x0 x1 x2 x3 ly lz lx
    obtain ⟨y0, y1, y2, y3, y4, y5, y6, y7, y8, y9, y10, y11⟩ := at12_of Hk3.out
    obtain ⟨z0, z1, z2, z3, z4, z5, z6, z7, z8⟩ := at9_of Hg3.out
    have ly := (Hk3.out 0 _ rfl).lt
    have lz := (Hg3.out 0 _ rfl).lt
    go_wp2_with fail
    (with_reducible refine (Hq3.out _).mono ?_)
    rintro e w4 ⟨rfl, b4⟩
    have c4 : Below w3.heap.size w3 w4 := Below.trans belt (b4.mono omh)
    have s4 := c4.size
    have bb4 := Hbb3.out.trans (c4.mono Hbb3.out.size)
    have k4 := Hk3.out.below c4
    have g4 := Hg3.out.below c4
    have v4 := Hv3.out.below c4
    have ⟨Hb4, Hc4, Hbb4, Hk4, Hg4, Hv4⟩ := hid6 b4 c4 bb4 k4 g4 v4; clear b4 c4 bb4 k4 g4 v4
    clear y0 y1 y2 y3 y4 y5 y6 y7 y8 y9 y10 y11 z0 z1 z2 z3 z4 z5 z6 z7 z8 ly lz
    obtain ⟨z0, z1, z2, z3, z4, z5, z6, z7, z8⟩ := at9_of Hg4.out
    obtain ⟨x0, x1, x2, x3⟩ := at4_of Hv4.out
    go_wp2_with fail
    go_ret
    exact ⟨ret_bool (by rw [HhR.out]), Hbb4.out⟩
   | true =>
    rw [Bool.true_and] at hR
    rcases hK with ⟨h3, h4⟩ | ⟨h3, h5, h4⟩ | ⟨h3, h5, h4⟩
    ·have j1 : (ck != 1) = true := by rw [bne_iff_ne]; exact h3
     rw [h4] at hR
     clear h4
     have ⟨Hbb0, Hk0, Hg0, Hhw0, Hq1, Hq2, Hq3, HhR⟩ := hid8 bb0 k0 g0 hw0 q1 q2 q3 hR; clear bb0 k0 g0 hw0 q1 q2 q3 hR; have ⟨Hhx, Hhy, Hsl0, Hsl⟩ := hid4 hx hy sl0 sl; clear hx hy sl0 sl
     go_enter Tryz.func64, Tryz.ntmps64
     go_wp2_with fail
     rw [Hhw0.out]
     obtain ⟨y0, y1, y2, y3, y4, y5, y6, y7, y8, y9, y10, y11⟩ := at12_of Hk0.out
     go_wp2_with fail
     (with_reducible refine (Hq1.out _ ?_).mono ?_)
     ·exact Hbb0.out
     rintro e w1 ⟨rfl, b1⟩
     have c1 : Below w0.heap.size w0 w1 := Below.trans belt (b1.mono omh)
     have s1 := c1.size
     have bb1 := Hbb0.out.trans (c1.mono Hbb0.out.size)
     have k1 := Hk0.out.below c1
     have g1 := Hg0.out.below c1
     have sl1 := Hsl0.out.below c1
     have ⟨Hb1, Hc1, Hbb1, Hk1, Hg1, Hsl1⟩ := hid6 b1 c1 bb1 k1 g1 sl1; clear b1 c1 bb1 k1 g1 sl1
     clear y0 y1 y2 y3 y4 y5 y6 y7 y8 y9 y10 y11
     go_upto_region 2 with (fail)
     obtain ⟨w2, hw2⟩ : ∃ W, w1.alloc (.cells #[.int .i64 s.s, .int .i64 s.c, .slice K s.l.length tt, .int .u64 s.u] 45) = W := ⟨_, rfl⟩
     rw [hw2]
     have c2 : Below w1.heap.size w1 w2 := by rw [← hw2]; exact (Below.refl _ _).alloc (Nat.le_refl _) _
     have v2 : Blk w2 w1.heap.size #[.int .i64 s.s, .int .i64 s.c, .slice K s.l.length tt, .int .u64 s.u] := by rw [← hw2]; exact blk_new rfl
     have k2 := Hk1.out.below c2
     have g2 := Hg1.out.below c2
     have i2 := Hsl1.out.ints.below c2
     have bb2 := Hbb1.out.trans (c2.mono Hbb1.out.size)
     have ⟨Hhw2, Hc2, Hv2, Hk2, Hg2, Hi2, Hbb2⟩ := hid7 hw2 c2 v2 k2 g2 i2 bb2; clear hw2 c2 v2 k2 g2 i2 bb2
     obtain ⟨y0, y1, y2, y3, y4, y5, y6, y7, y8, y9, y10, y11⟩ := at12_of Hk2.out
     obtain ⟨z0, z1, z2, z3, z4, z5, z6, z7, z8⟩ := at9_of Hg2.out
     obtain ⟨x0, x1, x2, x3⟩ := at4_of Hv2.out
     have ly := (Hk2.out 0 _ rfl).lt
     have lz := (Hg2.out 0 _ rfl).lt
     have lx := (Hv2.out 0 _ rfl).lt
     go_wp2_with fail
     (with_reducible refine (Hq2.out _ ?_).mono ?_)
     ·exact Hi2.out.below (show Below w2.heap.size w2 _ from belt)
     rintro e w3 ⟨rfl, b3⟩
     have c3 : Below w2.heap.size w2 w3 := Below.trans belt (b3.mono omh)
     have s3 := c3.size
     have bb3 := Hbb2.out.trans (c3.mono Hbb2.out.size)
     have k3 := Hk2.out.below c3
     have g3 := Hg2.out.below c3
     have v3 := Hv2.out.below c3
     have ⟨Hb3, Hc3, Hbb3, Hk3, Hg3, Hv3⟩ := hid6 b3 c3 bb3 k3 g3 v3; clear b3 c3 bb3 k3 g3 v3
     clear y0 y1 y2 y3 y4 y5 y6 y7 y8 y9 y10 y11 z0 z1 z2 z3 z4 z5 z6 z7 z8 x0 x1 x2 x3 ly lz lx
     obtain ⟨y0, y1, y2, y3, y4, y5, y6, y7, y8, y9, y10, y11⟩ := at12_of Hk3.out
     obtain ⟨z0, z1, z2, z3, z4, z5, z6, z7, z8⟩ := at9_of Hg3.out
     have ly := (Hk3.out 0 _ rfl).lt
     have lz := (Hg3.out 0 _ rfl).lt
     go_wp2_with fail
     (with_reducible refine (Hq3.out _).mono ?_)
     rintro e w4 ⟨rfl, b4⟩
     have c4 : Below w3.heap.size w3 w4 := Below.trans belt (b4.mono omh)
     have s4 := c4.size
     have bb4 := Hbb3.out.trans (c4.mono Hbb3.out.size)
     have k4 := Hk3.out.below c4
     have g4 := Hg3.out.below c4
     have v4 := Hv3.out.below c4
     have ⟨Hb4, Hc4, Hbb4, Hk4, Hg4, Hv4⟩ := hid6 b4 c4 bb4 k4 g4 v4; clear b4 c4 bb4 k4 g4 v4
     clear y0 y1 y2 y3 y4 y5 y6 y7 y8 y9 y10 y11 z0 z1 z2 z3 z4 z5 z6 z7 z8 ly lz
     obtain ⟨z0, z1, z2, z3, z4, z5, z6, z7, z8⟩ := at9_of Hg4.out
     obtain ⟨x0, x1, x2, x3⟩ := at4_of Hv4.out
     go_wp2_with fail
     go_ret
     exact ⟨ret_bool (by rw [HhR.out]), Hbb4.out⟩
    ·rw [h4] at hR
     clear h4
     subst h3
     have j1 : decide (s.c ≤ cn) = true := decide_eq_true h5
     have ⟨Hbb0, Hk0, Hg0, Hhw0, Hq1, Hq2, Hq3, HhR⟩ := hid8 bb0 k0 g0 hw0 q1 q2 q3 hR; clear bb0 k0 g0 hw0 q1 q2 q3 hR; have ⟨Hhx, Hhy, Hsl0, Hsl⟩ := hid4 hx hy sl0 sl; clear hx hy sl0 sl
     go_enter Tryz.func64, Tryz.ntmps64
     go_wp2_with fail
     rw [Hhw0.out]
     obtain ⟨y0, y1, y2, y3, y4, y5, y6, y7, y8, y9, y10, y11⟩ := at12_of Hk0.out
     go_wp2_with fail
     (with_reducible refine (Hq1.out _ ?_).mono ?_)
     ·exact Hbb0.out
     rintro e w1 ⟨rfl, b1⟩
     have c1 : Below w0.heap.size w0 w1 := Below.trans belt (b1.mono omh)
     have s1 := c1.size
     have bb1 := Hbb0.out.trans (c1.mono Hbb0.out.size)
     have k1 := Hk0.out.below c1
     have g1 := Hg0.out.below c1
     have sl1 := Hsl0.out.below c1
     have ⟨Hb1, Hc1, Hbb1, Hk1, Hg1, Hsl1⟩ := hid6 b1 c1 bb1 k1 g1 sl1; clear b1 c1 bb1 k1 g1 sl1
     clear y0 y1 y2 y3 y4 y5 y6 y7 y8 y9 y10 y11
     go_upto_region 2 with (fail)
     obtain ⟨w2, hw2⟩ : ∃ W, w1.alloc (.cells #[.int .i64 s.s, .int .i64 s.c, .slice K s.l.length tt, .int .u64 s.u] 45) = W := ⟨_, rfl⟩
     rw [hw2]
     have c2 : Below w1.heap.size w1 w2 := by rw [← hw2]; exact (Below.refl _ _).alloc (Nat.le_refl _) _
     have v2 : Blk w2 w1.heap.size #[.int .i64 s.s, .int .i64 s.c, .slice K s.l.length tt, .int .u64 s.u] := by rw [← hw2]; exact blk_new rfl
     have k2 := Hk1.out.below c2
     have g2 := Hg1.out.below c2
     have i2 := Hsl1.out.ints.below c2
     have bb2 := Hbb1.out.trans (c2.mono Hbb1.out.size)
     have ⟨Hhw2, Hc2, Hv2, Hk2, Hg2, Hi2, Hbb2⟩ := hid7 hw2 c2 v2 k2 g2 i2 bb2; clear hw2 c2 v2 k2 g2 i2 bb2
     obtain ⟨y0, y1, y2, y3, y4, y5, y6, y7, y8, y9, y10, y11⟩ := at12_of Hk2.out
     obtain ⟨z0, z1, z2, z3, z4, z5, z6, z7, z8⟩ := at9_of Hg2.out
     obtain ⟨x0, x1, x2, x3⟩ := at4_of Hv2.out
     have ly := (Hk2.out 0 _ rfl).lt
     have lz := (Hg2.out 0 _ rfl).lt
     have lx := (Hv2.out 0 _ rfl).lt
     go_wp2_with fail
     (with_reducible refine (Hq2.out _ ?_).mono ?_)
     ·exact Hi2.out.below (show Below w2.heap.size w2 _ from belt)
     rintro e w3 ⟨rfl, b3⟩
     have c3 : Below w2.heap.size w2 w3 := Below.trans belt (b3.mono omh)
     have s3 := c3.size
     have bb3 := Hbb2.out.trans (c3.mono Hbb2.out.size)
     have k3 := Hk2.out.below c3
     have g3 := Hg2.out.below c3
     have v3 := Hv2.out.below c3
     have ⟨Hb3, Hc3, Hbb3, Hk3, Hg3, Hv3⟩ := hid6 b3 c3 bb3 k3 g3 v3; clear b3 c3 bb3 k3 g3 v3
     clear y0 y1 y2 y3 y4 y5 y6 y7 y8 y9 y10 y11 z0 z1 z2 z3 z4 z5 z6 z7 z8 x0 x1 x2 x3 ly lz lx
     obtain ⟨y0, y1, y2, y3, y4, y5, y6, y7, y8, y9, y10, y11⟩ := at12_of Hk3.out
     obtain ⟨z0, z1, z2, z3, z4, z5, z6, z7, z8⟩ := at9_of Hg3.out
     have ly := (Hk3.out 0 _ rfl).lt
     have lz := (Hg3.out 0 _ rfl).lt
     go_wp2_with fail
     (with_reducible refine (Hq3.out _).mono ?_)
     rintro e w4 ⟨rfl, b4⟩
     have c4 : Below w3.heap.size w3 w4 := Below.trans belt (b4.mono omh)
     have s4 := c4.size
     have bb4 := Hbb3.out.trans (c4.mono Hbb3.out.size)
     have k4 := Hk3.out.below c4
     have g4 := Hg3.out.below c4
     have v4 := Hv3.out.below c4
     have ⟨Hb4, Hc4, Hbb4, Hk4, Hg4, Hv4⟩ := hid6 b4 c4 bb4 k4 g4 v4; clear b4 c4 bb4 k4 g4 v4
     clear y0 y1 y2 y3 y4 y5 y6 y7 y8 y9 y10 y11 z0 z1 z2 z3 z4 z5 z6 z7 z8 ly lz
     obtain ⟨z0, z1, z2, z3, z4, z5, z6, z7, z8⟩ := at9_of Hg4.out
     obtain ⟨x0, x1, x2, x3⟩ := at4_of Hv4.out
     go_wp2_with fail
     go_ret
     exact ⟨ret_bool (by rw [HhR.out]), Hbb4.out⟩
    ·rw [h4] at hR
     clear h4
     subst h3
     have j1 : decide (s.c ≤ cn) = false := decide_eq_false h5
     have ⟨Hbb0, Hk0, Hg0, Hhw0, Hq1, Hq2, Hq3, HhR⟩ := hid8 bb0 k0 g0 hw0 q1 q2 q3 hR; clear bb0 k0 g0 hw0 q1 q2 q3 hR; have ⟨Hhx, Hhy, Hsl0, Hsl⟩ := hid4 hx hy sl0 sl; clear hx hy sl0 sl
     go_enter Tryz.func64, Tryz.ntmps64
     go_wp2_with fail
     rw [Hhw0.out]
     obtain ⟨y0, y1, y2, y3, y4, y5, y6, y7, y8, y9, y10, y11⟩ := at12_of Hk0.out
     go_wp2_with fail
     (with_reducible refine (Hq1.out _ ?_).mono ?_)
     ·exact Hbb0.out
     rintro e w1 ⟨rfl, b1⟩
     have c1 : Below w0.heap.size w0 w1 := Below.trans belt (b1.mono omh)
     have s1 := c1.size
     have bb1 := Hbb0.out.trans (c1.mono Hbb0.out.size)
     have k1 := Hk0.out.below c1
     have g1 := Hg0.out.below c1
     have sl1 := Hsl0.out.below c1
     have ⟨Hb1, Hc1, Hbb1, Hk1, Hg1, Hsl1⟩ := hid6 b1 c1 bb1 k1 g1 sl1; clear b1 c1 bb1 k1 g1 sl1
     clear y0 y1 y2 y3 y4 y5 y6 y7 y8 y9 y10 y11
     go_upto_region 2 with (fail)
     obtain ⟨w2, hw2⟩ : ∃ W, w1.alloc (.cells #[.int .i64 s.s, .int .i64 s.c, .slice K s.l.length tt, .int .u64 s.u] 45) = W := ⟨_, rfl⟩
     rw [hw2]
     have c2 : Below w1.heap.size w1 w2 := by rw [← hw2]; exact (Below.refl _ _).alloc (Nat.le_refl _) _
     have v2 : Blk w2 w1.heap.size #[.int .i64 s.s, .int .i64 s.c, .slice K s.l.length tt, .int .u64 s.u] := by rw [← hw2]; exact blk_new rfl
     have k2 := Hk1.out.below c2
     have g2 := Hg1.out.below c2
     have i2 := Hsl1.out.ints.below c2
     have bb2 := Hbb1.out.trans (c2.mono Hbb1.out.size)
     have ⟨Hhw2, Hc2, Hv2, Hk2, Hg2, Hi2, Hbb2⟩ := hid7 hw2 c2 v2 k2 g2 i2 bb2; clear hw2 c2 v2 k2 g2 i2 bb2
     obtain ⟨y0, y1, y2, y3, y4, y5, y6, y7, y8, y9, y10, y11⟩ := at12_of Hk2.out
     obtain ⟨z0, z1, z2, z3, z4, z5, z6, z7, z8⟩ := at9_of Hg2.out
     obtain ⟨x0, x1, x2, x3⟩ := at4_of Hv2.out
     have ly := (Hk2.out 0 _ rfl).lt
     have lz := (Hg2.out 0 _ rfl).lt
     have lx := (Hv2.out 0 _ rfl).lt
     go_wp2_with fail
     (with_reducible refine (Hq2.out _ ?_).mono ?_)
     ·exact Hi2.out.below (show Below w2.heap.size w2 _ from belt)
     rintro e w3 ⟨rfl, b3⟩
     have c3 : Below w2.heap.size w2 w3 := Below.trans belt (b3.mono omh)
     have s3 := c3.size
     have bb3 := Hbb2.out.trans (c3.mono Hbb2.out.size)
     have k3 := Hk2.out.below c3
     have g3 := Hg2.out.below c3
     have v3 := Hv2.out.below c3
     have ⟨Hb3, Hc3, Hbb3, Hk3, Hg3, Hv3⟩ := hid6 b3 c3 bb3 k3 g3 v3; clear b3 c3 bb3 k3 g3 v3
     clear y0 y1 y2 y3 y4 y5 y6 y7 y8 y9 y10 y11 z0 z1 z2 z3 z4 z5 z6 z7 z8 x0 x1 x2 x3 ly lz lx
     obtain ⟨y0, y1, y2, y3, y4, y5, y6, y7, y8, y9, y10, y11⟩ := at12_of Hk3.out
     obtain ⟨z0, z1, z2, z3, z4, z5, z6, z7, z8⟩ := at9_of Hg3.out
     have ly := (Hk3.out 0 _ rfl).lt
     have lz := (Hg3.out 0 _ rfl).lt
     go_wp2_with fail
     (with_reducible refine (Hq3.out _).mono ?_)
     rintro e w4 ⟨rfl, b4⟩
     have c4 : Below w3.heap.size w3 w4 := Below.trans belt (b4.mono omh)
     have s4 := c4.size
     have bb4 := Hbb3.out.trans (c4.mono Hbb3.out.size)
     have k4 := Hk3.out.below c4
     have g4 := Hg3.out.below c4
     have v4 := Hv3.out.below c4
     have ⟨Hb4, Hc4, Hbb4, Hk4, Hg4, Hv4⟩ := hid6 b4 c4 bb4 k4 g4 v4; clear b4 c4 bb4 k4 g4 v4
     clear y0 y1 y2 y3 y4 y5 y6 y7 y8 y9 y10 y11 z0 z1 z2 z3 z4 z5 z6 z7 z8 ly lz
     obtain ⟨z0, z1, z2, z3, z4, z5, z6, z7, z8⟩ := at9_of Hg4.out
     obtain ⟨x0, x1, x2, x3⟩ := at4_of Hv4.out
     go_wp2_with fail
     go_ret
     exact ⟨ret_bool (by rw [HhR.out]), Hbb4.out⟩
 ·have i1 : (cd != ld) = true := by rw [bne_iff_ne]; exact h1
  rw [decide_eq_false h1, Bool.false_or] at hR
  by_cases h2 : cd = 0
  ·subst h2
   rw [decide_eq_true rfl, Bool.and_true] at hR
   cases H with
   | true =>
    rw [Bool.not_true, Bool.and_false, Bool.false_and] at hR
    have ⟨Hbb0, Hk0, Hg0, Hhw0, Hq1, Hq2, Hq3, HhR⟩ := hid8 bb0 k0 g0 hw0 q1 q2 q3 hR; clear bb0 k0 g0 hw0 q1 q2 q3 hR; have ⟨Hhx, Hhy, Hsl0, Hsl⟩ := hid4 hx hy sl0 sl; clear hx hy sl0 sl
    go_enter Tryz.func64, Tryz.ntmps64
    go_wp2_with fail
    rw [Hhw0.out]
    obtain ⟨y0, y1, y2, y3, y4, y5, y6, y7, y8, y9, y10, y11⟩ := at12_of Hk0.out
    go_wp2_with fail
    (with_reducible refine (Hq1.out _ ?_).mono ?_)
    ·exact Hbb0.out
    rintro e w1 ⟨rfl, b1⟩
    have c1 : Below w0.heap.size w0 w1 := Below.trans belt (b1.mono omh)
    have s1 := c1.size
    have bb1 := Hbb0.out.trans (c1.mono Hbb0.out.size)
    have k1 := Hk0.out.below c1
    have g1 := Hg0.out.below c1
    have sl1 := Hsl0.out.below c1
    have ⟨Hb1, Hc1, Hbb1, Hk1, Hg1, Hsl1⟩ := hid6 b1 c1 bb1 k1 g1 sl1; clear b1 c1 bb1 k1 g1 sl1
    clear y0 y1 y2 y3 y4 y5 y6 y7 y8 y9 y10 y11
    go_upto_region 2 with (fail)
    obtain ⟨w2, hw2⟩ : ∃ W, w1.alloc (.cells #[.int .i64 s.s, .int .i64 s.c, .slice K s.l.length tt, .int .u64 s.u] 45) = W := ⟨_, rfl⟩
    rw [hw2]
    have c2 : Below w1.heap.size w1 w2 := by rw [← hw2]; exact (Below.refl _ _).alloc (Nat.le_refl _) _
    have v2 : Blk w2 w1.heap.size #[.int .i64 s.s, .int .i64 s.c, .slice K s.l.length tt, .int .u64 s.u] := by rw [← hw2]; exact blk_new rfl
    have k2 := Hk1.out.below c2
    have g2 := Hg1.out.below c2
    have i2 := Hsl1.out.ints.below c2
    have bb2 := Hbb1.out.trans (c2.mono Hbb1.out.size)
    have ⟨Hhw2, Hc2, Hv2, Hk2, Hg2, Hi2, Hbb2⟩ := hid7 hw2 c2 v2 k2 g2 i2 bb2; clear hw2 c2 v2 k2 g2 i2 bb2
    obtain ⟨y0, y1, y2, y3, y4, y5, y6, y7, y8, y9, y10, y11⟩ := at12_of Hk2.out
    obtain ⟨z0, z1, z2, z3, z4, z5, z6, z7, z8⟩ := at9_of Hg2.out
    obtain ⟨x0, x1, x2, x3⟩ := at4_of Hv2.out
    have ly := (Hk2.out 0 _ rfl).lt
    have lz := (Hg2.out 0 _ rfl).lt
    have lx := (Hv2.out 0 _ rfl).lt
    go_wp2_with fail
    (with_reducible refine (Hq2.out _ ?_).mono ?_)
    ·exact Hi2.out.below (show Below w2.heap.size w2 _ from belt)
    rintro e w3 ⟨rfl, b3⟩
    have c3 : Below w2.heap.size w2 w3 := Below.trans belt (b3.mono omh)
    have s3 := c3.size
    have bb3 := Hbb2.out.trans (c3.mono Hbb2.out.size)
    have k3 := Hk2.out.below c3
    have g3 := Hg2.out.below c3
    have v3 := Hv2.out.below c3
    have ⟨Hb3, Hc3, Hbb3, Hk3, Hg3, Hv3⟩ := hid6 b3 c3 bb3 k3 g3 v3; clear b3 c3 bb3 k3 g3 v3
    clear y0 y1 y2 y3 y4 y5 y6 y7 y8 y9 y10 y11 z0 z1 z2 z3 z4 z5 z6 z7 z8 x0 x1 x2 x3 ly lz lx
    go_wp2_with fail
    go_ret
    exact ⟨ret_bool (by rw [HhR.out]), Hbb3.out⟩
   | false =>
    rw [Bool.not_false, Bool.and_true] at hR
    cases M with
    | false =>
     rw [Bool.false_and] at hR
     have ⟨Hbb0, Hk0, Hg0, Hhw0, Hq1, Hq2, Hq3, HhR⟩ := hid8 bb0 k0 g0 hw0 q1 q2 q3 hR; clear bb0 k0 g0 hw0 q1 q2 q3 hR; have ⟨Hhx, Hhy, Hsl0, Hsl⟩ := hid4 hx hy sl0 sl; clear hx hy sl0 sl
     go_enter Tryz.func64, Tryz.ntmps64
     go_wp2_with fail
     rw [Hhw0.out]
     obtain ⟨y0, y1, y2, y3, y4, y5, y6, y7, y8, y9, y10, y11⟩ := at12_of Hk0.out
     go_wp2_with fail
     (with_reducible refine (Hq1.out _ ?_).mono ?_)
     ·exact Hbb0.out
     rintro e w1 ⟨rfl, b1⟩
     have c1 : Below w0.heap.size w0 w1 := Below.trans belt (b1.mono omh)
     have s1 := c1.size
     have bb1 := Hbb0.out.trans (c1.mono Hbb0.out.size)
     have k1 := Hk0.out.below c1
     have g1 := Hg0.out.below c1
     have sl1 := Hsl0.out.below c1
     have ⟨Hb1, Hc1, Hbb1, Hk1, Hg1, Hsl1⟩ := hid6 b1 c1 bb1 k1 g1 sl1; clear b1 c1 bb1 k1 g1 sl1
     clear y0 y1 y2 y3 y4 y5 y6 y7 y8 y9 y10 y11
     go_upto_region 2 with (fail)
     obtain ⟨w2, hw2⟩ : ∃ W, w1.alloc (.cells #[.int .i64 s.s, .int .i64 s.c, .slice K s.l.length tt, .int .u64 s.u] 45) = W := ⟨_, rfl⟩
     rw [hw2]
     have c2 : Below w1.heap.size w1 w2 := by rw [← hw2]; exact (Below.refl _ _).alloc (Nat.le_refl _) _
     have v2 : Blk w2 w1.heap.size #[.int .i64 s.s, .int .i64 s.c, .slice K s.l.length tt, .int .u64 s.u] := by rw [← hw2]; exact blk_new rfl
     have k2 := Hk1.out.below c2
     have g2 := Hg1.out.below c2
     have i2 := Hsl1.out.ints.below c2
     have bb2 := Hbb1.out.trans (c2.mono Hbb1.out.size)
     have ⟨Hhw2, Hc2, Hv2, Hk2, Hg2, Hi2, Hbb2⟩ := hid7 hw2 c2 v2 k2 g2 i2 bb2; clear hw2 c2 v2 k2 g2 i2 bb2
     obtain ⟨y0, y1, y2, y3, y4, y5, y6, y7, y8, y9, y10, y11⟩ := at12_of Hk2.out
     obtain ⟨z0, z1, z2, z3, z4, z5, z6, z7, z8⟩ := at9_of Hg2.out
     obtain ⟨x0, x1, x2, x3⟩ := at4_of Hv2.out
     have ly := (Hk2.out 0 _ rfl).lt
     have lz := (Hg2.out 0 _ rfl).lt
     have lx := (Hv2.out 0 _ rfl).lt
     go_wp2_with fail
     (with_reducible refine (Hq2.out _ ?_).mono ?_)
     ·exact Hi2.out.below (show Below w2.heap.size w2 _ from belt)
     rintro e w3 ⟨rfl, b3⟩
     have c3 : Below w2.heap.size w2 w3 := Below.trans belt (b3.mono omh)
     have s3 := c3.size
     have bb3 := Hbb2.out.trans (c3.mono Hbb2.out.size)
     have k3 := Hk2.out.below c3
     have g3 := Hg2.out.below c3
     have v3 := Hv2.out.below c3
     have ⟨Hb3, Hc3, Hbb3, Hk3, Hg3, Hv3⟩ := hid6 b3 c3 bb3 k3 g3 v3; clear b3 c3 bb3 k3 g3 v3
     clear y0 y1 y2 y3 y4 y5 y6 y7 y8 y9 y10 y11 z0 z1 z2 z3 z4 z5 z6 z7 z8 x0 x1 x2 x3 ly lz lx
     obtain ⟨y0, y1, y2, y3, y4, y5, y6, y7, y8, y9, y10, y11⟩ := at12_of Hk3.out
     obtain ⟨z0, z1, z2, z3, z4, z5, z6, z7, z8⟩ := at9_of Hg3.out
     have ly := (Hk3.out 0 _ rfl).lt
     have lz := (Hg3.out 0 _ rfl).lt
     go_wp2_with fail
     (with_reducible refine (Hq3.out _).mono ?_)
     rintro e w4 ⟨rfl, b4⟩
     have c4 : Below w3.heap.size w3 w4 := Below.trans belt (b4.mono omh)
     have s4 := c4.size
     have bb4 := Hbb3.out.trans (c4.mono Hbb3.out.size)
     have k4 := Hk3.out.below c4
     have g4 := Hg3.out.below c4
     have v4 := Hv3.out.below c4
     have ⟨Hb4, Hc4, Hbb4, Hk4, Hg4, Hv4⟩ := hid6 b4 c4 bb4 k4 g4 v4; clear b4 c4 bb4 k4 g4 v4
     clear y0 y1 y2 y3 y4 y5 y6 y7 y8 y9 y10 y11 z0 z1 z2 z3 z4 z5 z6 z7 z8 ly lz
     obtain ⟨z0, z1, z2, z3, z4, z5, z6, z7, z8⟩ := at9_of Hg4.out
     obtain ⟨x0, x1, x2, x3⟩ := at4_of Hv4.out
     go_wp2_with fail
     go_ret
     exact ⟨ret_bool (by rw [HhR.out]), Hbb4.out⟩
    | true =>
     rw [Bool.true_and] at hR
     rcases hK with ⟨h3, h4⟩ | ⟨h3, h5, h4⟩ | ⟨h3, h5, h4⟩
     ·have j1 : (ck != 1) = true := by rw [bne_iff_ne]; exact h3
      rw [h4] at hR
      clear h4
      have ⟨Hbb0, Hk0, Hg0, Hhw0, Hq1, Hq2, Hq3, HhR⟩ := hid8 bb0 k0 g0 hw0 q1 q2 q3 hR; clear bb0 k0 g0 hw0 q1 q2 q3 hR; have ⟨Hhx, Hhy, Hsl0, Hsl⟩ := hid4 hx hy sl0 sl; clear hx hy sl0 sl
      go_enter Tryz.func64, Tryz.ntmps64
      go_wp2_with fail
      rw [Hhw0.out]
      obtain ⟨y0, y1, y2, y3, y4, y5, y6, y7, y8, y9, y10, y11⟩ := at12_of Hk0.out
      go_wp2_with fail
      (with_reducible refine (Hq1.out _ ?_).mono ?_)
      ·exact Hbb0.out
      rintro e w1 ⟨rfl, b1⟩
      have c1 : Below w0.heap.size w0 w1 := Below.trans belt (b1.mono omh)
      have s1 := c1.size
      have bb1 := Hbb0.out.trans (c1.mono Hbb0.out.size)
      have k1 := Hk0.out.below c1
      have g1 := Hg0.out.below c1
      have sl1 := Hsl0.out.below c1
      have ⟨Hb1, Hc1, Hbb1, Hk1, Hg1, Hsl1⟩ := hid6 b1 c1 bb1 k1 g1 sl1; clear b1 c1 bb1 k1 g1 sl1
      clear y0 y1 y2 y3 y4 y5 y6 y7 y8 y9 y10 y11
      go_upto_region 2 with (fail)
      obtain ⟨w2, hw2⟩ : ∃ W, w1.alloc (.cells #[.int .i64 s.s, .int .i64 s.c, .slice K s.l.length tt, .int .u64 s.u] 45) = W := ⟨_, rfl⟩
      rw [hw2]
      have c2 : Below w1.heap.size w1 w2 := by rw [← hw2]; exact (Below.refl _ _).alloc (Nat.le_refl _) _
      have v2 : Blk w2 w1.heap.size #[.int .i64 s.s, .int .i64 s.c, .slice K s.l.length tt, .int .u64 s.u] := by rw [← hw2]; exact blk_new rfl
      have k2 := Hk1.out.below c2
      have g2 := Hg1.out.below c2
      have i2 := Hsl1.out.ints.below c2
      have bb2 := Hbb1.out.trans (c2.mono Hbb1.out.size)
      have ⟨Hhw2, Hc2, Hv2, Hk2, Hg2, Hi2, Hbb2⟩ := hid7 hw2 c2 v2 k2 g2 i2 bb2; clear hw2 c2 v2 k2 g2 i2 bb2
      obtain ⟨y0, y1, y2, y3, y4, y5, y6, y7, y8, y9, y10, y11⟩ := at12_of Hk2.out
      obtain ⟨z0, z1, z2, z3, z4, z5, z6, z7, z8⟩ := at9_of Hg2.out
      obtain ⟨x0, x1, x2, x3⟩ := at4_of Hv2.out
      have ly := (Hk2.out 0 _ rfl).lt
      have lz := (Hg2.out 0 _ rfl).lt
      have lx := (Hv2.out 0 _ rfl).lt
      go_wp2_with fail
      (with_reducible refine (Hq2.out _ ?_).mono ?_)
      ·exact Hi2.out.below (show Below w2.heap.size w2 _ from belt)
      rintro e w3 ⟨rfl, b3⟩
      have c3 : Below w2.heap.size w2 w3 := Below.trans belt (b3.mono omh)
      have s3 := c3.size
      have bb3 := Hbb2.out.trans (c3.mono Hbb2.out.size)
      have k3 := Hk2.out.below c3
      have g3 := Hg2.out.below c3
      have v3 := Hv2.out.below c3
      have ⟨Hb3, Hc3, Hbb3, Hk3, Hg3, Hv3⟩ := hid6 b3 c3 bb3 k3 g3 v3; clear b3 c3 bb3 k3 g3 v3
      clear y0 y1 y2 y3 y4 y5 y6 y7 y8 y9 y10 y11 z0 z1 z2 z3 z4 z5 z6 z7 z8 x0 x1 x2 x3 ly lz lx
      obtain ⟨y0, y1, y2, y3, y4, y5, y6, y7, y8, y9, y10, y11⟩ := at12_of Hk3.out
      obtain ⟨z0, z1, z2, z3, z4, z5, z6, z7, z8⟩ := at9_of Hg3.out
      have ly := (Hk3.out 0 _ rfl).lt
      have lz := (Hg3.out 0 _ rfl).lt
      go_wp2_with fail
      (with_reducible refine (Hq3.out _).mono ?_)
      rintro e w4 ⟨rfl, b4⟩
      have c4 : Below w3.heap.size w3 w4 := Below.trans belt (b4.mono omh)
      have s4 := c4.size
      have bb4 := Hbb3.out.trans (c4.mono Hbb3.out.size)
      have k4 := Hk3.out.below c4
      have g4 := Hg3.out.below c4
      have v4 := Hv3.out.below c4
      have ⟨Hb4, Hc4, Hbb4, Hk4, Hg4, Hv4⟩ := hid6 b4 c4 bb4 k4 g4 v4; clear b4 c4 bb4 k4 g4 v4
      clear y0 y1 y2 y3 y4 y5 y6 y7 y8 y9 y10 y11 z0 z1 z2 z3 z4 z5 z6 z7 z8 ly lz
      obtain ⟨z0, z1, z2, z3, z4, z5, z6, z7, z8⟩ := at9_of Hg4.out
      obtain ⟨x0, x1, x2, x3⟩ := at4_of Hv4.out
      go_wp2_with fail
      go_ret
      exact ⟨ret_bool (by rw [HhR.out]), Hbb4.out⟩
     ·rw [h4] at hR
      clear h4
      subst h3
      have j1 : decide (s.c ≤ cn) = true := decide_eq_true h5
      have ⟨Hbb0, Hk0, Hg0, Hhw0, Hq1, Hq2, Hq3, HhR⟩ := hid8 bb0 k0 g0 hw0 q1 q2 q3 hR; clear bb0 k0 g0 hw0 q1 q2 q3 hR; have ⟨Hhx, Hhy, Hsl0, Hsl⟩ := hid4 hx hy sl0 sl; clear hx hy sl0 sl
      go_enter Tryz.func64, Tryz.ntmps64
      go_wp2_with fail
      rw [Hhw0.out]
      obtain ⟨y0, y1, y2, y3, y4, y5, y6, y7, y8, y9, y10, y11⟩ := at12_of Hk0.out
      go_wp2_with fail
      (with_reducible refine (Hq1.out _ ?_).mono ?_)
      ·exact Hbb0.out
      rintro e w1 ⟨rfl, b1⟩
      have c1 : Below w0.heap.size w0 w1 := Below.trans belt (b1.mono omh)
      have s1 := c1.size
      have bb1 := Hbb0.out.trans (c1.mono Hbb0.out.size)
      have k1 := Hk0.out.below c1
      have g1 := Hg0.out.below c1
      have sl1 := Hsl0.out.below c1
      have ⟨Hb1, Hc1, Hbb1, Hk1, Hg1, Hsl1⟩ := hid6 b1 c1 bb1 k1 g1 sl1; clear b1 c1 bb1 k1 g1 sl1
      clear y0 y1 y2 y3 y4 y5 y6 y7 y8 y9 y10 y11
      go_upto_region 2 with (fail)
      obtain ⟨w2, hw2⟩ : ∃ W, w1.alloc (.cells #[.int .i64 s.s, .int .i64 s.c, .slice K s.l.length tt, .int .u64 s.u] 45) = W := ⟨_, rfl⟩
      rw [hw2]
      have c2 : Below w1.heap.size w1 w2 := by rw [← hw2]; exact (Below.refl _ _).alloc (Nat.le_refl _) _
      have v2 : Blk w2 w1.heap.size #[.int .i64 s.s, .int .i64 s.c, .slice K s.l.length tt, .int .u64 s.u] := by rw [← hw2]; exact blk_new rfl
      have k2 := Hk1.out.below c2
      have g2 := Hg1.out.below c2
      have i2 := Hsl1.out.ints.below c2
      have bb2 := Hbb1.out.trans (c2.mono Hbb1.out.size)
      have ⟨Hhw2, Hc2, Hv2, Hk2, Hg2, Hi2, Hbb2⟩ := hid7 hw2 c2 v2 k2 g2 i2 bb2; clear hw2 c2 v2 k2 g2 i2 bb2
      obtain ⟨y0, y1, y2, y3, y4, y5, y6, y7, y8, y9, y10, y11⟩ := at12_of Hk2.out
      obtain ⟨z0, z1, z2, z3, z4, z5, z6, z7, z8⟩ := at9_of Hg2.out
      obtain ⟨x0, x1, x2, x3⟩ := at4_of Hv2.out
      have ly := (Hk2.out 0 _ rfl).lt
      have lz := (Hg2.out 0 _ rfl).lt
      have lx := (Hv2.out 0 _ rfl).lt
      go_wp2_with fail
      (with_reducible refine (Hq2.out _ ?_).mono ?_)
      ·exact Hi2.out.below (show Below w2.heap.size w2 _ from belt)
      rintro e w3 ⟨rfl, b3⟩
      have c3 : Below w2.heap.size w2 w3 := Below.trans belt (b3.mono omh)
      have s3 := c3.size
      have bb3 := Hbb2.out.trans (c3.mono Hbb2.out.size)
      have k3 := Hk2.out.below c3
      have g3 := Hg2.out.below c3
      have v3 := Hv2.out.below c3
      have ⟨Hb3, Hc3, Hbb3, Hk3, Hg3, Hv3⟩ := hid6 b3 c3 bb3 k3 g3 v3; clear b3 c3 bb3 k3 g3 v3
      clear y0 y1 y2 y3 y4 y5 y6 y7 y8 y9 y10 y11 z0 z1 z2 z3 z4 z5 z6 z7 z8 x0 x1 x2 x3 ly lz lx
      obtain ⟨y0, y1, y2, y3, y4, y5, y6, y7, y8, y9, y10, y11⟩ := at12_of Hk3.out
      obtain ⟨z0, z1, z2, z3, z4, z5, z6, z7, z8⟩ := at9_of Hg3.out
      have ly := (Hk3.out 0 _ rfl).lt
      have lz := (Hg3.out 0 _ rfl).lt
      go_wp2_with fail
      (with_reducible refine (Hq3.out _).mono ?_)
      rintro e w4 ⟨rfl, b4⟩
      have c4 : Below w3.heap.size w3 w4 := Below.trans belt (b4.mono omh)
      have s4 := c4.size
      have bb4 := Hbb3.out.trans (c4.mono Hbb3.out.size)
      have k4 := Hk3.out.below c4
      have g4 := Hg3.out.below c4
      have v4 := Hv3.out.below c4
      have ⟨Hb4, Hc4, Hbb4, Hk4, Hg4, Hv4⟩ := hid6 b4 c4 bb4 k4 g4 v4; clear b4 c4 bb4 k4 g4 v4
      clear y0 y1 y2 y3 y4 y5 y6 y7 y8 y9 y10 y11 z0 z1 z2 z3 z4 z5 z6 z7 z8 ly lz
      obtain ⟨z0, z1, z2, z3, z4, z5, z6, z7, z8⟩ := at9_of Hg4.out
      obtain ⟨x0, x1, x2, x3⟩ := at4_of Hv4.out
      go_wp2_with fail
      go_ret
      exact ⟨ret_bool (by rw [HhR.out]), Hbb4.out⟩
     ·rw [h4] at hR
      clear h4
      subst h3
      have j1 : decide (s.c ≤ cn) = false := decide_eq_false h5
      have ⟨Hbb0, Hk0, Hg0, Hhw0, Hq1, Hq2, Hq3, HhR⟩ := hid8 bb0 k0 g0 hw0 q1 q2 q3 hR; clear bb0 k0 g0 hw0 q1 q2 q3 hR; have ⟨Hhx, Hhy, Hsl0, Hsl⟩ := hid4 hx hy sl0 sl; clear hx hy sl0 sl
      go_enter Tryz.func64, Tryz.ntmps64
      go_wp2_with fail
      rw [Hhw0.out]
      obtain ⟨y0, y1, y2, y3, y4, y5, y6, y7, y8, y9, y10, y11⟩ := at12_of Hk0.out
      go_wp2_with fail
      (with_reducible refine (Hq1.out _ ?_).mono ?_)
      ·exact Hbb0.out
      rintro e w1 ⟨rfl, b1⟩
      have c1 : Below w0.heap.size w0 w1 := Below.trans belt (b1.mono omh)
      have s1 := c1.size
      have bb1 := Hbb0.out.trans (c1.mono Hbb0.out.size)
      have k1 := Hk0.out.below c1
      have g1 := Hg0.out.below c1
      have sl1 := Hsl0.out.below c1
      have ⟨Hb1, Hc1, Hbb1, Hk1, Hg1, Hsl1⟩ := hid6 b1 c1 bb1 k1 g1 sl1; clear b1 c1 bb1 k1 g1 sl1
      clear y0 y1 y2 y3 y4 y5 y6 y7 y8 y9 y10 y11
      go_upto_region 2 with (fail)
      obtain ⟨w2, hw2⟩ : ∃ W, w1.alloc (.cells #[.int .i64 s.s, .int .i64 s.c, .slice K s.l.length tt, .int .u64 s.u] 45) = W := ⟨_, rfl⟩
      rw [hw2]
      have c2 : Below w1.heap.size w1 w2 := by rw [← hw2]; exact (Below.refl _ _).alloc (Nat.le_refl _) _
      have v2 : Blk w2 w1.heap.size #[.int .i64 s.s, .int .i64 s.c, .slice K s.l.length tt, .int .u64 s.u] := by rw [← hw2]; exact blk_new rfl
      have k2 := Hk1.out.below c2
      have g2 := Hg1.out.below c2
      have i2 := Hsl1.out.ints.below c2
      have bb2 := Hbb1.out.trans (c2.mono Hbb1.out.size)
      have ⟨Hhw2, Hc2, Hv2, Hk2, Hg2, Hi2, Hbb2⟩ := hid7 hw2 c2 v2 k2 g2 i2 bb2; clear hw2 c2 v2 k2 g2 i2 bb2
      obtain ⟨y0, y1, y2, y3, y4, y5, y6, y7, y8, y9, y10, y11⟩ := at12_of Hk2.out
      obtain ⟨z0, z1, z2, z3, z4, z5, z6, z7, z8⟩ := at9_of Hg2.out
      obtain ⟨x0, x1, x2, x3⟩ := at4_of Hv2.out
      have ly := (Hk2.out 0 _ rfl).lt
      have lz := (Hg2.out 0 _ rfl).lt
      have lx := (Hv2.out 0 _ rfl).lt
      go_wp2_with fail
      (with_reducible refine (Hq2.out _ ?_).mono ?_)
      ·exact Hi2.out.below (show Below w2.heap.size w2 _ from belt)
      rintro e w3 ⟨rfl, b3⟩
      have c3 : Below w2.heap.size w2 w3 := Below.trans belt (b3.mono omh)
      have s3 := c3.size
      have bb3 := Hbb2.out.trans (c3.mono Hbb2.out.size)
      have k3 := Hk2.out.below c3
      have g3 := Hg2.out.below c3
      have v3 := Hv2.out.below c3
      have ⟨Hb3, Hc3, Hbb3, Hk3, Hg3, Hv3⟩ := hid6 b3 c3 bb3 k3 g3 v3; clear b3 c3 bb3 k3 g3 v3
      clear y0 y1 y2 y3 y4 y5 y6 y7 y8 y9 y10 y11 z0 z1 z2 z3 z4 z5 z6 z7 z8 x0 x1 x2 x3 ly lz lx
      obtain ⟨y0, y1, y2, y3, y4, y5, y6, y7, y8, y9, y10, y11⟩ := at12_of Hk3.out
      obtain ⟨z0, z1, z2, z3, z4, z5, z6, z7, z8⟩ := at9_of Hg3.out
      have ly := (Hk3.out 0 _ rfl).lt
      have lz := (Hg3.out 0 _ rfl).lt
      go_wp2_with fail
      (with_reducible refine (Hq3.out _).mono ?_)
      rintro e w4 ⟨rfl, b4⟩
      have c4 : Below w3.heap.size w3 w4 := Below.trans belt (b4.mono omh)
      have s4 := c4.size
      have bb4 := Hbb3.out.trans (c4.mono Hbb3.out.size)
      have k4 := Hk3.out.below c4
      have g4 := Hg3.out.below c4
      have v4 := Hv3.out.below c4
      have ⟨Hb4, Hc4, Hbb4, Hk4, Hg4, Hv4⟩ := hid6 b4 c4 bb4 k4 g4 v4; clear b4 c4 bb4 k4 g4 v4
      clear y0 y1 y2 y3 y4 y5 y6 y7 y8 y9 y10 y11 z0 z1 z2 z3 z4 z5 z6 z7 z8 ly lz
      obtain ⟨z0, z1, z2, z3, z4, z5, z6, z7, z8⟩ := at9_of Hg4.out
      obtain ⟨x0, x1, x2, x3⟩ := at4_of Hv4.out
      go_wp2_with fail
      go_ret
      exact ⟨ret_bool (by rw [HhR.out]), Hbb4.out⟩
  ·have i2 : (cd != 0) = true := by rw [bne_iff_ne]; exact h2
   rw [decide_eq_false h2, Bool.and_false, Bool.false_and, Bool.false_and] at hR
   have ⟨Hbb0, Hk0, Hg0, Hhw0, Hq1, Hq2, Hq3, HhR⟩ := hid8 bb0 k0 g0 hw0 q1 q2 q3 hR; clear bb0 k0 g0 hw0 q1 q2 q3 hR; have ⟨Hhx, Hhy, Hsl0, Hsl⟩ := hid4 hx hy sl0 sl; clear hx hy sl0 sl
   go_enter Tryz.func64, Tryz.ntmps64
   go_wp2_with fail
   rw [Hhw0.out]
   obtain ⟨y0, y1, y2, y3, y4, y5, y6, y7, y8, y9, y10, y11⟩ := at12_of Hk0.out
   go_wp2_with fail
   (with_reducible refine (Hq1.out _ ?_).mono ?_)
   ·exact Hbb0.out
   rintro e w1 ⟨rfl, b1⟩
   have c1 : Below w0.heap.size w0 w1 := Below.trans belt (b1.mono omh)
   have s1 := c1.size
   have bb1 := Hbb0.out.trans (c1.mono Hbb0.out.size)
   have k1 := Hk0.out.below c1
   have g1 := Hg0.out.below c1
   have sl1 := Hsl0.out.below c1
   have ⟨Hb1, Hc1, Hbb1, Hk1, Hg1, Hsl1⟩ := hid6 b1 c1 bb1 k1 g1 sl1; clear b1 c1 bb1 k1 g1 sl1
   clear y0 y1 y2 y3 y4 y5 y6 y7 y8 y9 y10 y11
   go_upto_region 2 with (fail)
   obtain ⟨w2, hw2⟩ : ∃ W, w1.alloc (.cells #[.int .i64 s.s, .int .i64 s.c, .slice K s.l.length tt, .int .u64 s.u] 45) = W := ⟨_, rfl⟩
   rw [hw2]
   have c2 : Below w1.heap.size w1 w2 := by rw [← hw2]; exact (Below.refl _ _).alloc (Nat.le_refl _) _
   have v2 : Blk w2 w1.heap.size #[.int .i64 s.s, .int .i64 s.c, .slice K s.l.length tt, .int .u64 s.u] := by rw [← hw2]; exact blk_new rfl
   have k2 := Hk1.out.below c2
   have g2 := Hg1.out.below c2
   have i2 := Hsl1.out.ints.below c2
   have bb2 := Hbb1.out.trans (c2.mono Hbb1.out.size)
   have ⟨Hhw2, Hc2, Hv2, Hk2, Hg2, Hi2, Hbb2⟩ := hid7 hw2 c2 v2 k2 g2 i2 bb2; clear hw2 c2 v2 k2 g2 i2 bb2
   obtain ⟨y0, y1, y2, y3, y4, y5, y6, y7, y8, y9, y10, y11⟩ := at12_of Hk2.out
   obtain ⟨z0, z1, z2, z3, z4, z5, z6, z7, z8⟩ := at9_of Hg2.out
   obtain ⟨x0, x1, x2, x3⟩ := at4_of Hv2.out
   have ly := (Hk2.out 0 _ rfl).lt
   have lz := (Hg2.out 0 _ rfl).lt
   have lx := (Hv2.out 0 _ rfl).lt
   go_wp2_with fail
   go_ret
   exact ⟨ret_bool (by rw [HhR.out]), Hbb2.out⟩
end Go.Proofs.YtclgncaghiinhaaGreatDoor

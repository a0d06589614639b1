/- Contract of package lock: accepts. -/
import Derived.Test.YtclgncaghiinhaaGreatDoorU22
import Derived.Test.YtclgncaghiinhaaGreatDoorU23
set_option linter.unusedSimpArgs false
set_option linter.unusedVariables false
set_option maxRecDepth 100000
namespace Go.Proofs.YtclgncaghiinhaaGreatDoor
open Go.RowKit
theorem contains_any (A : Option Addr) (n c : Nat) (l : List Int) (hl : l.length = n) (x : Int) (w : World) (hi : IntsAt w A .i64 l) (hn : n ≤ 100000) :
  Calls Tryz.prog 118 #[.slice A n c, .int .i64 x] w fun e w' => e = .returned (.bool (l.contains x)) ∧ Below w.heap.size w w' := by
 rcases Nat.eq_zero_or_pos n with h0 | h0
 ·subst h0
  have h0 : l = [] := List.eq_nil_of_length_eq_zero hl
  subst h0
  refine (Tryz.slices_Contains_int_empty A c x w).mono ?_
  rintro e w' ⟨rfl, rfl⟩
  exact ⟨rfl, Below.refl _ _⟩
 ·obtain ⟨b, off, rfl, _⟩ := hi 0 (by omega)
  have ht : l.take n = l := List.take_of_length_le (by omega)
  refine (Tryz.slices_Contains_int b off n c l x w (by omega) (by omega) (fun j hj => ?_)).mono ?_
  ·obtain ⟨b', off', e, _, hc⟩ := hi j hj
   injection e with e
   injection e with e1 e2
   subst e1 e2
   exact hc
  ·rintro e w' ⟨rfl, rfl⟩
   rw [ht]
   exact ⟨rfl, Below.refl _ _⟩
/-- whether a lock accepts a card -/
def accB (l : Lk) (c : Crd) (t : Int) : Bool := askB t l.r c.f c.u && mayB t l.r c.f c.u && (decide (c.d = l.d) || decide (c.d = 0)) && !(keepS l).l.contains c.i && (!decide (c.k = 1) || decide ((keepS l).c ≤ c.n))
set_option maxHeartbeats 4000000 in
theorem accepts_any (l : Lk) (c : Crd) (t : Int) (A : Option Addr) (n p : Nat) (B : Option Addr) (m q : Nat) (w : World) (hx : SlotIs w A n l.x) (hy : SlotIs w B m l.y) (ht : Tab w) :
  Calls Tryz.prog 104 #[.agg (l.cells A n p B m q).toArray, .agg c.cells.toArray, .int .i64 t] w fun e w' => e = .returned (.bool (accB l c t)) ∧ Below w.heap.size w w' := by
 obtain ⟨w0, hw0⟩ : ∃ W, (w.alloc (.cells (l.cells A n p B m q).toArray 85)).alloc (.cells c.cells.toArray 28) = W := ⟨_, rfl⟩
 have bb0 : Below w.heap.size w w0 := by rw [← hw0]; exact ((Below.refl _ _).alloc (Nat.le_refl _) _).alloc (by simp) _
 have k0 : Blk w0 w.heap.size (l.cells A n p B m q).toArray := by rw [← hw0]; exact (blk_new rfl).alloc _
 have g0 : Blk w0 (w.heap.size + 1) c.cells.toArray := by rw [← hw0]; exact blk_new (by simp)
 obtain ⟨K, tt, hs, q1⟩ := kept_as l A n p B m q w hx hy ht
 have fin : accB l c t = (askB t l.r c.f c.u && mayB t l.r c.f c.u && (decide (c.d = l.d) || decide (c.d = 0)) && !(keepS l).l.contains c.i && (!decide (c.k = 1) || decide ((keepS l).c ≤ c.n))) := rfl
 generalize accB l c t = R at *
 generalize keepS l = s at *
 generalize bestB l.x l.y = T at *
 have few := hs.few
 have q2 := fun W => clockMaybe_any t l.r c.f c.u W
 have q3 := fun W h => contains_any K s.l.length tt s.l rfl c.i W h (by omega)
 generalize askB t l.r c.f c.u = E at *
 generalize mayB t l.r c.f c.u = M at *
 generalize hC : s.l.contains c.i = C at *
 unfold errN at q2
 unfold Lk.cells at k0 hw0 q1 ⊢
 unfold Crd.cells at g0 hw0 ⊢
 obtain ⟨ci, ck, cd, cn, cf, cu, cl, ce, cs⟩ := c
 obtain ⟨ld, lk, lr, lx, ly, lu⟩ := l
 dsimp only at k0 hw0 q1 g0 q2 q3 fin ⊢
 cases E with
 | false =>
  simp only [Bool.false_eq_true, reduceIte, if_true, if_false] at q2
  have fin' : R = false := by rw [fin]; simp []
  clear fin
  have ⟨Hbb0, Hk0, Hg0, Hhw0, Hq1, Hq2, Hq3, Hhx⟩ := hid8 bb0 k0 g0 hw0 q1 q2 q3 hx; clear bb0 k0 g0 hw0 q1 q2 q3 hx; have ⟨Hhy, Hht, Hhs, Hfew, Hfin'⟩ := hid5 hy ht hs few fin'; clear hy ht hs few fin'
  go_enter Tryz.func104, Tryz.ntmps104
  go_wp2_with fail
  rw [Hhw0.out]
  obtain ⟨y0, y1, y2, y3, y4, y5, y6, y7, y8, y9, y10, y11⟩ := at12_of Hk0.out
  go_wp2_with fail
  (with_reducible refine (Hq1.out _ ?_).mono ?_)
  ·exact Hbb0.out
  rintro e w1 ⟨rfl, b1⟩
  have c1 : Below w0.heap.size w0 w1 := Below.trans belt (b1.mono omh)
  have s1 := c1.size
  have bb1 := Hbb0.out.trans (c1.mono Hbb0.out.size)
  have k1 := Hk0.out.below c1
  have g1 := Hg0.out.below c1
  have ⟨Hb1, Hc1, Hbb1, Hk1, Hg1⟩ := hid5 b1 c1 bb1 k1 g1; clear b1 c1 bb1 k1 g1
  clear y0 y1 y2 y3 y4 y5 y6 y7 y8 y9 y10 y11
  obtain ⟨y0, y1, y2, y3, y4, y5, y6, y7, y8, y9, y10, y11⟩ := at12_of Hk1.out
  obtain ⟨z0, z1, z2, z3, z4, z5, z6, z7, z8⟩ := at9_of Hg1.out
  have ly1 := (Hk1.out 0 _ rfl).lt
  have lz1 := (Hg1.out 0 _ rfl).lt
  have o1 : Blk (w1.alloc (.cells #[.int .i64 s.s, .int .i64 s.c, .slice K s.l.length tt, .int .u64 s.u] 45)) w1.heap.size #[.int .i64 s.s, .int .i64 s.c, .slice K s.l.length tt, .int .u64 s.u] := blk_new rfl
  go_wp2_with fail
  (with_reducible refine (Hq2.out _).mono ?_)
  rintro e w2 ⟨rfl, b2⟩
  have c2 : Below w1.heap.size w1 w2 := Below.trans belt (b2.mono omh)
  have s2 := c2.size
  have bb2 := Hbb1.out.trans (c2.mono Hbb1.out.size)
  have k2 := Hk1.out.below c2
  have g2 := Hg1.out.below c2
  have ⟨Hb2, Hc2, Hbb2, Hk2, Hg2⟩ := hid5 b2 c2 bb2 k2 g2; clear b2 c2 bb2 k2 g2
  have o2 := o1.below Hb2.out
  have e2 := Hhs.out.below Hbb2.out
  clear y0 y1 y2 y3 y4 y5 y6 y7 y8 y9 y10 y11 z0 z1 z2 z3 z4 z5 z6 z7 z8
  have ⟨Ho2, He2⟩ := hid2 o2 e2; clear o2 e2
  obtain ⟨y0, y1, y2, y3, y4, y5, y6, y7, y8, y9, y10, y11⟩ := at12_of Hk2.out
  obtain ⟨z0, z1, z2, z3, z4, z5, z6, z7, z8⟩ := at9_of Hg2.out
  obtain ⟨x0, x1, x2, x3⟩ := at4_of Ho2.out
  have ly2 := (Hk2.out 0 _ rfl).lt
  have lz2 := (Hg2.out 0 _ rfl).lt
  have lx2 := (Ho2.out 0 _ rfl).lt
  go_wp2_with fail
  all_goals
   go_ret
   exact ⟨ret_bool Hfin'.out.symm, Hbb2.out⟩
 | true =>
 cases M with
 | false =>
  simp only [Bool.false_eq_true, reduceIte, if_true, if_false] at q2
  have fin' : R = false := by rw [fin]; simp []
  clear fin
  have ⟨Hbb0, Hk0, Hg0, Hhw0, Hq1, Hq2, Hq3, Hhx⟩ := hid8 bb0 k0 g0 hw0 q1 q2 q3 hx; clear bb0 k0 g0 hw0 q1 q2 q3 hx; have ⟨Hhy, Hht, Hhs, Hfew, Hfin'⟩ := hid5 hy ht hs few fin'; clear hy ht hs few fin'
  go_enter Tryz.func104, Tryz.ntmps104
  go_wp2_with fail
  rw [Hhw0.out]
  obtain ⟨y0, y1, y2, y3, y4, y5, y6, y7, y8, y9, y10, y11⟩ := at12_of Hk0.out
  go_wp2_with fail
  (with_reducible refine (Hq1.out _ ?_).mono ?_)
  ·exact Hbb0.out
  rintro e w1 ⟨rfl, b1⟩
  have c1 : Below w0.heap.size w0 w1 := Below.trans belt (b1.mono omh)
  have s1 := c1.size
  have bb1 := Hbb0.out.trans (c1.mono Hbb0.out.size)
  have k1 := Hk0.out.below c1
  have g1 := Hg0.out.below c1
  have ⟨Hb1, Hc1, Hbb1, Hk1, Hg1⟩ := hid5 b1 c1 bb1 k1 g1; clear b1 c1 bb1 k1 g1
  clear y0 y1 y2 y3 y4 y5 y6 y7 y8 y9 y10 y11
  obtain ⟨y0, y1, y2, y3, y4, y5, y6, y7, y8, y9, y10, y11⟩ := at12_of Hk1.out
  obtain ⟨z0, z1, z2, z3, z4, z5, z6, z7, z8⟩ := at9_of Hg1.out
  have ly1 := (Hk1.out 0 _ rfl).lt
  have lz1 := (Hg1.out 0 _ rfl).lt
  have o1 : Blk (w1.alloc (.cells #[.int .i64 s.s, .int .i64 s.c, .slice K s.l.length tt, .int .u64 s.u] 45)) w1.heap.size #[.int .i64 s.s, .int .i64 s.c, .slice K s.l.length tt, .int .u64 s.u] := blk_new rfl
  go_wp2_with fail
  (with_reducible refine (Hq2.out _).mono ?_)
  rintro e w2 ⟨rfl, b2⟩
  have c2 : Below w1.heap.size w1 w2 := Below.trans belt (b2.mono omh)
  have s2 := c2.size
  have bb2 := Hbb1.out.trans (c2.mono Hbb1.out.size)
  have k2 := Hk1.out.below c2
  have g2 := Hg1.out.below c2
  have ⟨Hb2, Hc2, Hbb2, Hk2, Hg2⟩ := hid5 b2 c2 bb2 k2 g2; clear b2 c2 bb2 k2 g2
  have o2 := o1.below Hb2.out
  have e2 := Hhs.out.below Hbb2.out
  clear y0 y1 y2 y3 y4 y5 y6 y7 y8 y9 y10 y11 z0 z1 z2 z3 z4 z5 z6 z7 z8
  have ⟨Ho2, He2⟩ := hid2 o2 e2; clear o2 e2
  obtain ⟨y0, y1, y2, y3, y4, y5, y6, y7, y8, y9, y10, y11⟩ := at12_of Hk2.out
  obtain ⟨z0, z1, z2, z3, z4, z5, z6, z7, z8⟩ := at9_of Hg2.out
  obtain ⟨x0, x1, x2, x3⟩ := at4_of Ho2.out
  have ly2 := (Hk2.out 0 _ rfl).lt
  have lz2 := (Hg2.out 0 _ rfl).lt
  have lx2 := (Ho2.out 0 _ rfl).lt
  go_wp2_with fail
  all_goals
   go_ret
   exact ⟨ret_bool Hfin'.out.symm, Hbb2.out⟩
 | true =>
 by_cases h1 : cd = ld
 ·subst h1
  cases C with
  | true =>
   simp only [Bool.false_eq_true, reduceIte, if_true, if_false] at q2
   have fin' : R = false := by rw [fin]; simp []
   clear fin
   have ⟨Hbb0, Hk0, Hg0, Hhw0, Hq1, Hq2, Hq3, Hhx⟩ := hid8 bb0 k0 g0 hw0 q1 q2 q3 hx; clear bb0 k0 g0 hw0 q1 q2 q3 hx; have ⟨Hhy, Hht, Hhs, Hfew, Hfin'⟩ := hid5 hy ht hs few fin'; clear hy ht hs few fin'
   go_enter Tryz.func104, Tryz.ntmps104
   go_wp2_with fail
   rw [Hhw0.out]
   obtain ⟨y0, y1, y2, y3, y4, y5, y6, y7, y8, y9, y10, y11⟩ := at12_of Hk0.out
   go_wp2_with fail
   (with_reducible refine (Hq1.out _ ?_).mono ?_)
   ·exact Hbb0.out
   rintro e w1 ⟨rfl, b1⟩
   have c1 : Below w0.heap.size w0 w1 := Below.trans belt (b1.mono omh)
   have s1 := c1.size
   have bb1 := Hbb0.out.trans (c1.mono Hbb0.out.size)
   have k1 := Hk0.out.below c1
   have g1 := Hg0.out.below c1
   have ⟨Hb1, Hc1, Hbb1, Hk1, Hg1⟩ := hid5 b1 c1 bb1 k1 g1; clear b1 c1 bb1 k1 g1
   clear y0 y1 y2 y3 y4 y5 y6 y7 y8 y9 y10 y11
   obtain ⟨y0, y1, y2, y3, y4, y5, y6, y7, y8, y9, y10, y11⟩ := at12_of Hk1.out
   obtain ⟨z0, z1, z2, z3, z4, z5, z6, z7, z8⟩ := at9_of Hg1.out
   have ly1 := (Hk1.out 0 _ rfl).lt
   have lz1 := (Hg1.out 0 _ rfl).lt
   have o1 : Blk (w1.alloc (.cells #[.int .i64 s.s, .int .i64 s.c, .slice K s.l.length tt, .int .u64 s.u] 45)) w1.heap.size #[.int .i64 s.s, .int .i64 s.c, .slice K s.l.length tt, .int .u64 s.u] := blk_new rfl
   go_wp2_with fail
   (with_reducible refine (Hq2.out _).mono ?_)
   rintro e w2 ⟨rfl, b2⟩
   have c2 : Below w1.heap.size w1 w2 := Below.trans belt (b2.mono omh)
   have s2 := c2.size
   have bb2 := Hbb1.out.trans (c2.mono Hbb1.out.size)
   have k2 := Hk1.out.below c2
   have g2 := Hg1.out.below c2
   have ⟨Hb2, Hc2, Hbb2, Hk2, Hg2⟩ := hid5 b2 c2 bb2 k2 g2; clear b2 c2 bb2 k2 g2
   have o2 := o1.below Hb2.out
   have e2 := Hhs.out.below Hbb2.out
   clear y0 y1 y2 y3 y4 y5 y6 y7 y8 y9 y10 y11 z0 z1 z2 z3 z4 z5 z6 z7 z8
   have ⟨Ho2, He2⟩ := hid2 o2 e2; clear o2 e2
   obtain ⟨y0, y1, y2, y3, y4, y5, y6, y7, y8, y9, y10, y11⟩ := at12_of Hk2.out
   obtain ⟨z0, z1, z2, z3, z4, z5, z6, z7, z8⟩ := at9_of Hg2.out
   obtain ⟨x0, x1, x2, x3⟩ := at4_of Ho2.out
   have ly2 := (Hk2.out 0 _ rfl).lt
   have lz2 := (Hg2.out 0 _ rfl).lt
   have lx2 := (Ho2.out 0 _ rfl).lt
   go_wp2_with fail
   (with_reducible refine (Hq3.out _ ?_).mono ?_)
   ·exact (He2.out.below (show Below w2.heap.size w2 _ from belt)).ints
   rintro e w3 ⟨rfl, b3⟩
   have c3 : Below w2.heap.size w2 w3 := Below.trans belt (b3.mono omh)
   have s3 := c3.size
   have bb3 := Hbb2.out.trans (c3.mono Hbb2.out.size)
   have k3 := Hk2.out.below c3
   have g3 := Hg2.out.below c3
   have o3 := Ho2.out.below c3
   have e3 := He2.out.below c3
   have ⟨Hb3, Hc3, Hbb3, Hk3, Hg3, Ho3, He3⟩ := hid7 b3 c3 bb3 k3 g3 o3 e3; clear b3 c3 bb3 k3 g3 o3 e3
   clear y0 y1 y2 y3 y4 y5 y6 y7 y8 y9 y10 y11 z0 z1 z2 z3 z4 z5 z6 z7 z8 x0 x1 x2 x3
   obtain ⟨y0, y1, y2, y3, y4, y5, y6, y7, y8, y9, y10, y11⟩ := at12_of Hk3.out
   obtain ⟨z0, z1, z2, z3, z4, z5, z6, z7, z8⟩ := at9_of Hg3.out
   obtain ⟨x0, x1, x2, x3⟩ := at4_of Ho3.out
   go_wp2_with fail
   all_goals
    go_ret
    exact ⟨ret_bool Hfin'.out.symm, Hbb3.out⟩
  | false =>
  by_cases hk : ck = 1
  ·subst hk
   by_cases hn : s.c ≤ cn
   ·have dn : decide (s.c ≤ cn) = true := decide_eq_true hn
    simp only [Bool.false_eq_true, reduceIte, if_true, if_false] at q2
    have fin' : R = true := by rw [fin]; simp [hn]
    clear fin
    have ⟨Hbb0, Hk0, Hg0, Hhw0, Hq1, Hq2, Hq3, Hhx⟩ := hid8 bb0 k0 g0 hw0 q1 q2 q3 hx; clear bb0 k0 g0 hw0 q1 q2 q3 hx; have ⟨Hhy, Hht, Hhs, Hfew, Hfin'⟩ := hid5 hy ht hs few fin'; clear hy ht hs few fin'
    go_enter Tryz.func104, Tryz.ntmps104
    go_wp2_with fail
    rw [Hhw0.out]
    obtain ⟨y0, y1, y2, y3, y4, y5, y6, y7, y8, y9, y10, y11⟩ := at12_of Hk0.out
    go_wp2_with fail
    (with_reducible refine (Hq1.out _ ?_).mono ?_)
    ·exact Hbb0.out
    rintro e w1 ⟨rfl, b1⟩
    have c1 : Below w0.heap.size w0 w1 := Below.trans belt (b1.mono omh)
    have s1 := c1.size
    have bb1 := Hbb0.out.trans (c1.mono Hbb0.out.size)
    have k1 := Hk0.out.below c1
    have g1 := Hg0.out.below c1
    have ⟨Hb1, Hc1, Hbb1, Hk1, Hg1⟩ := hid5 b1 c1 bb1 k1 g1; clear b1 c1 bb1 k1 g1
    clear y0 y1 y2 y3 y4 y5 y6 y7 y8 y9 y10 y11
    obtain ⟨y0, y1, y2, y3, y4, y5, y6, y7, y8, y9, y10, y11⟩ := at12_of Hk1.out
    obtain ⟨z0, z1, z2, z3, z4, z5, z6, z7, z8⟩ := at9_of Hg1.out
    have ly1 := (Hk1.out 0 _ rfl).lt
    have lz1 := (Hg1.out 0 _ rfl).lt
    have o1 : Blk (w1.alloc (.cells #[.int .i64 s.s, .int .i64 s.c, .slice K s.l.length tt, .int .u64 s.u] 45)) w1.heap.size #[.int .i64 s.s, .int .i64 s.c, .slice K s.l.length tt, .int .u64 s.u] := blk_new rfl
    go_wp2_with fail
    (with_reducible refine (Hq2.out _).mono ?_)
    rintro e w2 ⟨rfl, b2⟩
    have c2 : Below w1.heap.size w1 w2 := Below.trans belt (b2.mono omh)
    have s2 := c2.size
    have bb2 := Hbb1.out.trans (c2.mono Hbb1.out.size)
    have k2 := Hk1.out.below c2
    have g2 := Hg1.out.below c2
    have ⟨Hb2, Hc2, Hbb2, Hk2, Hg2⟩ := hid5 b2 c2 bb2 k2 g2; clear b2 c2 bb2 k2 g2
    have o2 := o1.below Hb2.out
    have e2 := Hhs.out.below Hbb2.out
    clear y0 y1 y2 y3 y4 y5 y6 y7 y8 y9 y10 y11 z0 z1 z2 z3 z4 z5 z6 z7 z8
    have ⟨Ho2, He2⟩ := hid2 o2 e2; clear o2 e2
    obtain ⟨y0, y1, y2, y3, y4, y5, y6, y7, y8, y9, y10, y11⟩ := at12_of Hk2.out
    obtain ⟨z0, z1, z2, z3, z4, z5, z6, z7, z8⟩ := at9_of Hg2.out
    obtain ⟨x0, x1, x2, x3⟩ := at4_of Ho2.out
    have ly2 := (Hk2.out 0 _ rfl).lt
    have lz2 := (Hg2.out 0 _ rfl).lt
    have lx2 := (Ho2.out 0 _ rfl).lt
    go_wp2_with fail
    (with_reducible refine (Hq3.out _ ?_).mono ?_)
    ·exact (He2.out.below (show Below w2.heap.size w2 _ from belt)).ints
    rintro e w3 ⟨rfl, b3⟩
    have c3 : Below w2.heap.size w2 w3 := Below.trans belt (b3.mono omh)
    have s3 := c3.size
    have bb3 := Hbb2.out.trans (c3.mono Hbb2.out.size)
    have k3 := Hk2.out.below c3
    have g3 := Hg2.out.below c3
    have o3 := Ho2.out.below c3
    have e3 := He2.out.below c3
    have ⟨Hb3, Hc3, Hbb3, Hk3, Hg3, Ho3, He3⟩ := hid7 b3 c3 bb3 k3 g3 o3 e3; clear b3 c3 bb3 k3 g3 o3 e3
    clear y0 y1 y2 y3 y4 y5 y6 y7 y8 y9 y10 y11 z0 z1 z2 z3 z4 z5 z6 z7 z8 x0 x1 x2 x3
    obtain ⟨y0, y1, y2, y3, y4, y5, y6, y7, y8, y9, y10, y11⟩ := at12_of Hk3.out
    obtain ⟨z0, z1, z2, z3, z4, z5, z6, z7, z8⟩ := at9_of Hg3.out
    obtain ⟨x0, x1, x2, x3⟩ := at4_of Ho3.out
    go_wp2_with fail
    all_goals
     go_ret
     exact ⟨ret_bool Hfin'.out.symm, Hbb3.out⟩
   ·have dn : decide (s.c ≤ cn) = false := decide_eq_false hn
    simp only [Bool.false_eq_true, reduceIte, if_true, if_false] at q2
    have fin' : R = false := by rw [fin]; simp [hn]
    clear fin
    have ⟨Hbb0, Hk0, Hg0, Hhw0, Hq1, Hq2, Hq3, Hhx⟩ := hid8 bb0 k0 g0 hw0 q1 q2 q3 hx; clear bb0 k0 g0 hw0 q1 q2 q3 hx; have ⟨Hhy, Hht, Hhs, Hfew, Hfin'⟩ := hid5 hy ht hs few fin'; clear hy ht hs few fin'
    go_enter Tryz.func104, Tryz.ntmps104
    go_wp2_with fail
    rw [Hhw0.out]
    obtain ⟨y0, y1, y2, y3, y4, y5, y6, y7, y8, y9, y10, y11⟩ := at12_of Hk0.out
    go_wp2_with fail
    (with_reducible refine (Hq1.out _ ?_).mono ?_)
    ·exact Hbb0.out
    rintro e w1 ⟨rfl, b1⟩
    have c1 : Below w0.heap.size w0 w1 := Below.trans belt (b1.mono omh)
    have s1 := c1.size
    have bb1 := Hbb0.out.trans (c1.mono Hbb0.out.size)
    have k1 := Hk0.out.below c1
    have g1 := Hg0.out.below c1
    have ⟨Hb1, Hc1, Hbb1, Hk1, Hg1⟩ := hid5 b1 c1 bb1 k1 g1; clear b1 c1 bb1 k1 g1
    clear y0 y1 y2 y3 y4 y5 y6 y7 y8 y9 y10 y11
    obtain ⟨y0, y1, y2, y3, y4, y5, y6, y7, y8, y9, y10, y11⟩ := at12_of Hk1.out
    obtain ⟨z0, z1, z2, z3, z4, z5, z6, z7, z8⟩ := at9_of Hg1.out
    have ly1 := (Hk1.out 0 _ rfl).lt
    have lz1 := (Hg1.out 0 _ rfl).lt
    have o1 : Blk (w1.alloc (.cells #[.int .i64 s.s, .int .i64 s.c, .slice K s.l.length tt, .int .u64 s.u] 45)) w1.heap.size #[.int .i64 s.s, .int .i64 s.c, .slice K s.l.length tt, .int .u64 s.u] := blk_new rfl
    go_wp2_with fail
    (with_reducible refine (Hq2.out _).mono ?_)
    rintro e w2 ⟨rfl, b2⟩
    have c2 : Below w1.heap.size w1 w2 := Below.trans belt (b2.mono omh)
    have s2 := c2.size
    have bb2 := Hbb1.out.trans (c2.mono Hbb1.out.size)
    have k2 := Hk1.out.below c2
    have g2 := Hg1.out.below c2
    have ⟨Hb2, Hc2, Hbb2, Hk2, Hg2⟩ := hid5 b2 c2 bb2 k2 g2; clear b2 c2 bb2 k2 g2
    have o2 := o1.below Hb2.out
    have e2 := Hhs.out.below Hbb2.out
    clear y0 y1 y2 y3 y4 y5 y6 y7 y8 y9 y10 y11 z0 z1 z2 z3 z4 z5 z6 z7 z8
    have ⟨Ho2, He2⟩ := hid2 o2 e2; clear o2 e2
    obtain ⟨y0, y1, y2, y3, y4, y5, y6, y7, y8, y9, y10, y11⟩ := at12_of Hk2.out
    obtain ⟨z0, z1, z2, z3, z4, z5, z6, z7, z8⟩ := at9_of Hg2.out
    obtain ⟨x0, x1, x2, x3⟩ := at4_of Ho2.out
    have ly2 := (Hk2.out 0 _ rfl).lt
    have lz2 := (Hg2.out 0 _ rfl).lt
    have lx2 := (Ho2.out 0 _ rfl).lt
    go_wp2_with fail
    (with_reducible refine (Hq3.out _ ?_).mono ?_)
    ·exact (He2.out.below (show Below w2.heap.size w2 _ from belt)).ints
    rintro e w3 ⟨rfl, b3⟩
    have c3 : Below w2.heap.size w2 w3 := Below.trans belt (b3.mono omh)
    have s3 := c3.size
    have bb3 := Hbb2.out.trans (c3.mono Hbb2.out.size)
    have k3 := Hk2.out.below c3
    have g3 := Hg2.out.below c3
    have o3 := Ho2.out.below c3
    have e3 := He2.out.below c3
    have ⟨Hb3, Hc3, Hbb3, Hk3, Hg3, Ho3, He3⟩ := hid7 b3 c3 bb3 k3 g3 o3 e3; clear b3 c3 bb3 k3 g3 o3 e3
    clear y0 y1 y2 y3 y4 y5 y6 y7 y8 y9 y10 y11 z0 z1 z2 z3 z4 z5 z6 z7 z8 x0 x1 x2 x3
    obtain ⟨y0, y1, y2, y3, y4, y5, y6, y7, y8, y9, y10, y11⟩ := at12_of Hk3.out
    obtain ⟨z0, z1, z2, z3, z4, z5, z6, z7, z8⟩ := at9_of Hg3.out
    obtain ⟨x0, x1, x2, x3⟩ := at4_of Ho3.out
    go_wp2_with fail
    all_goals
     go_ret
     exact ⟨ret_bool Hfin'.out.symm, Hbb3.out⟩
  ·have dk : decide (ck = 1) = false := decide_eq_false hk
   simp only [Bool.false_eq_true, reduceIte, if_true, if_false] at q2
   have fin' : R = true := by rw [fin]; simp [hk]
   clear fin
   have ⟨Hbb0, Hk0, Hg0, Hhw0, Hq1, Hq2, Hq3, Hhx⟩ := hid8 bb0 k0 g0 hw0 q1 q2 q3 hx; clear bb0 k0 g0 hw0 q1 q2 q3 hx; have ⟨Hhy, Hht, Hhs, Hfew, Hfin'⟩ := hid5 hy ht hs few fin'; clear hy ht hs few fin'
   go_enter Tryz.func104, Tryz.ntmps104
   go_wp2_with fail
   rw [Hhw0.out]
   obtain ⟨y0, y1, y2, y3, y4, y5, y6, y7, y8, y9, y10, y11⟩ := at12_of Hk0.out
   go_wp2_with fail
   (with_reducible refine (Hq1.out _ ?_).mono ?_)
   ·exact Hbb0.out
   rintro e w1 ⟨rfl, b1⟩
   have c1 : Below w0.heap.size w0 w1 := Below.trans belt (b1.mono omh)
   have s1 := c1.size
   have bb1 := Hbb0.out.trans (c1.mono Hbb0.out.size)
   have k1 := Hk0.out.below c1
   have g1 := Hg0.out.below c1
   have ⟨Hb1, Hc1, Hbb1, Hk1, Hg1⟩ := hid5 b1 c1 bb1 k1 g1; clear b1 c1 bb1 k1 g1
   clear y0 y1 y2 y3 y4 y5 y6 y7 y8 y9 y10 y11
   obtain ⟨y0, y1, y2, y3, y4, y5, y6, y7, y8, y9, y10, y11⟩ := at12_of Hk1.out
   obtain ⟨z0, z1, z2, z3, z4, z5, z6, z7, z8⟩ := at9_of Hg1.out
   have ly1 := (Hk1.out 0 _ rfl).lt
   have lz1 := (Hg1.out 0 _ rfl).lt
   have o1 : Blk (w1.alloc (.cells #[.int .i64 s.s, .int .i64 s.c, .slice K s.l.length tt, .int .u64 s.u] 45)) w1.heap.size #[.int .i64 s.s, .int .i64 s.c, .slice K s.l.length tt, .int .u64 s.u] := blk_new rfl
   go_wp2_with fail
   (with_reducible refine (Hq2.out _).mono ?_)
   rintro e w2 ⟨rfl, b2⟩
   have c2 : Below w1.heap.size w1 w2 := Below.trans belt (b2.mono omh)
   have s2 := c2.size
   have bb2 := Hbb1.out.trans (c2.mono Hbb1.out.size)
   have k2 := Hk1.out.below c2
   have g2 := Hg1.out.below c2
   have ⟨Hb2, Hc2, Hbb2, Hk2, Hg2⟩ := hid5 b2 c2 bb2 k2 g2; clear b2 c2 bb2 k2 g2
   have o2 := o1.below Hb2.out
   have e2 := Hhs.out.below Hbb2.out
   clear y0 y1 y2 y3 y4 y5 y6 y7 y8 y9 y10 y11 z0 z1 z2 z3 z4 z5 z6 z7 z8
   have ⟨Ho2, He2⟩ := hid2 o2 e2; clear o2 e2
   obtain ⟨y0, y1, y2, y3, y4, y5, y6, y7, y8, y9, y10, y11⟩ := at12_of Hk2.out
   obtain ⟨z0, z1, z2, z3, z4, z5, z6, z7, z8⟩ := at9_of Hg2.out
   obtain ⟨x0, x1, x2, x3⟩ := at4_of Ho2.out
   have ly2 := (Hk2.out 0 _ rfl).lt
   have lz2 := (Hg2.out 0 _ rfl).lt
   have lx2 := (Ho2.out 0 _ rfl).lt
   go_wp2_with fail
   (with_reducible refine (Hq3.out _ ?_).mono ?_)
   ·exact (He2.out.below (show Below w2.heap.size w2 _ from belt)).ints
   rintro e w3 ⟨rfl, b3⟩
   have c3 : Below w2.heap.size w2 w3 := Below.trans belt (b3.mono omh)
   have s3 := c3.size
   have bb3 := Hbb2.out.trans (c3.mono Hbb2.out.size)
   have k3 := Hk2.out.below c3
   have g3 := Hg2.out.below c3
   have o3 := Ho2.out.below c3
   have e3 := He2.out.below c3
   have ⟨Hb3, Hc3, Hbb3, Hk3, Hg3, Ho3, He3⟩ := hid7 b3 c3 bb3 k3 g3 o3 e3; clear b3 c3 bb3 k3 g3 o3 e3
   clear y0 y1 y2 y3 y4 y5 y6 y7 y8 y9 y10 y11 z0 z1 z2 z3 z4 z5 z6 z7 z8 x0 x1 x2 x3
   obtain ⟨y0, y1, y2, y3, y4, y5, y6, y7, y8, y9, y10, y11⟩ := at12_of Hk3.out
   obtain ⟨z0, z1, z2, z3, z4, z5, z6, z7, z8⟩ := at9_of Hg3.out
   obtain ⟨x0, x1, x2, x3⟩ := at4_of Ho3.out
   go_wp2_with fail
   all_goals
    go_ret
    exact ⟨ret_bool Hfin'.out.symm, Hbb3.out⟩
 ·have d1 : decide (cd = ld) = false := decide_eq_false h1
  by_cases h2 : cd = 0
  ·subst h2
   cases C with
   | true =>
    simp only [Bool.false_eq_true, reduceIte, if_true, if_false] at q2
    have fin' : R = false := by rw [fin]; simp []
    clear fin
    have ⟨Hbb0, Hk0, Hg0, Hhw0, Hq1, Hq2, Hq3, Hhx⟩ := hid8 bb0 k0 g0 hw0 q1 q2 q3 hx; clear bb0 k0 g0 hw0 q1 q2 q3 hx; have ⟨Hhy, Hht, Hhs, Hfew, Hfin'⟩ := hid5 hy ht hs few fin'; clear hy ht hs few fin'
    go_enter Tryz.func104, Tryz.ntmps104
    go_wp2_with fail
    rw [Hhw0.out]
    obtain ⟨y0, y1, y2, y3, y4, y5, y6, y7, y8, y9, y10, y11⟩ := at12_of Hk0.out
    go_wp2_with fail
    (with_reducible refine (Hq1.out _ ?_).mono ?_)
    ·exact Hbb0.out
    rintro e w1 ⟨rfl, b1⟩
    have c1 : Below w0.heap.size w0 w1 := Below.trans belt (b1.mono omh)
    have s1 := c1.size
    have bb1 := Hbb0.out.trans (c1.mono Hbb0.out.size)
    have k1 := Hk0.out.below c1
    have g1 := Hg0.out.below c1
    have ⟨Hb1, Hc1, Hbb1, Hk1, Hg1⟩ := hid5 b1 c1 bb1 k1 g1; clear b1 c1 bb1 k1 g1
    clear y0 y1 y2 y3 y4 y5 y6 y7 y8 y9 y10 y11
    obtain ⟨y0, y1, y2, y3, y4, y5, y6, y7, y8, y9, y10, y11⟩ := at12_of Hk1.out
    obtain ⟨z0, z1, z2, z3, z4, z5, z6, z7, z8⟩ := at9_of Hg1.out
    have ly1 := (Hk1.out 0 _ rfl).lt
    have lz1 := (Hg1.out 0 _ rfl).lt
    have o1 : Blk (w1.alloc (.cells #[.int .i64 s.s, .int .i64 s.c, .slice K s.l.length tt, .int .u64 s.u] 45)) w1.heap.size #[.int .i64 s.s, .int .i64 s.c, .slice K s.l.length tt, .int .u64 s.u] := blk_new rfl
    go_wp2_with fail
    (with_reducible refine (Hq2.out _).mono ?_)
    rintro e w2 ⟨rfl, b2⟩
    have c2 : Below w1.heap.size w1 w2 := Below.trans belt (b2.mono omh)
    have s2 := c2.size
    have bb2 := Hbb1.out.trans (c2.mono Hbb1.out.size)
    have k2 := Hk1.out.below c2
    have g2 := Hg1.out.below c2
    have ⟨Hb2, Hc2, Hbb2, Hk2, Hg2⟩ := hid5 b2 c2 bb2 k2 g2; clear b2 c2 bb2 k2 g2
    have o2 := o1.below Hb2.out
    have e2 := Hhs.out.below Hbb2.out
    clear y0 y1 y2 y3 y4 y5 y6 y7 y8 y9 y10 y11 z0 z1 z2 z3 z4 z5 z6 z7 z8
    have ⟨Ho2, He2⟩ := hid2 o2 e2; clear o2 e2
    obtain ⟨y0, y1, y2, y3, y4, y5, y6, y7, y8, y9, y10, y11⟩ := at12_of Hk2.out
    obtain ⟨z0, z1, z2, z3, z4, z5, z6, z7, z8⟩ := at9_of Hg2.out
    obtain ⟨x0, x1, x2, x3⟩ := at4_of Ho2.out
    have ly2 := (Hk2.out 0 _ rfl).lt
    have lz2 := (Hg2.out 0 _ rfl).lt
    have lx2 := (Ho2.out 0 _ rfl).lt
    go_wp2_with fail
    (with_reducible refine (Hq3.out _ ?_).mono ?_)
    ·exact (He2.out.below (show Below w2.heap.size w2 _ from belt)).ints
    rintro e w3 ⟨rfl, b3⟩
    have c3 : Below w2.heap.size w2 w3 := Below.trans belt (b3.mono omh)
    have s3 := c3.size
    have bb3 := Hbb2.out.trans (c3.mono Hbb2.out.size)
    have k3 := Hk2.out.below c3
    have g3 := Hg2.out.below c3
    have o3 := Ho2.out.below c3
    have e3 := He2.out.below c3
    have ⟨Hb3, Hc3, Hbb3, Hk3, Hg3, Ho3, He3⟩ := hid7 b3 c3 bb3 k3 g3 o3 e3; clear b3 c3 bb3 k3 g3 o3 e3
    clear y0 y1 y2 y3 y4 y5 y6 y7 y8 y9 y10 y11 z0 z1 z2 z3 z4 z5 z6 z7 z8 x0 x1 x2 x3
    obtain ⟨y0, y1, y2, y3, y4, y5, y6, y7, y8, y9, y10, y11⟩ := at12_of Hk3.out
    obtain ⟨z0, z1, z2, z3, z4, z5, z6, z7, z8⟩ := at9_of Hg3.out
    obtain ⟨x0, x1, x2, x3⟩ := at4_of Ho3.out
    go_wp2_with fail
    all_goals
     go_ret
     exact ⟨ret_bool Hfin'.out.symm, Hbb3.out⟩
   | false =>
   by_cases hk : ck = 1
   ·subst hk
    by_cases hn : s.c ≤ cn
    ·have dn : decide (s.c ≤ cn) = true := decide_eq_true hn
     simp only [Bool.false_eq_true, reduceIte, if_true, if_false] at q2
     have fin' : R = true := by rw [fin]; simp [hn]
     clear fin
     have ⟨Hbb0, Hk0, Hg0, Hhw0, Hq1, Hq2, Hq3, Hhx⟩ := hid8 bb0 k0 g0 hw0 q1 q2 q3 hx; clear bb0 k0 g0 hw0 q1 q2 q3 hx; have ⟨Hhy, Hht, Hhs, Hfew, Hfin'⟩ := hid5 hy ht hs few fin'; clear hy ht hs few fin'
     go_enter Tryz.func104, Tryz.ntmps104
     go_wp2_with fail
     rw [Hhw0.out]
     obtain ⟨y0, y1, y2, y3, y4, y5, y6, y7, y8, y9, y10, y11⟩ := at12_of Hk0.out
     go_wp2_with fail
     (with_reducible refine (Hq1.out _ ?_).mono ?_)
     ·exact Hbb0.out
     rintro e w1 ⟨rfl, b1⟩
     have c1 : Below w0.heap.size w0 w1 := Below.trans belt (b1.mono omh)
     have s1 := c1.size
     have bb1 := Hbb0.out.trans (c1.mono Hbb0.out.size)
     have k1 := Hk0.out.below c1
     have g1 := Hg0.out.below c1
     have ⟨Hb1, Hc1, Hbb1, Hk1, Hg1⟩ := hid5 b1 c1 bb1 k1 g1; clear b1 c1 bb1 k1 g1
     clear y0 y1 y2 y3 y4 y5 y6 y7 y8 y9 y10 y11
     obtain ⟨y0, y1, y2, y3, y4, y5, y6, y7, y8, y9, y10, y11⟩ := at12_of Hk1.out
     obtain ⟨z0, z1, z2, z3, z4, z5, z6, z7, z8⟩ := at9_of Hg1.out
     have ly1 := (Hk1.out 0 _ rfl).lt
     have lz1 := (Hg1.out 0 _ rfl).lt
     have o1 : Blk (w1.alloc (.cells #[.int .i64 s.s, .int .i64 s.c, .slice K s.l.length tt, .int .u64 s.u] 45)) w1.heap.size #[.int .i64 s.s, .int .i64 s.c, .slice K s.l.length tt, .int .u64 s.u] := blk_new rfl
     go_wp2_with fail
     (with_reducible refine (Hq2.out _).mono ?_)
     rintro e w2 ⟨rfl, b2⟩
     have c2 : Below w1.heap.size w1 w2 := Below.trans belt (b2.mono omh)
     have s2 := c2.size
     have bb2 := Hbb1.out.trans (c2.mono Hbb1.out.size)
     have k2 := Hk1.out.below c2
     have g2 := Hg1.out.below c2
     have ⟨Hb2, Hc2, Hbb2, Hk2, Hg2⟩ := hid5 b2 c2 bb2 k2 g2; clear b2 c2 bb2 k2 g2
     have o2 := o1.below Hb2.out
     have e2 := Hhs.out.below Hbb2.out
     clear y0 y1 y2 y3 y4 y5 y6 y7 y8 y9 y10 y11 z0 z1 z2 z3 z4 z5 z6 z7 z8
     have ⟨Ho2, He2⟩ := hid2 o2 e2; clear o2 e2
     obtain ⟨y0, y1, y2, y3, y4, y5, y6, y7, y8, y9, y10, y11⟩ := at12_of Hk2.out
     obtain ⟨z0, z1, z2, z3, z4, z5, z6, z7, z8⟩ := at9_of Hg2.out
     obtain ⟨x0, x1, x2, x3⟩ := at4_of Ho2.out
     have ly2 := (Hk2.out 0 _ rfl).lt
     have lz2 := (Hg2.out 0 _ rfl).lt
     have lx2 := (Ho2.out 0 _ rfl).lt
     go_wp2_with fail
     (with_reducible refine (Hq3.out _ ?_).mono ?_)
     ·exact (He2.out.below (show Below w2.heap.size w2 _ from belt)).ints
     rintro e w3 ⟨rfl, b3⟩
     have c3 : Below w2.heap.size w2 w3 := Below.trans belt (b3.mono omh)
     have s3 := c3.size
     have bb3 := Hbb2.out.trans (c3.mono Hbb2.out.size)
     have k3 := Hk2.out.below c3
     have g3 := Hg2.out.below c3
     have o3 := Ho2.out.below c3
     have e3 := He2.out.below c3
     have ⟨Hb3, Hc3, Hbb3, Hk3, Hg3, Ho3, He3⟩ := hid7 b3 c3 bb3 k3 g3 o3 e3; clear b3 c3 bb3 k3 g3 o3 e3
     clear y0 y1 y2 y3 y4 y5 y6 y7 y8 y9 y10 y11 z0 z1 z2 z3 z4 z5 z6 z7 z8 x0 x1 x2 x3
     obtain ⟨y0, y1, y2, y3, y4, y5, y6, y7, y8, y9, y10, y11⟩ := at12_of Hk3.out
     obtain ⟨z0, z1, z2, z3, z4, z5, z6, z7, z8⟩ := at9_of Hg3.out
     obtain ⟨x0, x1, x2, x3⟩ := at4_of Ho3.out
     go_wp2_with fail
     all_goals
      go_ret
      exact ⟨ret_bool Hfin'.out.symm, Hbb3.out⟩
    ·have dn : decide (s.c ≤ cn) = false := decide_eq_false hn
     simp only [Bool.false_eq_true, reduceIte, if_true, if_false] at q2
     have fin' : R = false := by rw [fin]; simp [hn]
     clear fin
     have ⟨Hbb0, Hk0, Hg0, Hhw0, Hq1, Hq2, Hq3, Hhx⟩ := hid8 bb0 k0 g0 hw0 q1 q2 q3 hx; clear bb0 k0 g0 hw0 q1 q2 q3 hx; have ⟨Hhy, Hht, Hhs, Hfew, Hfin'⟩ := hid5 hy ht hs few fin'; clear hy ht hs few fin'
     go_enter Tryz.func104, Tryz.ntmps104
     go_wp2_with fail
     rw [Hhw0.out]
     obtain ⟨y0, y1, y2, y3, y4, y5, y6, y7, y8, y9, y10, y11⟩ := at12_of Hk0.out
     go_wp2_with fail
     (with_reducible refine (Hq1.out _ ?_).mono ?_)
     ·exact Hbb0.out
     rintro e w1 ⟨rfl, b1⟩
     have c1 : Below w0.heap.size w0 w1 := Below.trans belt (b1.mono omh)
     have s1 := c1.size
     have bb1 := Hbb0.out.trans (c1.mono Hbb0.out.size)
     have k1 := Hk0.out.below c1
     have g1 := Hg0.out.below c1
     have ⟨Hb1, Hc1, Hbb1, Hk1, Hg1⟩ := hid5 b1 c1 bb1 k1 g1; clear b1 c1 bb1 k1 g1
     clear y0 y1 y2 y3 y4 y5 y6 y7 y8 y9 y10 y11
     obtain ⟨y0, y1, y2, y3, y4, y5, y6, y7, y8, y9, y10, y11⟩ := at12_of Hk1.out
     obtain ⟨z0, z1, z2, z3, z4, z5, z6, z7, z8⟩ := at9_of Hg1.out
     have ly1 := (Hk1.out 0 _ rfl).lt
     have lz1 := (Hg1.out 0 _ rfl).lt
     have o1 : Blk (w1.alloc (.cells #[.int .i64 s.s, .int .i64 s.c, .slice K s.l.length tt, .int .u64 s.u] 45)) w1.heap.size #[.int .i64 s.s, .int .i64 s.c, .slice K s.l.length tt, .int .u64 s.u] := blk_new rfl
     go_wp2_with fail
     (with_reducible refine (Hq2.out _).mono ?_)
     rintro e w2 ⟨rfl, b2⟩
     have c2 : Below w1.heap.size w1 w2 := Below.trans belt (b2.mono omh)
     have s2 := c2.size
     have bb2 := Hbb1.out.trans (c2.mono Hbb1.out.size)
     have k2 := Hk1.out.below c2
     have g2 := Hg1.out.below c2
     have ⟨Hb2, Hc2, Hbb2, Hk2, Hg2⟩ := hid5 b2 c2 bb2 k2 g2; clear b2 c2 bb2 k2 g2
     have o2 := o1.below Hb2.out
     have e2 := Hhs.out.below Hbb2.out
     clear y0 y1 y2 y3 y4 y5 y6 y7 y8 y9 y10 y11 z0 z1 z2 z3 z4 z5 z6 z7 z8
     have ⟨Ho2, He2⟩ := hid2 o2 e2; clear o2 e2
     obtain ⟨y0, y1, y2, y3, y4, y5, y6, y7, y8, y9, y10, y11⟩ := at12_of Hk2.out
     obtain ⟨z0, z1, z2, z3, z4, z5, z6, z7, z8⟩ := at9_of Hg2.out
     obtain ⟨x0, x1, x2, x3⟩ := at4_of Ho2.out
     have ly2 := (Hk2.out 0 _ rfl).lt
     have lz2 := (Hg2.out 0 _ rfl).lt
     have lx2 := (Ho2.out 0 _ rfl).lt
     go_wp2_with fail
     (with_reducible refine (Hq3.out _ ?_).mono ?_)
     ·exact (He2.out.below (show Below w2.heap.size w2 _ from belt)).ints
     rintro e w3 ⟨rfl, b3⟩
     have c3 : Below w2.heap.size w2 w3 := Below.trans belt (b3.mono omh)
     have s3 := c3.size
     have bb3 := Hbb2.out.trans (c3.mono Hbb2.out.size)
     have k3 := Hk2.out.below c3
     have g3 := Hg2.out.below c3
     have o3 := Ho2.out.below c3
     have e3 := He2.out.below c3
     have ⟨Hb3, Hc3, Hbb3, Hk3, Hg3, Ho3, He3⟩ := hid7 b3 c3 bb3 k3 g3 o3 e3; clear b3 c3 bb3 k3 g3 o3 e3
     clear y0 y1 y2 y3 y4 y5 y6 y7 y8 y9 y10 y11 z0 z1 z2 z3 z4 z5 z6 z7 z8 x0 x1 x2 x3
     obtain ⟨y0, y1, y2, y3, y4, y5, y6, y7, y8, y9, y10, y11⟩ := at12_of Hk3.out
     obtain ⟨z0, z1, z2, z3, z4, z5, z6, z7, z8⟩ := at9_of Hg3.out
     obtain ⟨x0, x1, x2, x3⟩ := at4_of Ho3.out
     go_wp2_with fail
     all_goals
      go_ret
      exact ⟨ret_bool Hfin'.out.symm, Hbb3.out⟩
   ·have dk : decide (ck = 1) = false := decide_eq_false hk
    simp only [Bool.false_eq_true, reduceIte, if_true, if_false] at q2
    have fin' : R = true := by rw [fin]; simp [hk]
    clear fin
    have ⟨Hbb0, Hk0, Hg0, Hhw0, Hq1, Hq2, Hq3, Hhx⟩ := hid8 bb0 k0 g0 hw0 q1 q2 q3 hx; clear bb0 k0 g0 hw0 q1 q2 q3 hx; have ⟨Hhy, Hht, Hhs, Hfew, Hfin'⟩ := hid5 hy ht hs few fin'; clear hy ht hs few fin'
    go_enter Tryz.func104, Tryz.ntmps104
    go_wp2_with fail
    rw [Hhw0.out]
    obtain ⟨y0, y1, y2, y3, y4, y5, y6, y7, y8, y9, y10, y11⟩ := at12_of Hk0.out
    go_wp2_with fail
    (with_reducible refine (Hq1.out _ ?_).mono ?_)
    ·exact Hbb0.out
    rintro e w1 ⟨rfl, b1⟩
    have c1 : Below w0.heap.size w0 w1 := Below.trans belt (b1.mono omh)
    have s1 := c1.size
    have bb1 := Hbb0.out.trans (c1.mono Hbb0.out.size)
    have k1 := Hk0.out.below c1
    have g1 := Hg0.out.below c1
    have ⟨Hb1, Hc1, Hbb1, Hk1, Hg1⟩ := hid5 b1 c1 bb1 k1 g1; clear b1 c1 bb1 k1 g1
    clear y0 y1 y2 y3 y4 y5 y6 y7 y8 y9 y10 y11
    obtain ⟨y0, y1, y2, y3, y4, y5, y6, y7, y8, y9, y10, y11⟩ := at12_of Hk1.out
    obtain ⟨z0, z1, z2, z3, z4, z5, z6, z7, z8⟩ := at9_of Hg1.out
    have ly1 := (Hk1.out 0 _ rfl).lt
    have lz1 := (Hg1.out 0 _ rfl).lt
    have o1 : Blk (w1.alloc (.cells #[.int .i64 s.s, .int .i64 s.c, .slice K s.l.length tt, .int .u64 s.u] 45)) w1.heap.size #[.int .i64 s.s, .int .i64 s.c, .slice K s.l.length tt, .int .u64 s.u] := blk_new rfl
    go_wp2_with fail
    (with_reducible refine (Hq2.out _).mono ?_)
    rintro e w2 ⟨rfl, b2⟩
    have c2 : Below w1.heap.size w1 w2 := Below.trans belt (b2.mono omh)
    have s2 := c2.size
    have bb2 := Hbb1.out.trans (c2.mono Hbb1.out.size)
    have k2 := Hk1.out.below c2
    have g2 := Hg1.out.below c2
    have ⟨Hb2, Hc2, Hbb2, Hk2, Hg2⟩ := hid5 b2 c2 bb2 k2 g2; clear b2 c2 bb2 k2 g2
    have o2 := o1.below Hb2.out
    have e2 := Hhs.out.below Hbb2.out
    clear y0 y1 y2 y3 y4 y5 y6 y7 y8 y9 y10 y11 z0 z1 z2 z3 z4 z5 z6 z7 z8
    have ⟨Ho2, He2⟩ := hid2 o2 e2; clear o2 e2
    obtain ⟨y0, y1, y2, y3, y4, y5, y6, y7, y8, y9, y10, y11⟩ := at12_of Hk2.out
    obtain ⟨z0, z1, z2, z3, z4, z5, z6, z7, z8⟩ := at9_of Hg2.out
    obtain ⟨x0, x1, x2, x3⟩ := at4_of Ho2.out
    have ly2 := (Hk2.out 0 _ rfl).lt
    have lz2 := (Hg2.out 0 _ rfl).lt
    have lx2 := (Ho2.out 0 _ rfl).lt
    go_wp2_with fail
    (with_reducible refine (Hq3.out _ ?_).mono ?_)
    ·exact (He2.out.below (show Below w2.heap.size w2 _ from belt)).ints
    rintro e w3 ⟨rfl, b3⟩
    have c3 : Below w2.heap.size w2 w3 := Below.trans belt (b3.mono omh)
    have s3 := c3.size
    have bb3 := Hbb2.out.trans (c3.mono Hbb2.out.size)
    have k3 := Hk2.out.below c3
    have g3 := Hg2.out.below c3
    have o3 := Ho2.out.below c3
    have e3 := He2.out.below c3
    have ⟨Hb3, Hc3, Hbb3, Hk3, Hg3, Ho3, He3⟩ := hid7 b3 c3 bb3 k3 g3 o3 e3; clear b3 c3 bb3 k3 g3 o3 e3
    clear y0 y1 y2 y3 y4 y5 y6 y7 y8 y9 y10 y11 z0 z1 z2 z3 z4 z5 z6 z7 z8 x0 x1 x2 x3
    obtain ⟨y0, y1, y2, y3, y4, y5, y6, y7, y8, y9, y10, y11⟩ := at12_of Hk3.out
    obtain ⟨z0, z1, z2, z3, z4, z5, z6, z7, z8⟩ := at9_of Hg3.out
    obtain ⟨x0, x1, x2, x3⟩ := at4_of Ho3.out
    go_wp2_with fail
    all_goals
     go_ret
     exact ⟨ret_bool Hfin'.out.symm, Hbb3.out⟩
  ·have d2 : decide (cd = 0) = false := decide_eq_false h2
   simp only [Bool.false_eq_true, reduceIte, if_true, if_false] at q2
   have fin' : R = false := by rw [fin]; simp [h1, h2]
   clear fin
   have ⟨Hbb0, Hk0, Hg0, Hhw0, Hq1, Hq2, Hq3, Hhx⟩ := hid8 bb0 k0 g0 hw0 q1 q2 q3 hx; clear bb0 k0 g0 hw0 q1 q2 q3 hx; have ⟨Hhy, Hht, Hhs, Hfew, Hfin'⟩ := hid5 hy ht hs few fin'; clear hy ht hs few fin'
   go_enter Tryz.func104, Tryz.ntmps104
   go_wp2_with fail
   rw [Hhw0.out]
   obtain ⟨y0, y1, y2, y3, y4, y5, y6, y7, y8, y9, y10, y11⟩ := at12_of Hk0.out
   go_wp2_with fail
   (with_reducible refine (Hq1.out _ ?_).mono ?_)
   ·exact Hbb0.out
   rintro e w1 ⟨rfl, b1⟩
   have c1 : Below w0.heap.size w0 w1 := Below.trans belt (b1.mono omh)
   have s1 := c1.size
   have bb1 := Hbb0.out.trans (c1.mono Hbb0.out.size)
   have k1 := Hk0.out.below c1
   have g1 := Hg0.out.below c1
   have ⟨Hb1, Hc1, Hbb1, Hk1, Hg1⟩ := hid5 b1 c1 bb1 k1 g1; clear b1 c1 bb1 k1 g1
   clear y0 y1 y2 y3 y4 y5 y6 y7 y8 y9 y10 y11
   obtain ⟨y0, y1, y2, y3, y4, y5, y6, y7, y8, y9, y10, y11⟩ := at12_of Hk1.out
   obtain ⟨z0, z1, z2, z3, z4, z5, z6, z7, z8⟩ := at9_of Hg1.out
   have ly1 := (Hk1.out 0 _ rfl).lt
   have lz1 := (Hg1.out 0 _ rfl).lt
   have o1 : Blk (w1.alloc (.cells #[.int .i64 s.s, .int .i64 s.c, .slice K s.l.length tt, .int .u64 s.u] 45)) w1.heap.size #[.int .i64 s.s, .int .i64 s.c, .slice K s.l.length tt, .int .u64 s.u] := blk_new rfl
   go_wp2_with fail
   (with_reducible refine (Hq2.out _).mono ?_)
   rintro e w2 ⟨rfl, b2⟩
   have c2 : Below w1.heap.size w1 w2 := Below.trans belt (b2.mono omh)
   have s2 := c2.size
   have bb2 := Hbb1.out.trans (c2.mono Hbb1.out.size)
   have k2 := Hk1.out.below c2
   have g2 := Hg1.out.below c2
   have ⟨Hb2, Hc2, Hbb2, Hk2, Hg2⟩ := hid5 b2 c2 bb2 k2 g2; clear b2 c2 bb2 k2 g2
   have o2 := o1.below Hb2.out
   have e2 := Hhs.out.below Hbb2.out
   clear y0 y1 y2 y3 y4 y5 y6 y7 y8 y9 y10 y11 z0 z1 z2 z3 z4 z5 z6 z7 z8
   have ⟨Ho2, He2⟩ := hid2 o2 e2; clear o2 e2
   obtain ⟨y0, y1, y2, y3, y4, y5, y6, y7, y8, y9, y10, y11⟩ := at12_of Hk2.out
   obtain ⟨z0, z1, z2, z3, z4, z5, z6, z7, z8⟩ := at9_of Hg2.out
   obtain ⟨x0, x1, x2, x3⟩ := at4_of Ho2.out
   have ly2 := (Hk2.out 0 _ rfl).lt
   have lz2 := (Hg2.out 0 _ rfl).lt
   have lx2 := (Ho2.out 0 _ rfl).lt
   go_wp2_with fail
   all_goals
    go_ret
    exact ⟨ret_bool Hfin'.out.symm, Hbb2.out⟩
end Go.Proofs.YtclgncaghiinhaaGreatDoor

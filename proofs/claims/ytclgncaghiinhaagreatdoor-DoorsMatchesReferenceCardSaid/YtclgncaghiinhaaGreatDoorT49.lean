/- The reference: Show in one contract. -/
import Derived.Test.YtclgncaghiinhaaGreatDoorT13
import Derived.Test.YtclgncaghiinhaaGreatDoorT26
import Derived.Test.YtclgncaghiinhaaGreatDoorT30
import Derived.Test.YtclgncaghiinhaaGreatDoorT31
import Derived.Test.YtclgncaghiinhaaGreatDoorT45
import Derived.Test.YtclgncaghiinhaaGreatDoorT47
import Derived.Test.YtclgncaghiinhaaGreatDoorT48
set_option linter.unusedSimpArgs false
set_option linter.unusedVariables false
set_option maxRecDepth 100000
namespace Go.Proofs.YtclgncaghiinhaaGreatDoor
open Go.RowKit
theorem rwrite_any2 (x y : Slt) (c at_ : Int) (A : Option Addr) (n p : Nat) (B : Option Addr) (m q : Nat) (D : Option Addr) (k r : Nat) (l : List Int) (hlk : l.length = k) (w : World) (hx : SlotIs w A n x) (hy : SlotIs w B m y) (hc : -9223372036854775808 ≤ c ∧ c ≤ 9223372036854775807) (hl : IntsAt w D .i64 l) (hk : k ≤ 9223372036854775807) (hf : Fit l) :
  Calls Tryz.prog 68 #[.agg #[.int .i64 x.s, .int .i64 x.c, .slice A n p, .int .u64 x.u, .int .i64 y.s, .int .i64 y.c, .slice B m q, .int .u64 y.u], .int .i64 c, .slice D k r, .int .i64 at_] w (SlotsErr (wr0 x y c l at_) (wr1 x y c l at_) (wrE x y c l at_) w) := by
 by_cases e0 : wrE x y c l at_ = 0
 ·rw [e0]; exact (rwrite2_ok x y c at_ A n p B m q D k r l hlk w hx hy hc hl hf e0).mono fun _ _ => slots2
 by_cases h500 : 500 < k
 ·have e : wrE x y c l at_ = 2 := by rw [wrE, if_pos (by omega)]
  have hm : ∀ W, Below w.heap.size w W → Calls Tryz.prog 91 #[.int .i64 0, .int .i64 c, .slice D k r] W (SlotErr Slt.zero 2 W) := fun W _ => rmake_long 0 c D r k W h500 hk
  rw [wr0, wr1, e, if_neg (by omega), if_neg (by omega)]
  cases hE : bestB x y with
  | false => exact rwrite_maken x y c at_ A n p B m q D k r l hlk w hx hy hc hl hf hE 2 rfl hm
  | true =>
   rcases bestI_01 x y with hI | hI
   ·exact rwrite_make0 x y c at_ A n p B m q D k r l hlk w hx hy hc hl hf hE hI 2 rfl hm
   ·exact rwrite_make1 x y c at_ A n p B m q D k r l hlk w hx hy hc hl hf hE hI 2 rfl hm
 cases hF : fldB 0 c l with
 | false =>
  have e : wrE x y c l at_ = 1 := by rw [wrE, if_neg (by omega), if_pos hF]
  have hm : ∀ W, Below w.heap.size w W → Calls Tryz.prog 91 #[.int .i64 0, .int .i64 c, .slice D k r] W (SlotErr Slt.zero 1 W) := fun W hb => rmake_bad 0 c D r k l hlk W (by omega) hc (hl.below hb) (by omega) hf hF
  rw [wr0, wr1, e, if_neg (by omega), if_neg (by omega)]
  cases hE : bestB x y with
  | false => exact rwrite_maken x y c at_ A n p B m q D k r l hlk w hx hy hc hl hf hE 1 rfl hm
  | true =>
   rcases bestI_01 x y with hI | hI
   ·exact rwrite_make0 x y c at_ A n p B m q D k r l hlk w hx hy hc hl hf hE hI 1 rfl hm
   ·exact rwrite_make1 x y c at_ A n p B m q D k r l hlk w hx hy hc hl hf hE hI 1 rfl hm
 | true =>
  cases hat : wB at_ 0 3 with
  | false =>
   have e : wrE x y c l at_ = 1 := by rw [wrE, if_neg (by omega), if_neg (by simp [hF]), if_pos hat]
   have h3 : ¬ (0 ≤ at_ ∧ at_ ≤ 3) := wB_no.1 hat
   rw [wr0, wr1, e, if_neg (by omega), if_neg (by omega)]
   cases hE : bestB x y with
   | false => exact rwrite_argn x y c at_ A n p B m q D k r l hlk w hx hy hc hl (by omega) hf hE hF h3
   | true =>
    rcases bestI_01 x y with hI | hI
    ·exact rwrite_arg0 x y c at_ A n p B m q D k r l hlk w hx hy hc hl (by omega) hf hE hI hF h3
    ·exact rwrite_arg1 x y c at_ A n p B m q D k r l hlk w hx hy hc hl (by omega) hf hE hI hF h3
  | true =>
   have h3' := wB_iff.1 hat
   have h3 : at_ = 0 ∨ at_ = 1 ∨ at_ = 2 ∨ at_ = 3 := by omega
   have e : wrE x y c l at_ = if topS x y = 1000000000 then 3 else 0 := by rw [wrE, if_neg (by omega), if_neg (by simp [hF]), if_neg (by simp [hat])]
   cases hE : bestB x y with
   | false =>
    have et : topS x y = 0 := by simp [topS, hE]
    rw [et, if_neg (by omega)] at e
    exact absurd e e0
   | true =>
    rcases bestI_01 x y with hI | hI
    ·have et : topS x y = x.s := by simp [topS, hE, hI]
     have hb := ok_s (best_ok0 hE hI)
     rw [et] at e
     by_cases hS : x.s = 1000000000
     ·rw [if_pos hS] at e
      rw [wr0, wr1, e, if_neg (by omega), if_neg (by omega)]
      exact rwrite_range0 x y c at_ A n p B m q D k r l hlk w hx hy hc hl (by omega) hf hE hI hF h3' hS
     ·rw [if_neg hS] at e
      exact absurd e e0
    ·have et : topS x y = y.s := by simp [topS, hE, hI]
     have hb := ok_s (best_ok1 hI)
     rw [et] at e
     by_cases hS : y.s = 1000000000
     ·rw [if_pos hS] at e
      rw [wr0, wr1, e, if_neg (by omega), if_neg (by omega)]
      exact rwrite_range1 x y c at_ A n p B m q D k r l hlk w hx hy hc hl (by omega) hf hE hI hF h3' hS
     ·rw [if_neg hS] at e
      exact absurd e e0
set_option maxHeartbeats 8000000 in
theorem rshow_x1 (l : Lk) (c : Crd) (t a : Int) (A : Option Addr) (n p : Nat) (B : Option Addr) (m q : Nat) (w : World) (hx : SlotIs w A n l.x) (hy : SlotIs w B m l.y) (hc : CFit c) (h1 : lvB l = true) (h2 : cvB c = true) (h3 : timeB t = true) (h4 : ¬ a < 0) (h5 : ¬ 3 < a) (h6 : l.up = true) (h7 : chkB c l.k = true) (h9 : accB l c t = true) (hk : c.k = 1) (hbb : bestB l.x l.y = true) (hcb : -9223372036854775808 ≤ (max (keepS l).c c.n) ∧ (max (keepS l).c c.n) ≤ 9223372036854775807) (hfl : Fit (keepS l).l) (hll : (keepS l).l.length ≤ 501) (hC : ¬ max (keepS l).c c.n = (keepS l).c) (hE : ¬ wrE l.x l.y (max (keepS l).c c.n) (keepS l).l a = 0) :
  Calls Tryz.prog 33 #[.agg (l.cells A n p B m q).toArray, .agg c.cells.toArray, .int .i64 t, .int .i64 a] w (ShowPost A l.x.l B l.y.l Lk.zero false (wrE l.x l.y (max (keepS l).c c.n) (keepS l).l a) w) := by
 have hn := hx.len
 have hm := hy.len
 subst hn hm
 obtain ⟨w0, hw0⟩ : ∃ W, ((w.alloc (.cells (l.cells A l.x.l.length p B l.y.l.length q).toArray 48)).alloc (.cells c.cells.toArray 28)).alloc (.cells #[.int .i64 0, .int .i64 0, .int .i64 0, .int .i64 0, .int .i64 0, .slice none 0 0, .int .u64 0, .int .i64 0, .int .i64 0, .slice none 0 0, .int .u64 0, .bool false] 48) = W := ⟨_, rfl⟩
 have bb0 : Below w.heap.size w w0 := by rw [← hw0]; exact (((Below.refl _ _).alloc (Nat.le_refl _) _).alloc (by simp) _).alloc (by simp; omega) _
 have k0 : Blk w0 w.heap.size (l.cells A l.x.l.length p B l.y.l.length q).toArray := by rw [← hw0]; exact ((blk_new rfl).alloc _).alloc _
 have g0 : Blk w0 (w.heap.size + 1) c.cells.toArray := by rw [← hw0]; exact (blk_new (by simp)).alloc _
 have r0 : Blk w0 (w.heap.size + 1 + 1) #[.int .i64 0, .int .i64 0, .int .i64 0, .int .i64 0, .int .i64 0, .slice none 0 0, .int .u64 0, .int .i64 0, .int .i64 0, .slice none 0 0, .int .u64 0, .bool false] := by rw [← hw0]; exact blk_new (by simp)
 have q1 := fun W => (rTime_any t W).mono belowPost
 have q2 := fun W (h : Below w.heap.size w W) => rlvalid_any l A l.x.l.length p B l.y.l.length q W (hx.below h) (hy.below h)
 have q3 := fun W => rcvalid_any c hc W
 have q4 := fun W => rccheck_any c l.k hc W
 have q5 := fun W (h : Below w.heap.size w W) => raccepts_any l c t A l.x.l.length p B l.y.l.length q W (hx.below h) (hy.below h)
 obtain ⟨K, tt, hs, q6⟩ := rlkeeps_as l A l.x.l.length p B l.y.l.length q w hx hy
 have few := hs.few
 rw [h1] at q2
 rw [h2] at q3
 rw [h3] at q1
 have d4 : decide (a < 0) = false := decide_eq_false h4
 have d5 : decide (3 < a) = false := decide_eq_false h5
 rw [h7] at q4
 rw [h9] at q5
 have dC : (max (keepS l).c c.n != (keepS l).c) = true := by rw [bne_iff_ne]; exact hC
 have dC2 : (max (keepS l).c c.n == (keepS l).c) = false := by rw [beq_eq_false_iff_ne]; exact hC
 have q8 := fun W D r (h : Below w.heap.size w W) (hi : IntsAt W D .i64 (keepS l).l) => rwrite_any2 l.x l.y (max (keepS l).c c.n) a A l.x.l.length p B l.y.l.length q D (keepS l).l.length r (keepS l).l rfl W (hx.below h) (hy.below h) hcb hi (by omega) hfl
 have z0 : wr0 l.x l.y (max (keepS l).c c.n) (keepS l).l a = Slt.zero := by rw [wr0, if_neg hE]
 have z1 : wr1 l.x l.y (max (keepS l).c c.n) (keepS l).l a = Slt.zero := by rw [wr1, if_neg hE]
 rw [z0, z1] at q8
 unfold SlotsErr at q8
 clear z0 z1
 simp only [Slt.zero, List.length_nil] at q8
 have dE : (wrE l.x l.y (max (keepS l).c c.n) (keepS l).l a == 0) = false := by rw [beq_eq_false_iff_ne]; exact hE
 have dE2 : (wrE l.x l.y (max (keepS l).c c.n) (keepS l).l a != 0) = true := by rw [bne_iff_ne]; exact hE
 generalize wrE l.x l.y (max (keepS l).c c.n) (keepS l).l a = E8 at *
 clear hcb hfl hll
 generalize lvB l = V at *
 generalize cvB c = V2 at *
 generalize timeB t = V3 at *
 generalize chkB c l.k = V4 at *
 generalize chkE c l.k = V5 at *
 generalize accB l c t = V6 at *
 generalize keepS l = s at *
 unfold Lk.cells at k0 hw0 q2 q5 q6 ⊢
 unfold Crd.cells at g0 hw0 q3 q4 q5 ⊢
 obtain ⟨ci, ck, cd, cn, cf, cu, cl, ce, cs⟩ := c
 obtain ⟨ld, lk, lr, lx, ly, lu⟩ := l
 dsimp only at *
 subst h6 hk
 have ⟨Hbb0, Hk0, Hg0, Hr0, Hhw0, Hq1, Hq2, Hq3⟩ := hid8 bb0 k0 g0 r0 hw0 q1 q2 q3; clear bb0 k0 g0 r0 hw0 q1 q2 q3; have ⟨Hq4, Hq5, Hq6, Hhx, Hhy, Hhc, Hhs, Hfew⟩ := hid8 q4 q5 q6 hx hy hc hs few; clear q4 q5 q6 hx hy hc hs few; have Hq8 := Lib.hid q8; clear q8
 go_enter Tryz.func33, Tryz.ntmps33
 go_wp2_with fail
 rw [Hhw0.out]
 obtain ⟨y0, y1, y2, y3, y4, y5, y6, y7, y8, y9, y10, y11⟩ := at12_of Hk0.out
 go_wp2_with fail
 (with_reducible refine (Hq2.out _ ?_).mono ?_)
 ·exact Hbb0.out.trans ((show Below w0.heap.size w0 _ from belt).mono Hbb0.out.size)
 rintro e w1 ⟨rfl, b1⟩
 have c1 : Below w0.heap.size w0 w1 := Below.trans belt (b1.mono omh)
 have s1 := c1.size
 have bb1 := Hbb0.out.trans (c1.mono Hbb0.out.size)
 have k1 := Hk0.out.below c1
 have g1 := Hg0.out.below c1
 have r1 := Hr0.out.below c1
 have ⟨Hb1, Hc1, Hbb1, Hk1, Hg1, Hr1⟩ := hid6 b1 c1 bb1 k1 g1 r1; clear b1 c1 bb1 k1 g1 r1
 clear y0 y1 y2 y3 y4 y5 y6 y7 y8 y9 y10 y11
 obtain ⟨z0, z1, z2, z3, z4, z5, z6, z7, z8⟩ := at9_of Hg1.out
 go_wp2_with fail
 (with_reducible refine (Hq3.out _).mono ?_)
 rintro e w2 ⟨rfl, b2⟩
 have c2 : Below w1.heap.size w1 w2 := Below.trans belt (b2.mono omh)
 have s2 := c2.size
 have bb2 := Hbb1.out.trans (c2.mono Hbb1.out.size)
 have k2 := Hk1.out.below c2
 have g2 := Hg1.out.below c2
 have r2 := Hr1.out.below c2
 have ⟨Hb2, Hc2, Hbb2, Hk2, Hg2, Hr2⟩ := hid6 b2 c2 bb2 k2 g2 r2; clear b2 c2 bb2 k2 g2 r2
 clear z0 z1 z2 z3 z4 z5 z6 z7 z8
 go_wp2_with fail
 (with_reducible refine (Hq1.out _).mono ?_)
 rintro e w3 ⟨rfl, b3⟩
 have c3 : Below w2.heap.size w2 w3 := Below.trans belt (b3.mono omh)
 have s3 := c3.size
 have bb3 := Hbb2.out.trans (c3.mono Hbb2.out.size)
 have k3 := Hk2.out.below c3
 have g3 := Hg2.out.below c3
 have r3 := Hr2.out.below c3
 have ⟨Hb3, Hc3, Hbb3, Hk3, Hg3, Hr3⟩ := hid6 b3 c3 bb3 k3 g3 r3; clear b3 c3 bb3 k3 g3 r3
 obtain ⟨y0, y1, y2, y3, y4, y5, y6, y7, y8, y9, y10, y11⟩ := at12_of Hk3.out
 obtain ⟨z0, z1, z2, z3, z4, z5, z6, z7, z8⟩ := at9_of Hg3.out
 go_wp2_with fail
 (with_reducible refine (Hq4.out _).mono ?_)
 rintro e w4 ⟨rfl, b4⟩
 have c4 : Below w3.heap.size w3 w4 := Below.trans belt (b4.mono omh)
 have s4 := c4.size
 have bb4 := Hbb3.out.trans (c4.mono Hbb3.out.size)
 have k4 := Hk3.out.below c4
 have g4 := Hg3.out.below c4
 have r4 := Hr3.out.below c4
 have ⟨Hb4, Hc4, Hbb4, Hk4, Hg4, Hr4⟩ := hid6 b4 c4 bb4 k4 g4 r4; clear b4 c4 bb4 k4 g4 r4
 clear y0 y1 y2 y3 y4 y5 y6 y7 y8 y9 y10 y11 z0 z1 z2 z3 z4 z5 z6 z7 z8
 obtain ⟨y0, y1, y2, y3, y4, y5, y6, y7, y8, y9, y10, y11⟩ := at12_of Hk4.out
 obtain ⟨z0, z1, z2, z3, z4, z5, z6, z7, z8⟩ := at9_of Hg4.out
 go_wp2_with fail
 (with_reducible refine (Hq5.out _ ?_).mono ?_)
 ·exact Hbb4.out.trans ((show Below w4.heap.size w4 _ from belt).mono Hbb4.out.size)
 rintro e w5 ⟨rfl, b5⟩
 have c5 : Below w4.heap.size w4 w5 := Below.trans belt (b5.mono omh)
 have s5 := c5.size
 have bb5 := Hbb4.out.trans (c5.mono Hbb4.out.size)
 have k5 := Hk4.out.below c5
 have g5 := Hg4.out.below c5
 have r5 := Hr4.out.below c5
 have ⟨Hb5, Hc5, Hbb5, Hk5, Hg5, Hr5⟩ := hid6 b5 c5 bb5 k5 g5 r5; clear b5 c5 bb5 k5 g5 r5
 clear y0 y1 y2 y3 y4 y5 y6 y7 y8 y9 y10 y11 z0 z1 z2 z3 z4 z5 z6 z7 z8
 obtain ⟨y0, y1, y2, y3, y4, y5, y6, y7, y8, y9, y10, y11⟩ := at12_of Hk5.out
 go_wp2_with fail
 (with_reducible refine (Hq6.out _ ?_).mono ?_)
 ·exact Hbb5.out.trans ((show Below w5.heap.size w5 _ from belt).mono Hbb5.out.size)
 rintro e w6 ⟨rfl, b6⟩
 have c6 : Below w5.heap.size w5 w6 := Below.trans belt (b6.mono omh)
 have s6 := c6.size
 have bb6 := Hbb5.out.trans (c6.mono Hbb5.out.size)
 have k6 := Hk5.out.below c6
 have g6 := Hg5.out.below c6
 have r6 := Hr5.out.below c6
 have ⟨Hb6, Hc6, Hbb6, Hk6, Hg6, Hr6⟩ := hid6 b6 c6 bb6 k6 g6 r6; clear b6 c6 bb6 k6 g6 r6
 clear y0 y1 y2 y3 y4 y5 y6 y7 y8 y9 y10 y11
 have e6 := Hhs.out.below Hbb6.out
 have He6 := Lib.hid e6; clear e6
 obtain ⟨z0, z1, z2, z3, z4, z5, z6, z7, z8⟩ := at9_of Hg6.out
 have lz6 := (Hg6.out 0 _ rfl).lt
 obtain ⟨y0, y1, y2, y3, y4, y5, y6, y7, y8, y9, y10, y11⟩ := at12_of Hk6.out
 have ly7 := (Hk6.out 0 _ rfl).lt
 go_wp2_with fail
 (with_reducible refine (Hq8.out _ _ _ ?_ ?_).mono ?_)
 ·exact Hbb6.out.trans ((show Below w6.heap.size w6 _ from belt).mono Hbb6.out.size)
 ·exact (He6.out.below (show Below w6.heap.size w6 _ from belt)).ints
 rintro e w9 ⟨A8, p8, B8, q8, rfl, i9, j9, b9⟩
 have c9 : Below w6.heap.size w6 w9 := Below.trans belt (b9.mono omh)
 have s9 := c9.size
 have bb9 := Hbb6.out.trans (c9.mono Hbb6.out.size)
 have k9 := Hk6.out.below c9
 have g9 := Hg6.out.below c9
 have r9 := Hr6.out.below c9
 have ⟨Hb9, Hc9, Hbb9, Hk9, Hg9, Hr9⟩ := hid6 b9 c9 bb9 k9 g9 r9; clear b9 c9 bb9 k9 g9 r9
 clear i9 j9 y0 y1 y2 y3 y4 y5 y6 y7 y8 y9 y10 y11 z0 z1 z2 z3 z4 z5 z6 z7 z8
 obtain ⟨x0, x1, x2, x3, x4, x5, x6, x7, x8, x9, x10, x11⟩ := at12_of Hr9.out
 have lx9 := (Hr9.out 0 _ rfl).lt
 have sz9 := Hbb9.out.size
 obtain ⟨f0, f1, f2, f3, f4, f5, f6, f7, f8, f9, f10, f11⟩ := free12_of Hr9.out
 have be : Below w.heap.size w ((putL (w9) (w.heap.size + 1 + 1) 0 [.int .i64 0, .int .i64 0, .int .i64 0, .int .i64 0, .int .i64 0, .slice none 0 0, .int .u64 0, .int .i64 0, .int .i64 0, .slice none 0 0, .int .u64 0, .bool false]).alloc (.cells #[.int .i64 0, .int .i64 0, .slice A8 0 p8, .int .u64 0, .int .i64 0, .int .i64 0, .slice B8 0 q8, .int .u64 0] 46)) := (putL_below (by omega) _ _ _ Hbb9.out).alloc (by rw [putL_size]; exact Hbb9.out.size) _
 simp only [putL, Nat.reduceAdd] at be
 have Hbe := Lib.hid be; clear be
 go_wp2_with fail
 refine bodyPost_ret (v := .tuple #[.agg #[.int .i64 0, .int .i64 0, .int .i64 0, .int .i64 0, .int .i64 0, .slice none 0 0, .int .u64 0, .int .i64 0, .int .i64 0, .slice none 0 0, .int .u64 0, .bool false], .bool false, .int .i64 E8]) (by simp [results, Tryz.results33, go_sem, *]) rfl (showErr_zero Hbe.out)
set_option maxHeartbeats 8000000 in
theorem rshow_x3 (l : Lk) (c : Crd) (t a : Int) (A : Option Addr) (n p : Nat) (B : Option Addr) (m q : Nat) (w : World) (hx : SlotIs w A n l.x) (hy : SlotIs w B m l.y) (hc : CFit c) (h1 : lvB l = true) (h2 : cvB c = true) (h3 : timeB t = true) (h4 : ¬ a < 0) (h5 : ¬ 3 < a) (h6 : l.up = true) (h7 : chkB c l.k = true) (h9 : accB l c t = true) (hk : c.k = 3) (hbb : bestB l.x l.y = true) (hcb : -9223372036854775808 ≤ (keepS l).c ∧ (keepS l).c ≤ 9223372036854775807) (hfl : Fit (insL (keepS l).l ((keepS l).l.countP (· < c.l)) c.l)) (hll : (insL (keepS l).l ((keepS l).l.countP (· < c.l)) c.l).length ≤ 501) (hm : (keepS l).l.contains c.l = false) (hE : ¬ wrE l.x l.y (keepS l).c (insL (keepS l).l ((keepS l).l.countP (· < c.l)) c.l) a = 0) :
  Calls Tryz.prog 33 #[.agg (l.cells A n p B m q).toArray, .agg c.cells.toArray, .int .i64 t, .int .i64 a] w (ShowPost A l.x.l B l.y.l Lk.zero false (wrE l.x l.y (keepS l).c (insL (keepS l).l ((keepS l).l.countP (· < c.l)) c.l) a) w) := by
 have hn := hx.len
 have hm := hy.len
 subst hn hm
 obtain ⟨w0, hw0⟩ : ∃ W, ((w.alloc (.cells (l.cells A l.x.l.length p B l.y.l.length q).toArray 48)).alloc (.cells c.cells.toArray 28)).alloc (.cells #[.int .i64 0, .int .i64 0, .int .i64 0, .int .i64 0, .int .i64 0, .slice none 0 0, .int .u64 0, .int .i64 0, .int .i64 0, .slice none 0 0, .int .u64 0, .bool false] 48) = W := ⟨_, rfl⟩
 have bb0 : Below w.heap.size w w0 := by rw [← hw0]; exact (((Below.refl _ _).alloc (Nat.le_refl _) _).alloc (by simp) _).alloc (by simp; omega) _
 have k0 : Blk w0 w.heap.size (l.cells A l.x.l.length p B l.y.l.length q).toArray := by rw [← hw0]; exact ((blk_new rfl).alloc _).alloc _
 have g0 : Blk w0 (w.heap.size + 1) c.cells.toArray := by rw [← hw0]; exact (blk_new (by simp)).alloc _
 have r0 : Blk w0 (w.heap.size + 1 + 1) #[.int .i64 0, .int .i64 0, .int .i64 0, .int .i64 0, .int .i64 0, .slice none 0 0, .int .u64 0, .int .i64 0, .int .i64 0, .slice none 0 0, .int .u64 0, .bool false] := by rw [← hw0]; exact blk_new (by simp)
 have q1 := fun W => (rTime_any t W).mono belowPost
 have q2 := fun W (h : Below w.heap.size w W) => rlvalid_any l A l.x.l.length p B l.y.l.length q W (hx.below h) (hy.below h)
 have q3 := fun W => rcvalid_any c hc W
 have q4 := fun W => rccheck_any c l.k hc W
 have q5 := fun W (h : Below w.heap.size w W) => raccepts_any l c t A l.x.l.length p B l.y.l.length q W (hx.below h) (hy.below h)
 obtain ⟨K, tt, hs, q6⟩ := rlkeeps_as l A l.x.l.length p B l.y.l.length q w hx hy
 have few := hs.few
 rw [h1] at q2
 rw [h2] at q3
 rw [h3] at q1
 have d4 : decide (a < 0) = false := decide_eq_false h4
 have d5 : decide (3 < a) = false := decide_eq_false h5
 rw [h7] at q4
 rw [h9] at q5
 have so := (ok_sorted (keep_ok hbb)).1
 have hcp : (keepS l).l.countP (· < c.l) ≤ (keepS l).l.length := List.countP_le_length
 have hlo := count_lo (keepS l).l c.l so (by simpa using hm)
 have q7 := fun W (hi : IntsAt W K .i64 (keepS l).l) => has_any K tt (keepS l).l.length (keepS l).l rfl c.l W hi few
 rw [hm] at q7
 have q9 := fun W (hi : IntsAt W K .i64 (keepS l).l) => rput_any K tt (keepS l).l.length (keepS l).l rfl c.l W hi few ((keepS l).l.countP (· < c.l)) hcp hlo
 unfold NewList at q9
 clear hlo so
 have q8 := fun W D r (h : Below w.heap.size w W) (hi : IntsAt W D .i64 (insL (keepS l).l ((keepS l).l.countP (· < c.l)) c.l)) => rwrite_any2 l.x l.y (keepS l).c a A l.x.l.length p B l.y.l.length q D (insL (keepS l).l ((keepS l).l.countP (· < c.l)) c.l).length r (insL (keepS l).l ((keepS l).l.countP (· < c.l)) c.l) rfl W (hx.below h) (hy.below h) hcb hi (by omega) hfl
 have z0 : wr0 l.x l.y (keepS l).c (insL (keepS l).l ((keepS l).l.countP (· < c.l)) c.l) a = Slt.zero := by rw [wr0, if_neg hE]
 have z1 : wr1 l.x l.y (keepS l).c (insL (keepS l).l ((keepS l).l.countP (· < c.l)) c.l) a = Slt.zero := by rw [wr1, if_neg hE]
 rw [z0, z1] at q8
 unfold SlotsErr at q8
 clear z0 z1
 simp only [Slt.zero, List.length_nil] at q8
 have dE : (wrE l.x l.y (keepS l).c (insL (keepS l).l ((keepS l).l.countP (· < c.l)) c.l) a == 0) = false := by rw [beq_eq_false_iff_ne]; exact hE
 have dE2 : (wrE l.x l.y (keepS l).c (insL (keepS l).l ((keepS l).l.countP (· < c.l)) c.l) a != 0) = true := by rw [bne_iff_ne]; exact hE
 generalize wrE l.x l.y (keepS l).c (insL (keepS l).l ((keepS l).l.countP (· < c.l)) c.l) a = E8 at *
 clear hcb hfl hll
 generalize lvB l = V at *
 generalize cvB c = V2 at *
 generalize timeB t = V3 at *
 generalize chkB c l.k = V4 at *
 generalize chkE c l.k = V5 at *
 generalize accB l c t = V6 at *
 generalize insL (keepS l).l ((keepS l).l.countP (· < c.l)) c.l = RL at *
 generalize keepS l = s at *
 unfold Lk.cells at k0 hw0 q2 q5 q6 ⊢
 unfold Crd.cells at g0 hw0 q3 q4 q5 ⊢
 obtain ⟨ci, ck, cd, cn, cf, cu, cl, ce, cs⟩ := c
 obtain ⟨ld, lk, lr, lx, ly, lu⟩ := l
 dsimp only at *
 subst h6 hk
 have ⟨Hbb0, Hk0, Hg0, Hr0, Hhw0, Hq1, Hq2, Hq3⟩ := hid8 bb0 k0 g0 r0 hw0 q1 q2 q3; clear bb0 k0 g0 r0 hw0 q1 q2 q3; have ⟨Hq4, Hq5, Hq6, Hhx, Hhy, Hhc, Hhs, Hfew⟩ := hid8 q4 q5 q6 hx hy hc hs few; clear q4 q5 q6 hx hy hc hs few; have ⟨Hq8, Hq7, Hq9, Hhm, Hhcp⟩ := hid5 q8 q7 q9 hm hcp; clear q8 q7 q9 hm hcp
 go_enter Tryz.func33, Tryz.ntmps33
 go_wp2_with fail
 rw [Hhw0.out]
 obtain ⟨y0, y1, y2, y3, y4, y5, y6, y7, y8, y9, y10, y11⟩ := at12_of Hk0.out
 go_wp2_with fail
 (with_reducible refine (Hq2.out _ ?_).mono ?_)
 ·exact Hbb0.out.trans ((show Below w0.heap.size w0 _ from belt).mono Hbb0.out.size)
 rintro e w1 ⟨rfl, b1⟩
 have c1 : Below w0.heap.size w0 w1 := Below.trans belt (b1.mono omh)
 have s1 := c1.size
 have bb1 := Hbb0.out.trans (c1.mono Hbb0.out.size)
 have k1 := Hk0.out.below c1
 have g1 := Hg0.out.below c1
 have r1 := Hr0.out.below c1
 have ⟨Hb1, Hc1, Hbb1, Hk1, Hg1, Hr1⟩ := hid6 b1 c1 bb1 k1 g1 r1; clear b1 c1 bb1 k1 g1 r1
 clear y0 y1 y2 y3 y4 y5 y6 y7 y8 y9 y10 y11
 obtain ⟨z0, z1, z2, z3, z4, z5, z6, z7, z8⟩ := at9_of Hg1.out
 go_wp2_with fail
 (with_reducible refine (Hq3.out _).mono ?_)
 rintro e w2 ⟨rfl, b2⟩
 have c2 : Below w1.heap.size w1 w2 := Below.trans belt (b2.mono omh)
 have s2 := c2.size
 have bb2 := Hbb1.out.trans (c2.mono Hbb1.out.size)
 have k2 := Hk1.out.below c2
 have g2 := Hg1.out.below c2
 have r2 := Hr1.out.below c2
 have ⟨Hb2, Hc2, Hbb2, Hk2, Hg2, Hr2⟩ := hid6 b2 c2 bb2 k2 g2 r2; clear b2 c2 bb2 k2 g2 r2
 clear z0 z1 z2 z3 z4 z5 z6 z7 z8
 go_wp2_with fail
 (with_reducible refine (Hq1.out _).mono ?_)
 rintro e w3 ⟨rfl, b3⟩
 have c3 : Below w2.heap.size w2 w3 := Below.trans belt (b3.mono omh)
 have s3 := c3.size
 have bb3 := Hbb2.out.trans (c3.mono Hbb2.out.size)
 have k3 := Hk2.out.below c3
 have g3 := Hg2.out.below c3
 have r3 := Hr2.out.below c3
 have ⟨Hb3, Hc3, Hbb3, Hk3, Hg3, Hr3⟩ := hid6 b3 c3 bb3 k3 g3 r3; clear b3 c3 bb3 k3 g3 r3
 obtain ⟨y0, y1, y2, y3, y4, y5, y6, y7, y8, y9, y10, y11⟩ := at12_of Hk3.out
 obtain ⟨z0, z1, z2, z3, z4, z5, z6, z7, z8⟩ := at9_of Hg3.out
 go_wp2_with fail
 (with_reducible refine (Hq4.out _).mono ?_)
 rintro e w4 ⟨rfl, b4⟩
 have c4 : Below w3.heap.size w3 w4 := Below.trans belt (b4.mono omh)
 have s4 := c4.size
 have bb4 := Hbb3.out.trans (c4.mono Hbb3.out.size)
 have k4 := Hk3.out.below c4
 have g4 := Hg3.out.below c4
 have r4 := Hr3.out.below c4
 have ⟨Hb4, Hc4, Hbb4, Hk4, Hg4, Hr4⟩ := hid6 b4 c4 bb4 k4 g4 r4; clear b4 c4 bb4 k4 g4 r4
 clear y0 y1 y2 y3 y4 y5 y6 y7 y8 y9 y10 y11 z0 z1 z2 z3 z4 z5 z6 z7 z8
 obtain ⟨y0, y1, y2, y3, y4, y5, y6, y7, y8, y9, y10, y11⟩ := at12_of Hk4.out
 obtain ⟨z0, z1, z2, z3, z4, z5, z6, z7, z8⟩ := at9_of Hg4.out
 go_wp2_with fail
 (with_reducible refine (Hq5.out _ ?_).mono ?_)
 ·exact Hbb4.out.trans ((show Below w4.heap.size w4 _ from belt).mono Hbb4.out.size)
 rintro e w5 ⟨rfl, b5⟩
 have c5 : Below w4.heap.size w4 w5 := Below.trans belt (b5.mono omh)
 have s5 := c5.size
 have bb5 := Hbb4.out.trans (c5.mono Hbb4.out.size)
 have k5 := Hk4.out.below c5
 have g5 := Hg4.out.below c5
 have r5 := Hr4.out.below c5
 have ⟨Hb5, Hc5, Hbb5, Hk5, Hg5, Hr5⟩ := hid6 b5 c5 bb5 k5 g5 r5; clear b5 c5 bb5 k5 g5 r5
 clear y0 y1 y2 y3 y4 y5 y6 y7 y8 y9 y10 y11 z0 z1 z2 z3 z4 z5 z6 z7 z8
 obtain ⟨y0, y1, y2, y3, y4, y5, y6, y7, y8, y9, y10, y11⟩ := at12_of Hk5.out
 go_wp2_with fail
 (with_reducible refine (Hq6.out _ ?_).mono ?_)
 ·exact Hbb5.out.trans ((show Below w5.heap.size w5 _ from belt).mono Hbb5.out.size)
 rintro e w6 ⟨rfl, b6⟩
 have c6 : Below w5.heap.size w5 w6 := Below.trans belt (b6.mono omh)
 have s6 := c6.size
 have bb6 := Hbb5.out.trans (c6.mono Hbb5.out.size)
 have k6 := Hk5.out.below c6
 have g6 := Hg5.out.below c6
 have r6 := Hr5.out.below c6
 have ⟨Hb6, Hc6, Hbb6, Hk6, Hg6, Hr6⟩ := hid6 b6 c6 bb6 k6 g6 r6; clear b6 c6 bb6 k6 g6 r6
 clear y0 y1 y2 y3 y4 y5 y6 y7 y8 y9 y10 y11
 have e6 := Hhs.out.below Hbb6.out
 have He6 := Lib.hid e6; clear e6
 obtain ⟨z0, z1, z2, z3, z4, z5, z6, z7, z8⟩ := at9_of Hg6.out
 have lz6 := (Hg6.out 0 _ rfl).lt
 go_wp2_with fail
 (with_reducible refine (Hq7.out _ ?_).mono ?_)
 ·exact (He6.out.below (show Below w6.heap.size w6 _ from belt)).ints
 rintro e w7 ⟨rfl, b7⟩
 have c7 : Below w6.heap.size w6 w7 := Below.trans belt (b7.mono omh)
 have s7 := c7.size
 have bb7 := Hbb6.out.trans (c7.mono Hbb6.out.size)
 have k7 := Hk6.out.below c7
 have g7 := Hg6.out.below c7
 have r7 := Hr6.out.below c7
 have e7 := He6.out.below c7
 have ⟨Hb7, Hc7, Hbb7, Hk7, Hg7, Hr7, He7⟩ := hid7 b7 c7 bb7 k7 g7 r7 e7; clear b7 c7 bb7 k7 g7 r7 e7
 have v7 : Blk w7 w6.heap.size #[.int .i64 s.s, .int .i64 s.c, .slice K s.l.length tt, .int .u64 s.u] := (blk_new rfl).below Hb7.out
 have Hv7 := Lib.hid v7; clear v7
 clear z0 z1 z2 z3 z4 z5 z6 z7 z8
 obtain ⟨z0, z1, z2, z3, z4, z5, z6, z7, z8⟩ := at9_of Hg7.out
 obtain ⟨x0, x1, x2, x3⟩ := at4_of Hv7.out
 go_wp2_with fail
 (with_reducible refine (Hq9.out _ ?_).mono ?_)
 ·exact (He7.out.below (show Below w7.heap.size w7 _ from belt)).ints
 rintro e w8 ⟨K8, t8, rfl, o8, b8⟩
 have c8 : Below w7.heap.size w7 w8 := Below.trans belt (b8.mono omh)
 have s8 := c8.size
 have bb8 := Hbb7.out.trans (c8.mono Hbb7.out.size)
 have k8 := Hk7.out.below c8
 have g8 := Hg7.out.below c8
 have r8 := Hr7.out.below c8
 have ⟨Hb8, Hc8, Hbb8, Hk8, Hg8, Hr8⟩ := hid6 b8 c8 bb8 k8 g8 r8; clear b8 c8 bb8 k8 g8 r8
 have i8 := o8.ints
 clear o8
 have Hi8 := Lib.hid i8; clear i8
 clear z0 z1 z2 z3 z4 z5 z6 z7 z8 x0 x1 x2 x3
 obtain ⟨y0, y1, y2, y3, y4, y5, y6, y7, y8, y9, y10, y11⟩ := at12_of Hk8.out
 have ly7 := (Hk8.out 0 _ rfl).lt
 go_wp2_with fail
 (with_reducible refine (Hq8.out _ _ _ ?_ ?_).mono ?_)
 ·exact Hbb8.out.trans ((show Below w8.heap.size w8 _ from belt).mono Hbb8.out.size)
 ·exact Hi8.out.below (show Below w8.heap.size w8 _ from belt)
 rintro e w9 ⟨A8, p8, B8, q8, rfl, i9, j9, b9⟩
 have c9 : Below w8.heap.size w8 w9 := Below.trans belt (b9.mono omh)
 have s9 := c9.size
 have bb9 := Hbb8.out.trans (c9.mono Hbb8.out.size)
 have k9 := Hk8.out.below c9
 have g9 := Hg8.out.below c9
 have r9 := Hr8.out.below c9
 have ⟨Hb9, Hc9, Hbb9, Hk9, Hg9, Hr9⟩ := hid6 b9 c9 bb9 k9 g9 r9; clear b9 c9 bb9 k9 g9 r9
 clear i9 j9 y0 y1 y2 y3 y4 y5 y6 y7 y8 y9 y10 y11
 obtain ⟨x0, x1, x2, x3, x4, x5, x6, x7, x8, x9, x10, x11⟩ := at12_of Hr9.out
 have lx9 := (Hr9.out 0 _ rfl).lt
 have sz9 := Hbb9.out.size
 obtain ⟨f0, f1, f2, f3, f4, f5, f6, f7, f8, f9, f10, f11⟩ := free12_of Hr9.out
 have be : Below w.heap.size w ((putL (w9) (w.heap.size + 1 + 1) 0 [.int .i64 0, .int .i64 0, .int .i64 0, .int .i64 0, .int .i64 0, .slice none 0 0, .int .u64 0, .int .i64 0, .int .i64 0, .slice none 0 0, .int .u64 0, .bool false]).alloc (.cells #[.int .i64 0, .int .i64 0, .slice A8 0 p8, .int .u64 0, .int .i64 0, .int .i64 0, .slice B8 0 q8, .int .u64 0] 46)) := (putL_below (by omega) _ _ _ Hbb9.out).alloc (by rw [putL_size]; exact Hbb9.out.size) _
 simp only [putL, Nat.reduceAdd] at be
 have Hbe := Lib.hid be; clear be
 go_wp2_with fail
 refine bodyPost_ret (v := .tuple #[.agg #[.int .i64 0, .int .i64 0, .int .i64 0, .int .i64 0, .int .i64 0, .slice none 0 0, .int .u64 0, .int .i64 0, .int .i64 0, .slice none 0 0, .int .u64 0, .bool false], .bool false, .int .i64 E8]) (by simp [results, Tryz.results33, go_sem, *]) rfl (showErr_zero Hbe.out)
theorem rshow_any (l : Lk) (c : Crd) (t a : Int) (A : Option Addr) (n p : Nat) (B : Option Addr) (m q : Nat) (w : World) (hx : SlotIs w A n l.x) (hy : SlotIs w B m l.y) (hc : CFit c) :
    Calls Tryz.prog 33 #[.agg (l.cells A n p B m q).toArray, .agg c.cells.toArray, .int .i64 t, .int .i64 a] w (ShowPost A l.x.l B l.y.l (shR l c t a) (shO l c t a) (shE l c t a) w) := by
  by_cases h1 : lvB l = true
  rotate_left
  · have e : shE l c t a = 1 := by rw [shE, if_neg (fun h => h1 h.1)]
    rw [(sh_err e (by omega)).1, (sh_err e (by omega)).2, e]
    exact rshow_e1 l c t a A n p B m q w hx hy hc (by simpa using h1)
  by_cases h2 : cvB c = true
  rotate_left
  · have e : shE l c t a = 1 := by rw [shE, if_neg (fun h => h2 h.2.1)]
    rw [(sh_err e (by omega)).1, (sh_err e (by omega)).2, e]
    exact rshow_e2 l c t a A n p B m q w hx hy hc h1 (by simpa using h2)
  by_cases h3 : timeB t = true
  rotate_left
  · have e : shE l c t a = 1 := by rw [shE, if_neg (fun h => h3 h.2.2.1)]
    rw [(sh_err e (by omega)).1, (sh_err e (by omega)).2, e]
    exact rshow_e3 l c t a A n p B m q w hx hy hc h1 h2 (by simpa using h3)
  by_cases h4 : a < 0
  · have e : shE l c t a = 1 := by rw [shE, if_neg (fun h => h.2.2.2.1 h4)]
    rw [(sh_err e (by omega)).1, (sh_err e (by omega)).2, e]
    exact rshow_e4 l c t a A n p B m q w hx hy hc h1 h2 h3 h4
  by_cases h5 : 3 < a
  · have e : shE l c t a = 1 := by rw [shE, if_neg (fun h => h.2.2.2.2 h5)]
    rw [(sh_err e (by omega)).1, (sh_err e (by omega)).2, e]
    exact rshow_e5 l c t a A n p B m q w hx hy hc h1 h2 h3 h4 h5
  have e0 : shE l c t a = if l.up = true then if chkB c l.k = true then if accB l c t = true then shWE l c a else 50 else 9 else 51 := by rw [shE, if_pos ⟨h1, h2, h3, h4, h5⟩]
  by_cases h6 : l.up = true
  rotate_left
  · have e : shE l c t a = 51 := by rw [e0, if_neg h6]
    rw [(sh_err e (by omega)).1, (sh_err e (by omega)).2, e]
    exact rshow_e6 l c t a A n p B m q w hx hy hc h1 h2 h3 h4 h5 (by simpa using h6)
  by_cases h7 : chkB c l.k = true
  rotate_left
  · have e : shE l c t a = 9 := by rw [e0, if_pos h6, if_neg h7]
    rw [(sh_err e (by omega)).1, (sh_err e (by omega)).2, e]
    exact rshow_e7 l c t a A n p B m q w hx hy hc h1 h2 h3 h4 h5 h6 (by simpa using h7)
  by_cases h9 : accB l c t = true
  rotate_left
  · have e : shE l c t a = 50 := by rw [e0, if_pos h6, if_pos h7, if_neg h9]
    rw [(sh_err e (by omega)).1, (sh_err e (by omega)).2, e]
    exact rshow_e8 l c t a A n p B m q w hx hy hc h1 h2 h3 h4 h5 h6 h7 (by simpa using h9)
  rw [if_pos h6, if_pos h7, if_pos h9] at e0
  have hbb := lv_best h1
  have hcb := aftC_in (l := l) hc hbb
  have hfl := aftL_fit (l := l) (c := c) hc hx.fit hy.fit
  have hll : (aftL l c).length ≤ 501 := by have := aftL_len l c; have := (keep_in hbb).2; omega
  have fail_ (hW : shW l c = true) (hE : ¬ wrE l.x l.y (aftC l c) (aftL l c) a = 0) : shR l c t a = Lk.zero ∧ shO l c t a = false ∧ shE l c t a = wrE l.x l.y (aftC l c) (aftL l c) a := by
    have e : shE l c t a = wrE l.x l.y (aftC l c) (aftL l c) a := by rw [e0, shWE, if_pos hW]
    exact ⟨(sh_err e hE).1, (sh_err e hE).2, e⟩
  by_cases hEE : shW l c = true ∧ ¬ wrE l.x l.y (aftC l c) (aftL l c) a = 0
  · obtain ⟨hW, hE⟩ := hEE
    obtain ⟨x1, x2, x3⟩ := fail_ hW hE
    rw [x1, x2, x3]
    rcases kind_of h2 with hk | hk | hk
    · have eC : aftC l c = max (keepS l).c c.n := by rw [aftC, if_pos hk]
      have eL : aftL l c = (keepS l).l := by rw [aftL, if_neg (by omega)]
      have hC : ¬ max (keepS l).c c.n = (keepS l).c := fun h => by
        rw [shW_of (by rw [eC, h]) eL] at hW; cases hW
      rw [eC] at hcb
      rw [eL] at hfl hll
      rw [eC, eL] at hE ⊢
      exact rshow_x1 l c t a A n p B m q w hx hy hc h1 h2 h3 h4 h5 h6 h7 h9 hk hbb hcb hfl hll hC hE
    · rw [shW_of (by rw [aftC, if_neg (by omega)]) (by rw [aftL, if_neg (by omega)])] at hW; cases hW
    · have eC : aftC l c = (keepS l).c := by rw [aftC, if_neg (by omega)]
      cases hm : (keepS l).l.contains c.l with
      | true => rw [shW_of eC (by rw [aftL, if_pos hk, revL, if_pos hm])] at hW; cases hW
      | false =>
        have eL : aftL l c = insL (keepS l).l ((keepS l).l.countP (· < c.l)) c.l := by rw [aftL, if_pos hk, revL, if_neg (by rw [hm]; decide)]
        rw [eC] at hcb
        rw [eL] at hfl hll
        rw [eC, eL] at hE ⊢
        exact rshow_x3 l c t a A n p B m q w hx hy hc h1 h2 h3 h4 h5 h6 h7 h9 hk hbb hcb hfl hll hm hE
  · have e : shE l c t a = 0 := by
      rw [e0, shWE]
      split
      · rename_i hW; exact Decidable.byContradiction fun h => hEE ⟨hW, h⟩
      · rfl
    obtain ⟨MO, hMO⟩ : ∃ MO, (decide (c.k = 3) && !(keepS l).l.contains c.l) = MO := ⟨_, rfl⟩
    have hM2 : MO = true → c.k = 3 ∧ (keepS l).l.contains c.l = false := fun h => by
      rw [h, Bool.and_eq_true, decide_eq_true_eq, Bool.not_eq_true'] at hMO; exact hMO
    have hL1 : MO = true → insL (keepS l).l ((keepS l).l.countP (· < c.l)) c.l = aftL l c := fun h => by
      obtain ⟨hk, hm⟩ := hM2 h
      rw [aftL, if_pos hk, revL, if_neg (by rw [hm]; decide)]
    have hL0 : MO = false → (keepS l).l = aftL l c := fun h => by
      rw [aftL]
      split
      · rename_i hk
        rw [h, decide_eq_true hk, Bool.true_and, Bool.not_eq_false'] at hMO
        rw [revL, if_pos hMO]
      · rfl
    have hW : (MO || (aftC l c != (keepS l).c)) = shW l c := by
      have hb : (aftC l c != (keepS l).c) = !decide (aftC l c = (keepS l).c) := rfl
      rw [shW, hb, Bool.or_comm]
      cases MO with
      | true =>
        have hlen : ¬ (aftL l c).length = (keepS l).l.length := by rw [← hL1 rfl, insL_len]; omega
        rw [decide_eq_false hlen]; rfl
      | false =>
        have hlen : (aftL l c).length = (keepS l).l.length := by rw [← hL0 rfl]
        rw [decide_eq_true hlen]; rfl
    have this := rshow_ok l c t a A n p B m q w hx hy hc h1 h2 h3 h4 h5 h6 h7 h9 (if shW l c = true then wr0 l.x l.y (aftC l c) (aftL l c) a else l.x) (if shW l c = true then wr1 l.x l.y (aftC l c) (aftL l c) a else l.y) (aftC l c) (aftL l c) MO (shW l c)
      (fun h => by rw [aftC, if_pos h]) (fun h => by rw [aftC, if_neg h]) (fun h => by rw [← hMO, decide_eq_true h, Bool.true_and]) (fun h => by rw [← hMO, decide_eq_false h, Bool.false_and]) (fun h => (hM2 h).2) hL1 hL0 hW
      (fun h => by rw [h]; exact ⟨rfl, rfl⟩) (fun h => ⟨Decidable.byContradiction fun h8 => hEE ⟨h, h8⟩, by rw [if_pos h], by rw [if_pos h]⟩) hbb hcb hfl hll
    rw [e, shR, if_pos e, shO, if_pos e]
    exact this
end Go.Proofs.YtclgncaghiinhaaGreatDoor

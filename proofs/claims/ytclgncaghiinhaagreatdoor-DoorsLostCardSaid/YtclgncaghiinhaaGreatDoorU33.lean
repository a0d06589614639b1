/- lock.Show where something has to be written (another Counter). -/
import Derived.Test.YtclgncaghiinhaaGreatDoorU9
import Derived.Test.YtclgncaghiinhaaGreatDoorU21
import Derived.Test.YtclgncaghiinhaaGreatDoorU28
set_option linter.unusedSimpArgs false
set_option linter.unusedVariables false
set_option maxRecDepth 100000
namespace Go.Proofs.YtclgncaghiinhaaGreatDoor
open Go.RowKit
theorem slots2 {A0 : Option Addr} {l0 : List Int} {B0 : Option Addr} {m0 : List Int} {x y : Slt} {E : Int} {w w' : World} {e : Ending} : SlotsErr2 A0 l0 B0 m0 x y E w e w' → SlotsErr x y E w e w' := fun ⟨A, p, B, q, h1, h2, h3, h4⟩ => ⟨A, p, B, q, h1, h2.1, h3.1, h4⟩
theorem write_any2 (x y : Slt) (c at_ : Int) (A : Option Addr) (n p : Nat) (B : Option Addr) (m q : Nat) (D : Option Addr) (k r : Nat) (l : List Int) (hlk : l.length = k) (w : World) (hx : SlotIs w A n x) (hy : SlotIs w B m y) (hc : -9223372036854775808 ≤ c ∧ c ≤ 9223372036854775807) (hl : IntsAt w D .i64 l) (hk : k ≤ 9223372036854775807) (hf : Fit l) (ht : Tab w) :
  Calls Tryz.prog 106 #[.agg #[.int .i64 x.s, .int .i64 x.c, .slice A n p, .int .u64 x.u, .int .i64 y.s, .int .i64 y.c, .slice B m q, .int .u64 y.u], .int .i64 c, .slice D k r, .int .i64 at_] w (SlotsErr (wr0 x y c l at_) (wr1 x y c l at_) (wrE x y c l at_) w) := by
 by_cases e0 : wrE x y c l at_ = 0
 ·rw [e0]; exact (write2_ok x y c at_ A n p B m q D k r l hlk w hx hy hc hl hf ht e0).mono fun _ _ => slots2
 by_cases h500 : 500 < k
 ·have e : wrE x y c l at_ = 2 := by rw [wrE, if_pos (by omega)]
  rw [wr0, wr1, e, if_neg (by omega), if_neg (by omega)]
  exact write_made _ _ _ _ _ _ c at_ 2 A n p B m q D k r w rfl fun W _ => make_long 0 c D r k W h500 hk
 cases hF : fldB 0 c l with
 | false =>
  have e : wrE x y c l at_ = 1 := by rw [wrE, if_neg (by omega), if_pos hF]
  rw [wr0, wr1, e, if_neg (by omega), if_neg (by omega)]
  exact write_made _ _ _ _ _ _ c at_ 1 A n p B m q D k r w rfl fun W hb => make_bad 0 c D r k l hlk W (by omega) hc (hl.below hb) (by omega) hf (ht.below hb) hF
 | true =>
  cases hat : wB at_ 0 3 with
  | false =>
   have e : wrE x y c l at_ = 1 := by rw [wrE, if_neg (by omega), if_neg (by simp [hF]), if_pos hat]
   rw [wr0, wr1, e, if_neg (by omega), if_neg (by omega)]
   exact write_arg x y c at_ A n p B m q D k r l hlk w hx hy hc hl (by omega) hf ht hF hat
  | true =>
   have h3 : at_ = 0 ∨ at_ = 1 ∨ at_ = 2 ∨ at_ = 3 := by have := wB_iff.1 hat; omega
   have e : wrE x y c l at_ = if topS x y = 1000000000 then 3 else 0 := by rw [wrE, if_neg (by omega), if_neg (by simp [hF]), if_neg (by simp [hat])]
   cases hE : bestB x y with
   | false =>
    have et : topS x y = 0 := by simp [topS, hE]
    rw [et, if_neg (by omega)] at e
    exact absurd e e0
   | true =>
    rcases bestI_01 x y with hI | hI
    ·have et : topS x y = x.s := by simp [topS, hE, hI]
     have hb := ok_s (best_ok0 hE hI)
     rw [et] at e
     by_cases hS : x.s = 1000000000
     ·rw [if_pos hS] at e
      rw [wr0, wr1, e, if_neg (by omega), if_neg (by omega)]
      exact write_r0 x y c at_ A n p B m q D k r l hlk w hx hy hc hl (by omega) hf ht hF hat hE hI hS
     ·rw [if_neg hS] at e
      exact absurd e e0
    ·have et : topS x y = y.s := by simp [topS, hE, hI]
     have hb := ok_s (best_ok1 hI)
     rw [et] at e
     by_cases hS : y.s = 1000000000
     ·rw [if_pos hS] at e
      rw [wr0, wr1, e, if_neg (by omega), if_neg (by omega)]
      exact write_r1 x y c at_ A n p B m q D k r l hlk w hx hy hc hl (by omega) hf ht hF hat hE hI hS
     ·rw [if_neg hS] at e
      exact absurd e e0
set_option maxHeartbeats 8000000 in
theorem show_x1 (l : Lk) (c : Crd) (t a : Int) (A : Option Addr) (n p : Nat) (B : Option Addr) (m q : Nat) (w : World) (hx : SlotIs w A n l.x) (hy : SlotIs w B m l.y) (ht : Tab w) (hc : CFit c) (h1 : lvB l = true) (h2 : cvB c = true) (h3 : timeB t = true) (h4 : ¬ a < 0) (h5 : ¬ 3 < a) (h6 : l.up = true) (h7 : chkB c l.k = true) (h8 : chkE c l.k = 0) (h9 : accB l c t = true) (hk : c.k = 1 ∨ c.k = 2 ∨ c.k = 3) (hbb : bestB l.x l.y = true) (hcb : -9223372036854775808 ≤ aftC l c ∧ aftC l c ≤ 9223372036854775807) (hfl : Fit (aftL l c)) (hll : (aftL l c).length ≤ 501) (hC : ¬ aftC l c = (keepS l).c) (hE : ¬ wrE l.x l.y (aftC l c) (aftL l c) a = 0) :
  Calls Tryz.prog 87 #[.agg (l.cells A n p B m q).toArray, .agg c.cells.toArray, .int .i64 t, .int .i64 a] w (ShowPost A l.x.l B l.y.l Lk.zero false (wrE l.x l.y (aftC l c) (aftL l c) a) w) := by
 have hn := hx.len
 have hm := hy.len
 subst hn hm
 obtain ⟨w0, hw0⟩ : ∃ W, ((w.alloc (.cells (l.cells A l.x.l.length p B l.y.l.length q).toArray 48)).alloc (.cells c.cells.toArray 28)).alloc (.cells #[.int .i64 0, .int .i64 0, .int .i64 0, .int .i64 0, .int .i64 0, .slice none 0 0, .int .u64 0, .int .i64 0, .int .i64 0, .slice none 0 0, .int .u64 0, .bool false] 48) = W := ⟨_, rfl⟩
 have bb0 : Below w.heap.size w w0 := by rw [← hw0]; exact (((Below.refl _ _).alloc (Nat.le_refl _) _).alloc (by simp) _).alloc (by simp; omega) _
 have k0 : Blk w0 w.heap.size (l.cells A l.x.l.length p B l.y.l.length q).toArray := by rw [← hw0]; exact ((blk_new rfl).alloc _).alloc _
 have g0 : Blk w0 (w.heap.size + 1) c.cells.toArray := by rw [← hw0]; exact (blk_new (by simp)).alloc _
 have r0 : Blk w0 (w.heap.size + 1 + 1) #[.int .i64 0, .int .i64 0, .int .i64 0, .int .i64 0, .int .i64 0, .slice none 0 0, .int .u64 0, .int .i64 0, .int .i64 0, .slice none 0 0, .int .u64 0, .bool false] := by rw [← hw0]; exact blk_new (by simp)
 have q1 := fun W => clockTrue_any t 0 W
 rw [read_time] at q1
 have q2 := fun W (h : Below w.heap.size w W) => lvalid_any l A l.x.l.length p B l.y.l.length q W (hx.below h) (hy.below h) (ht.below h)
 have q3 := fun W => cvalid_any c hc W
 have q4 := fun W (h : Below w.heap.size w W) => ccheck_any c l.k hc W (ht.below h)
 have q5 := fun W (h : Below w.heap.size w W) => accepts_any l c t A l.x.l.length p B l.y.l.length q W (hx.below h) (hy.below h) (ht.below h)
 obtain ⟨K, tt, hs, q6⟩ := kept_as l A l.x.l.length p B l.y.l.length q w hx hy ht
 have few := hs.few
 have q7 := fun W (h : Below w.heap.size w W) => after_any l c hk A l.x.l.length p B l.y.l.length q W (hx.below h) (hy.below h) (ht.below h) hbb
 unfold AftPost at q7
 rw [h1] at q2
 rw [h2] at q3
 rw [h3] at q1
 rw [h7, h8] at q4
 rw [h9] at q5
 have q8 := fun W D r (h : Below w.heap.size w W) (hi : IntsAt W D .i64 (aftL l c)) => write_any2 l.x l.y (aftC l c) a A l.x.l.length p B l.y.l.length q D (aftL l c).length r (aftL l c) rfl W (hx.below h) (hy.below h) hcb hi (by omega) hfl (ht.below h)
 have z0 : wr0 l.x l.y (aftC l c) (aftL l c) a = Slt.zero := by rw [wr0, if_neg hE]
 have z1 : wr1 l.x l.y (aftC l c) (aftL l c) a = Slt.zero := by rw [wr1, if_neg hE]
 rw [z0, z1] at q8
 unfold SlotsErr at q8
 clear z0 z1
 simp only [Slt.zero, List.length_nil] at q8
 have dE : (wrE l.x l.y (aftC l c) (aftL l c) a == 0) = false := by rw [beq_eq_false_iff_ne]; exact hE
 have dE2 : (wrE l.x l.y (aftC l c) (aftL l c) a != 0) = true := by rw [bne_iff_ne]; exact hE
 generalize wrE l.x l.y (aftC l c) (aftL l c) a = E8 at *
 clear hcb hfl hll
 unfold errN at q1
 generalize lvB l = V at *
 generalize cvB c = V2 at *
 generalize timeB t = V3 at *
 generalize chkB c l.k = V4 at *
 generalize chkE c l.k = V5 at *
 generalize accB l c t = V6 at *
 generalize trueA t 0 = ta at *
 generalize trueB t 0 = tb at *
 generalize aftC l c = RC at *
 generalize aftL l c = RL at *
 generalize keepS l = s at *
 generalize bestB l.x l.y = T at *
 unfold Lk.cells at k0 hw0 q2 q5 q6 q7 ⊢
 unfold Crd.cells at g0 hw0 q3 q4 q5 q7 ⊢
 obtain ⟨ci, ck, cd, cn, cf, cu, cl, ce, cs⟩ := c
 obtain ⟨ld, lk, lr, lx, ly, lu⟩ := l
 dsimp only at *
 have dC : (RC != s.c) = true := by rw [bne_iff_ne]; exact hC
 have dC2 : (RC == s.c) = false := by rw [beq_eq_false_iff_ne]; exact hC
 subst h6
 simp only [Bool.false_eq_true, reduceIte, if_true, if_false] at q1
 have ⟨Hbb0, Hk0, Hg0, Hr0, Hhw0, Hq1, Hq2, Hq3⟩ := hid8 bb0 k0 g0 r0 hw0 q1 q2 q3; clear bb0 k0 g0 r0 hw0 q1 q2 q3; have ⟨Hq4, Hq5, Hq6, Hq7, Hhx, Hhy, Hht, Hhc⟩ := hid8 q4 q5 q6 q7 hx hy ht hc; clear q4 q5 q6 q7 hx hy ht hc; have ⟨Hhs, Hfew, Hq8⟩ := hid3 hs few q8; clear hs few q8
 go_enter Tryz.func87, Tryz.ntmps87
 go_wp2_with fail
 rw [Hhw0.out]
 go_wp2_with fail
 (with_reducible refine (Hq1.out _).mono ?_)
 rintro e w1 ⟨rfl, b1⟩
 have c1 : Below w0.heap.size w0 w1 := Below.trans belt (b1.mono omh)
 have s1 := c1.size
 have bb1 := Hbb0.out.trans (c1.mono Hbb0.out.size)
 have k1 := Hk0.out.below c1
 have g1 := Hg0.out.below c1
 have r1 := Hr0.out.below c1
 have ⟨Hb1, Hc1, Hbb1, Hk1, Hg1, Hr1⟩ := hid6 b1 c1 bb1 k1 g1 r1; clear b1 c1 bb1 k1 g1 r1
 obtain ⟨y0, y1, y2, y3, y4, y5, y6, y7, y8, y9, y10, y11⟩ := at12_of Hk1.out
 have ly1 := (Hk1.out 0 _ rfl).lt
 go_wp2_with fail
 (with_reducible refine (Hq2.out _ ?_).mono ?_)
 ·exact Hbb1.out.trans ((show Below w1.heap.size w1 _ from belt).mono Hbb1.out.size)
 rintro e w2 ⟨rfl, b2⟩
 have c2 : Below w1.heap.size w1 w2 := Below.trans belt (b2.mono omh)
 have s2 := c2.size
 have bb2 := Hbb1.out.trans (c2.mono Hbb1.out.size)
 have k2 := Hk1.out.below c2
 have g2 := Hg1.out.below c2
 have r2 := Hr1.out.below c2
 have ⟨Hb2, Hc2, Hbb2, Hk2, Hg2, Hr2⟩ := hid6 b2 c2 bb2 k2 g2 r2; clear b2 c2 bb2 k2 g2 r2
 clear y0 y1 y2 y3 y4 y5 y6 y7 y8 y9 y10 y11
 obtain ⟨z0, z1, z2, z3, z4, z5, z6, z7, z8⟩ := at9_of Hg2.out
 go_wp2_with fail
 (with_reducible refine (Hq3.out _).mono ?_)
 rintro e w3 ⟨rfl, b3⟩
 have c3 : Below w2.heap.size w2 w3 := Below.trans belt (b3.mono omh)
 have s3 := c3.size
 have bb3 := Hbb2.out.trans (c3.mono Hbb2.out.size)
 have k3 := Hk2.out.below c3
 have g3 := Hg2.out.below c3
 have r3 := Hr2.out.below c3
 have ⟨Hb3, Hc3, Hbb3, Hk3, Hg3, Hr3⟩ := hid6 b3 c3 bb3 k3 g3 r3; clear b3 c3 bb3 k3 g3 r3
 clear z0 z1 z2 z3 z4 z5 z6 z7 z8
 obtain ⟨y0, y1, y2, y3, y4, y5, y6, y7, y8, y9, y10, y11⟩ := at12_of Hk3.out
 obtain ⟨z0, z1, z2, z3, z4, z5, z6, z7, z8⟩ := at9_of Hg3.out
 go_wp2_with fail
 (with_reducible refine (Hq4.out _ ?_).mono ?_)
 ·exact Hbb3.out.trans ((show Below w3.heap.size w3 _ from belt).mono Hbb3.out.size)
 rintro e w4 ⟨rfl, b4⟩
 have c4 : Below w3.heap.size w3 w4 := Below.trans belt (b4.mono omh)
 have s4 := c4.size
 have bb4 := Hbb3.out.trans (c4.mono Hbb3.out.size)
 have k4 := Hk3.out.below c4
 have g4 := Hg3.out.below c4
 have r4 := Hr3.out.below c4
 have ⟨Hb4, Hc4, Hbb4, Hk4, Hg4, Hr4⟩ := hid6 b4 c4 bb4 k4 g4 r4; clear b4 c4 bb4 k4 g4 r4
 clear y0 y1 y2 y3 y4 y5 y6 y7 y8 y9 y10 y11 z0 z1 z2 z3 z4 z5 z6 z7 z8
 obtain ⟨y0, y1, y2, y3, y4, y5, y6, y7, y8, y9, y10, y11⟩ := at12_of Hk4.out
 obtain ⟨z0, z1, z2, z3, z4, z5, z6, z7, z8⟩ := at9_of Hg4.out
 have ly4 := (Hk4.out 0 _ rfl).lt
 have lz4 := (Hg4.out 0 _ rfl).lt
 have d4 : Blk (w4.alloc (.cells #[.int .i64 ld, .int .i64 lk, .int .i64 lr, .int .i64 lx.s, .int .i64 lx.c, .slice A lx.l.length p, .int .u64 lx.u, .int .i64 ly.s, .int .i64 ly.c, .slice B ly.l.length q, .int .u64 ly.u, .bool true] 85)) w4.heap.size #[.int .i64 ld, .int .i64 lk, .int .i64 lr, .int .i64 lx.s, .int .i64 lx.c, .slice A lx.l.length p, .int .u64 lx.u, .int .i64 ly.s, .int .i64 ly.c, .slice B ly.l.length q, .int .u64 ly.u, .bool true] := blk_new rfl
 go_wp2_with fail
 (with_reducible refine (Hq5.out _ ?_).mono ?_)
 ·exact Hbb4.out.trans ((show Below w4.heap.size w4 _ from belt).mono Hbb4.out.size)
 rintro e w5 ⟨rfl, b5⟩
 have c5 : Below w4.heap.size w4 w5 := Below.trans belt (b5.mono omh)
 have s5 := c5.size
 have bb5 := Hbb4.out.trans (c5.mono Hbb4.out.size)
 have k5 := Hk4.out.below c5
 have g5 := Hg4.out.below c5
 have r5 := Hr4.out.below c5
 have ⟨Hb5, Hc5, Hbb5, Hk5, Hg5, Hr5⟩ := hid6 b5 c5 bb5 k5 g5 r5; clear b5 c5 bb5 k5 g5 r5
 have d5 := d4.below Hb5.out
 clear d4
 have Hd5 := Lib.hid d5; clear d5
 clear y0 y1 y2 y3 y4 y5 y6 y7 y8 y9 y10 y11 z0 z1 z2 z3 z4 z5 z6 z7 z8
 obtain ⟨y0, y1, y2, y3, y4, y5, y6, y7, y8, y9, y10, y11⟩ := at12_of Hd5.out
 go_wp2_with fail
 (with_reducible refine (Hq6.out _ ?_).mono ?_)
 ·exact Hbb5.out.trans ((show Below w5.heap.size w5 _ from belt).mono Hbb5.out.size)
 rintro e w6 ⟨rfl, b6⟩
 have c6 : Below w5.heap.size w5 w6 := Below.trans belt (b6.mono omh)
 have s6 := c6.size
 have bb6 := Hbb5.out.trans (c6.mono Hbb5.out.size)
 have k6 := Hk5.out.below c6
 have g6 := Hg5.out.below c6
 have r6 := Hr5.out.below c6
 have d6 := Hd5.out.below c6
 have ⟨Hb6, Hc6, Hbb6, Hk6, Hg6, Hr6, Hd6⟩ := hid7 b6 c6 bb6 k6 g6 r6 d6; clear b6 c6 bb6 k6 g6 r6 d6
 clear y0 y1 y2 y3 y4 y5 y6 y7 y8 y9 y10 y11
 obtain ⟨y0, y1, y2, y3, y4, y5, y6, y7, y8, y9, y10, y11⟩ := at12_of Hd6.out
 obtain ⟨z0, z1, z2, z3, z4, z5, z6, z7, z8⟩ := at9_of Hg6.out
 have ly6 := (Hd6.out 0 _ rfl).lt
 have lz6 := (Hg6.out 0 _ rfl).lt
 have v6 : Blk (w6.alloc (.cells #[.int .i64 s.s, .int .i64 s.c, .slice K s.l.length tt, .int .u64 s.u] 45)) w6.heap.size #[.int .i64 s.s, .int .i64 s.c, .slice K s.l.length tt, .int .u64 s.u] := blk_new rfl
 go_wp2_with fail
 (with_reducible refine (Hq7.out _ ?_).mono ?_)
 ·exact Hbb6.out.trans ((show Below w6.heap.size w6 _ from belt).mono Hbb6.out.size)
 rintro e w7 ⟨K7, t7, rfl, i7, b7⟩
 have c7 : Below w6.heap.size w6 w7 := Below.trans belt (b7.mono omh)
 have s7 := c7.size
 have bb7 := Hbb6.out.trans (c7.mono Hbb6.out.size)
 have k7 := Hk6.out.below c7
 have g7 := Hg6.out.below c7
 have r7 := Hr6.out.below c7
 have d7 := Hd6.out.below c7
 have ⟨Hb7, Hc7, Hbb7, Hk7, Hg7, Hr7, Hd7⟩ := hid7 b7 c7 bb7 k7 g7 r7 d7; clear b7 c7 bb7 k7 g7 r7 d7
 have v7 := v6.below Hb7.out
 clear v6
 have ⟨Hv7, Hi7⟩ := hid2 v7 i7; clear v7 i7
 clear y0 y1 y2 y3 y4 y5 y6 y7 y8 y9 y10 y11 z0 z1 z2 z3 z4 z5 z6 z7 z8
 obtain ⟨x0, x1, x2, x3⟩ := at4_of Hv7.out
 obtain ⟨y0, y1, y2, y3, y4, y5, y6, y7, y8, y9, y10, y11⟩ := at12_of Hd7.out
 have ly7 := (Hd7.out 0 _ rfl).lt
 go_wp2_with fail
 (with_reducible refine (Hq8.out _ _ _ ?_ ?_).mono ?_)
 ·exact Hbb7.out.trans ((show Below w7.heap.size w7 _ from belt).mono Hbb7.out.size)
 ·exact Hi7.out.below (show Below w7.heap.size w7 _ from belt)
 rintro e w8 ⟨A8, p8, B8, q8, rfl, i8, j8, b8⟩
 have c8 : Below w7.heap.size w7 w8 := Below.trans belt (b8.mono omh)
 have s8 := c8.size
 have bb8 := Hbb7.out.trans (c8.mono Hbb7.out.size)
 have k8 := Hk7.out.below c8
 have g8 := Hg7.out.below c8
 have r8 := Hr7.out.below c8
 have d8 := Hd7.out.below c8
 have ⟨Hb8, Hc8, Hbb8, Hk8, Hg8, Hr8, Hd8⟩ := hid7 b8 c8 bb8 k8 g8 r8 d8; clear b8 c8 bb8 k8 g8 r8 d8
 clear i8 j8 y0 y1 y2 y3 y4 y5 y6 y7 y8 y9 y10 y11 x0 x1 x2 x3
 obtain ⟨x0, x1, x2, x3, x4, x5, x6, x7, x8, x9, x10, x11⟩ := at12_of Hr8.out
 have lx8 := (Hr8.out 0 _ rfl).lt
 have sz8 := Hbb8.out.size
 obtain ⟨f0, f1, f2, f3, f4, f5, f6, f7, f8, f9, f10, f11⟩ := free12_of Hr8.out
 have be : Below w.heap.size w ((putL (w8) (w.heap.size + 1 + 1) 0 [.int .i64 0, .int .i64 0, .int .i64 0, .int .i64 0, .int .i64 0, .slice none 0 0, .int .u64 0, .int .i64 0, .int .i64 0, .slice none 0 0, .int .u64 0, .bool false]).alloc (.cells #[.int .i64 0, .int .i64 0, .slice A8 0 p8, .int .u64 0, .int .i64 0, .int .i64 0, .slice B8 0 q8, .int .u64 0] 46)) := (putL_below (by omega) _ _ _ Hbb8.out).alloc (by rw [putL_size]; exact Hbb8.out.size) _
 simp only [putL, Nat.reduceAdd] at be
 have Hbe := Lib.hid be; clear be
 go_wp2_with fail
 refine bodyPost_ret (v := .tuple #[.agg #[.int .i64 0, .int .i64 0, .int .i64 0, .int .i64 0, .int .i64 0, .slice none 0 0, .int .u64 0, .int .i64 0, .int .i64 0, .slice none 0 0, .int .u64 0, .bool false], .bool false, .int .i64 E8]) (by simp [results, Tryz.results87, go_sem, *]) rfl (showErr_zero Hbe.out)
end Go.Proofs.YtclgncaghiinhaaGreatDoor

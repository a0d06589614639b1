/- lock.Show where it succeeds. -/
import Derived.Test.YtclgncaghiinhaaGreatDoorU21
import Derived.Test.YtclgncaghiinhaaGreatDoorU28
set_option linter.unusedSimpArgs false
set_option linter.unusedVariables false
set_option maxRecDepth 100000
namespace Go.Proofs.YtclgncaghiinhaaGreatDoor
open Go.RowKit
set_option maxHeartbeats 8000000 in
theorem show_ok (l : Lk) (c : Crd) (t a : Int) (A : Option Addr) (n p : Nat) (B : Option Addr) (m q : Nat) (w : World) (hx : SlotIs w A n l.x) (hy : SlotIs w B m l.y) (ht : Tab w) (hc : CFit c) (h1 : lvB l = true) (h2 : cvB c = true) (h3 : timeB t = true) (h4 : ¬ a < 0) (h5 : ¬ 3 < a) (h6 : l.up = true) (h7 : chkB c l.k = true) (h8 : chkE c l.k = 0) (h9 : accB l c t = true) (hk : c.k = 1 ∨ c.k = 2 ∨ c.k = 3) (hbb : bestB l.x l.y = true) (X8 Y8 : Slt) (WR : Bool) (hcb : -9223372036854775808 ≤ aftC l c ∧ aftC l c ≤ 9223372036854775807) (hfl : Fit (aftL l c)) (hll : (aftL l c).length ≤ 501)
  (hW : ((aftC l c != (keepS l).c) || (((aftL l c).length : Int) != ((keepS l).l.length : Int))) = WR) (hX0 : WR = false → l.x = X8 ∧ l.y = Y8) (hX1 : WR = true → wrE l.x l.y (aftC l c) (aftL l c) a = 0 ∧ wr0 l.x l.y (aftC l c) (aftL l c) a = X8 ∧ wr1 l.x l.y (aftC l c) (aftL l c) a = Y8) :
  Calls Tryz.prog 87 #[.agg (l.cells A n p B m q).toArray, .agg c.cells.toArray, .int .i64 t, .int .i64 a] w (ShowPost A l.x.l B l.y.l { l with x := X8, y := Y8, up := decide (a = 3) } (decide (a = 3) && !decide (c.k = 3)) 0 w) := by
 have hn := hx.len
 have hm := hy.len
 subst hn hm
 obtain ⟨w0, hw0⟩ : ∃ W, ((w.alloc (.cells (l.cells A l.x.l.length p B l.y.l.length q).toArray 48)).alloc (.cells c.cells.toArray 28)).alloc (.cells #[.int .i64 0, .int .i64 0, .int .i64 0, .int .i64 0, .int .i64 0, .slice none 0 0, .int .u64 0, .int .i64 0, .int .i64 0, .slice none 0 0, .int .u64 0, .bool false] 48) = W := ⟨_, rfl⟩
 have bb0 : Below w.heap.size w w0 := by rw [← hw0]; exact (((Below.refl _ _).alloc (Nat.le_refl _) _).alloc (by simp) _).alloc (by simp; omega) _
 have k0 : Blk w0 w.heap.size (l.cells A l.x.l.length p B l.y.l.length q).toArray := by rw [← hw0]; exact ((blk_new rfl).alloc _).alloc _
 have g0 : Blk w0 (w.heap.size + 1) c.cells.toArray := by rw [← hw0]; exact (blk_new (by simp)).alloc _
 have r0 : Blk w0 (w.heap.size + 1 + 1) #[.int .i64 0, .int .i64 0, .int .i64 0, .int .i64 0, .int .i64 0, .slice none 0 0, .int .u64 0, .int .i64 0, .int .i64 0, .slice none 0 0, .int .u64 0, .bool false] := by rw [← hw0]; exact blk_new (by simp)
 have q1 := fun W => clockTrue_any t 0 W
 rw [read_time] at q1
 have q2 := fun W (h : Below w.heap.size w W) => lvalid_any l A l.x.l.length p B l.y.l.length q W (hx.below h) (hy.below h) (ht.below h)
 have q3 := fun W => cvalid_any c hc W
 have q4 := fun W (h : Below w.heap.size w W) => ccheck_any c l.k hc W (ht.below h)
 have q5 := fun W (h : Below w.heap.size w W) => accepts_any l c t A l.x.l.length p B l.y.l.length q W (hx.below h) (hy.below h) (ht.below h)
 obtain ⟨K, tt, hs, q6⟩ := kept_as l A l.x.l.length p B l.y.l.length q w hx hy ht
 have few := hs.few
 have q7 := fun W (h : Below w.heap.size w W) => after_any l c hk A l.x.l.length p B l.y.l.length q W (hx.below h) (hy.below h) (ht.below h) hbb
 unfold AftPost at q7
 rw [h1] at q2
 rw [h2] at q3
 rw [h3] at q1
 rw [h7, h8] at q4
 rw [h9] at q5
 have q8 : WR = true → ∀ W D r, Below w.heap.size w W → IntsAt W D .i64 (aftL l c) → Calls Tryz.prog 106 #[.agg #[.int .i64 l.x.s, .int .i64 l.x.c, .slice A l.x.l.length p, .int .u64 l.x.u, .int .i64 l.y.s, .int .i64 l.y.c, .slice B l.y.l.length q, .int .u64 l.y.u], .int .i64 (aftC l c), .slice D (aftL l c).length r, .int .i64 a] W (SlotsErr2 A l.x.l B l.y.l X8 Y8 0 W) := fun h W D r hb hi => by
  obtain ⟨e, e0, e1⟩ := hX1 h
  have := write2_ok l.x l.y (aftC l c) a A l.x.l.length p B l.y.l.length q D (aftL l c).length r (aftL l c) rfl W (hx.below hb) (hy.below hb) hcb hi hfl (ht.below hb) e
  rw [e0, e1] at this
  exact this
 unfold SlotsErr2 at q8
 clear hX1 hcb hfl hll
 unfold errN at q1
 generalize lvB l = V at *
 generalize cvB c = V2 at *
 generalize timeB t = V3 at *
 generalize chkB c l.k = V4 at *
 generalize chkE c l.k = V5 at *
 generalize accB l c t = V6 at *
 generalize trueA t 0 = ta at *
 generalize trueB t 0 = tb at *
 generalize aftC l c = RC at *
 generalize aftL l c = RL at *
 generalize keepS l = s at *
 generalize bestB l.x l.y = T at *
 unfold Lk.cells at k0 hw0 q2 q5 q6 q7 ⊢
 unfold Crd.cells at g0 hw0 q3 q4 q5 q7 ⊢
 obtain ⟨ci, ck, cd, cn, cf, cu, cl, ce, cs⟩ := c
 obtain ⟨ld, lk, lr, lx, ly, lu⟩ := l
 dsimp only at *
 obtain ⟨u, hu⟩ : ∃ u, (a == 3) = u := ⟨_, rfl⟩
 have eu : decide (a = 3) = u := hu
 have ek : decide (ck = 3) = (ck == 3) := rfl
 rw [eu, ek]
 clear eu ek
 subst h6
 simp only [Bool.false_eq_true, reduceIte, if_true, if_false] at q1
 have ⟨Hbb0, Hk0, Hg0, Hr0, Hhw0, Hq1, Hq2, Hq3⟩ := hid8 bb0 k0 g0 r0 hw0 q1 q2 q3; clear bb0 k0 g0 r0 hw0 q1 q2 q3; have ⟨Hq4, Hq5, Hq6, Hq7, Hhx, Hhy, Hht, Hhc⟩ := hid8 q4 q5 q6 q7 hx hy ht hc; clear q4 q5 q6 q7 hx hy ht hc; have ⟨Hhs, Hfew, Hq8, HhW, HhX0, Hhu⟩ := hid6 hs few q8 hW hX0 hu; clear hs few q8 hW hX0 hu
 go_enter Tryz.func87, Tryz.ntmps87
 go_wp2_with fail
 rw [Hhw0.out]
 go_wp2_with fail
 (with_reducible refine (Hq1.out _).mono ?_)
 rintro e w1 ⟨rfl, b1⟩
 have c1 : Below w0.heap.size w0 w1 := Below.trans belt (b1.mono omh)
 have s1 := c1.size
 have bb1 := Hbb0.out.trans (c1.mono Hbb0.out.size)
 have k1 := Hk0.out.below c1
 have g1 := Hg0.out.below c1
 have r1 := Hr0.out.below c1
 have ⟨Hb1, Hc1, Hbb1, Hk1, Hg1, Hr1⟩ := hid6 b1 c1 bb1 k1 g1 r1; clear b1 c1 bb1 k1 g1 r1
 obtain ⟨y0, y1, y2, y3, y4, y5, y6, y7, y8, y9, y10, y11⟩ := at12_of Hk1.out
 have ly1 := (Hk1.out 0 _ rfl).lt
 go_wp2_with fail
 (with_reducible refine (Hq2.out _ ?_).mono ?_)
 ·exact Hbb1.out.trans ((show Below w1.heap.size w1 _ from belt).mono Hbb1.out.size)
 rintro e w2 ⟨rfl, b2⟩
 have c2 : Below w1.heap.size w1 w2 := Below.trans belt (b2.mono omh)
 have s2 := c2.size
 have bb2 := Hbb1.out.trans (c2.mono Hbb1.out.size)
 have k2 := Hk1.out.below c2
 have g2 := Hg1.out.below c2
 have r2 := Hr1.out.below c2
 have ⟨Hb2, Hc2, Hbb2, Hk2, Hg2, Hr2⟩ := hid6 b2 c2 bb2 k2 g2 r2; clear b2 c2 bb2 k2 g2 r2
 clear y0 y1 y2 y3 y4 y5 y6 y7 y8 y9 y10 y11
 obtain ⟨z0, z1, z2, z3, z4, z5, z6, z7, z8⟩ := at9_of Hg2.out
 go_wp2_with fail
 (with_reducible refine (Hq3.out _).mono ?_)
 rintro e w3 ⟨rfl, b3⟩
 have c3 : Below w2.heap.size w2 w3 := Below.trans belt (b3.mono omh)
 have s3 := c3.size
 have bb3 := Hbb2.out.trans (c3.mono Hbb2.out.size)
 have k3 := Hk2.out.below c3
 have g3 := Hg2.out.below c3
 have r3 := Hr2.out.below c3
 have ⟨Hb3, Hc3, Hbb3, Hk3, Hg3, Hr3⟩ := hid6 b3 c3 bb3 k3 g3 r3; clear b3 c3 bb3 k3 g3 r3
 clear z0 z1 z2 z3 z4 z5 z6 z7 z8
 obtain ⟨y0, y1, y2, y3, y4, y5, y6, y7, y8, y9, y10, y11⟩ := at12_of Hk3.out
 obtain ⟨z0, z1, z2, z3, z4, z5, z6, z7, z8⟩ := at9_of Hg3.out
 go_wp2_with fail
 (with_reducible refine (Hq4.out _ ?_).mono ?_)
 ·exact Hbb3.out.trans ((show Below w3.heap.size w3 _ from belt).mono Hbb3.out.size)
 rintro e w4 ⟨rfl, b4⟩
 have c4 : Below w3.heap.size w3 w4 := Below.trans belt (b4.mono omh)
 have s4 := c4.size
 have bb4 := Hbb3.out.trans (c4.mono Hbb3.out.size)
 have k4 := Hk3.out.below c4
 have g4 := Hg3.out.below c4
 have r4 := Hr3.out.below c4
 have ⟨Hb4, Hc4, Hbb4, Hk4, Hg4, Hr4⟩ := hid6 b4 c4 bb4 k4 g4 r4; clear b4 c4 bb4 k4 g4 r4
 clear y0 y1 y2 y3 y4 y5 y6 y7 y8 y9 y10 y11 z0 z1 z2 z3 z4 z5 z6 z7 z8
 obtain ⟨y0, y1, y2, y3, y4, y5, y6, y7, y8, y9, y10, y11⟩ := at12_of Hk4.out
 obtain ⟨z0, z1, z2, z3, z4, z5, z6, z7, z8⟩ := at9_of Hg4.out
 have ly4 := (Hk4.out 0 _ rfl).lt
 have lz4 := (Hg4.out 0 _ rfl).lt
 have d4 : Blk (w4.alloc (.cells #[.int .i64 ld, .int .i64 lk, .int .i64 lr, .int .i64 lx.s, .int .i64 lx.c, .slice A lx.l.length p, .int .u64 lx.u, .int .i64 ly.s, .int .i64 ly.c, .slice B ly.l.length q, .int .u64 ly.u, .bool true] 85)) w4.heap.size #[.int .i64 ld, .int .i64 lk, .int .i64 lr, .int .i64 lx.s, .int .i64 lx.c, .slice A lx.l.length p, .int .u64 lx.u, .int .i64 ly.s, .int .i64 ly.c, .slice B ly.l.length q, .int .u64 ly.u, .bool true] := blk_new rfl
 go_wp2_with fail
 (with_reducible refine (Hq5.out _ ?_).mono ?_)
 ·exact Hbb4.out.trans ((show Below w4.heap.size w4 _ from belt).mono Hbb4.out.size)
 rintro e w5 ⟨rfl, b5⟩
 have c5 : Below w4.heap.size w4 w5 := Below.trans belt (b5.mono omh)
 have s5 := c5.size
 have bb5 := Hbb4.out.trans (c5.mono Hbb4.out.size)
 have k5 := Hk4.out.below c5
 have g5 := Hg4.out.below c5
 have r5 := Hr4.out.below c5
 have ⟨Hb5, Hc5, Hbb5, Hk5, Hg5, Hr5⟩ := hid6 b5 c5 bb5 k5 g5 r5; clear b5 c5 bb5 k5 g5 r5
 have d5 := d4.below Hb5.out
 clear d4
 have Hd5 := Lib.hid d5; clear d5
 clear y0 y1 y2 y3 y4 y5 y6 y7 y8 y9 y10 y11 z0 z1 z2 z3 z4 z5 z6 z7 z8
 obtain ⟨y0, y1, y2, y3, y4, y5, y6, y7, y8, y9, y10, y11⟩ := at12_of Hd5.out
 go_wp2_with fail
 (with_reducible refine (Hq6.out _ ?_).mono ?_)
 ·exact Hbb5.out.trans ((show Below w5.heap.size w5 _ from belt).mono Hbb5.out.size)
 rintro e w6 ⟨rfl, b6⟩
 have c6 : Below w5.heap.size w5 w6 := Below.trans belt (b6.mono omh)
 have s6 := c6.size
 have bb6 := Hbb5.out.trans (c6.mono Hbb5.out.size)
 have k6 := Hk5.out.below c6
 have g6 := Hg5.out.below c6
 have r6 := Hr5.out.below c6
 have d6 := Hd5.out.below c6
 have ⟨Hb6, Hc6, Hbb6, Hk6, Hg6, Hr6, Hd6⟩ := hid7 b6 c6 bb6 k6 g6 r6 d6; clear b6 c6 bb6 k6 g6 r6 d6
 clear y0 y1 y2 y3 y4 y5 y6 y7 y8 y9 y10 y11
 obtain ⟨y0, y1, y2, y3, y4, y5, y6, y7, y8, y9, y10, y11⟩ := at12_of Hd6.out
 obtain ⟨z0, z1, z2, z3, z4, z5, z6, z7, z8⟩ := at9_of Hg6.out
 have ly6 := (Hd6.out 0 _ rfl).lt
 have lz6 := (Hg6.out 0 _ rfl).lt
 have v6 : Blk (w6.alloc (.cells #[.int .i64 s.s, .int .i64 s.c, .slice K s.l.length tt, .int .u64 s.u] 45)) w6.heap.size #[.int .i64 s.s, .int .i64 s.c, .slice K s.l.length tt, .int .u64 s.u] := blk_new rfl
 go_wp2_with fail
 (with_reducible refine (Hq7.out _ ?_).mono ?_)
 ·exact Hbb6.out.trans ((show Below w6.heap.size w6 _ from belt).mono Hbb6.out.size)
 rintro e w7 ⟨K7, t7, rfl, i7, b7⟩
 have c7 : Below w6.heap.size w6 w7 := Below.trans belt (b7.mono omh)
 have s7 := c7.size
 have bb7 := Hbb6.out.trans (c7.mono Hbb6.out.size)
 have k7 := Hk6.out.below c7
 have g7 := Hg6.out.below c7
 have r7 := Hr6.out.below c7
 have d7 := Hd6.out.below c7
 have ⟨Hb7, Hc7, Hbb7, Hk7, Hg7, Hr7, Hd7⟩ := hid7 b7 c7 bb7 k7 g7 r7 d7; clear b7 c7 bb7 k7 g7 r7 d7
 have v7 := v6.below Hb7.out
 clear v6
 have ⟨Hv7, Hi7⟩ := hid2 v7 i7; clear v7 i7
 clear y0 y1 y2 y3 y4 y5 y6 y7 y8 y9 y10 y11 z0 z1 z2 z3 z4 z5 z6 z7 z8
 obtain ⟨x0, x1, x2, x3⟩ := at4_of Hv7.out
 go_upto_region 14 with (fail)
 go_cut [96] from 85 to 96 (fun c0 wx => c0 = .bool WR ∧ w7 = wx)
 case first =>
  cases hRC : (RC != s.c) with
  | true =>
   have e := HhW.out
   rw [hRC, Bool.true_or] at e
   have He := Lib.hid e; clear e
   go_wp2_with fail
   go_meet
   case rel => exact ⟨by rw [He.out], rfl⟩
  | false =>
   have e := HhW.out
   rw [hRC, Bool.false_or] at e
   have He := Lib.hid e; clear e
   go_wp2_with fail
   go_meet
   case rel => exact ⟨by rw [← He.out], rfl⟩
 case rest =>
  obtain ⟨rfl, rfl⟩ := hcut
  clear x0 x1 x2 x3
  go_upto_if 96 with (fail)
  go_cut [20, 21] from 97 to 113 (fun _ _ wx => ∃ (A8 : Option Addr) (p8 : Nat) (B8 : Option Addr) (q8 : Nat), (Blk wx w4.heap.size #[.int .i64 ld, .int .i64 lk, .int .i64 lr, .int .i64 X8.s, .int .i64 X8.c, .slice A8 X8.l.length p8, .int .u64 X8.u, .int .i64 Y8.s, .int .i64 Y8.c, .slice B8 Y8.l.length q8, .int .u64 Y8.u, .bool true] ∧ Blk wx (w.heap.size + 1) #[.int .i64 ci, .int .i64 ck, .int .i64 cd, .int .i64 cn, .int .i64 cf, .int .i64 cu, .int .i64 cl, .int .i64 ce, .int .i64 cs] ∧ Blk wx (w.heap.size + 1 + 1) #[.int .i64 0, .int .i64 0, .int .i64 0, .int .i64 0, .int .i64 0, .slice none 0 0, .int .u64 0, .int .i64 0, .int .i64 0, .slice none 0 0, .int .u64 0, .bool false]) ∧ Below w.heap.size w wx ∧ Prov w wx A lx.l A8 X8.l ∧ Prov w wx B ly.l B8 Y8.l ∧ (OffB A8 X8.l w4.heap.size ∧ OffB B8 Y8.l w4.heap.size ∧ OffB A8 X8.l (w.heap.size + 1 + 1) ∧ OffB B8 Y8.l (w.heap.size + 1 + 1)))
  case first =>
   have szP := Hbb7.out.size
   have sz4 := Hbb4.out.size
   have lk4 := (Hd7.out 0 _ rfl).lt
   have lr7 := (Hr7.out 0 _ rfl).lt
   cases WR with
   | true =>
    have q := Hq8.out rfl
    have Hq := Lib.hid q; clear q
    obtain ⟨y0, y1, y2, y3, y4, y5, y6, y7, y8, y9, y10, y11⟩ := at12_of Hd7.out
    have ly7 := lk4
    go_wp2_with fail
    (with_reducible refine (Hq.out _ _ _ ?_ ?_).mono ?_)
    ·exact Hbb7.out.trans ((show Below w7.heap.size w7 _ from belt).mono Hbb7.out.size)
    ·exact Hi7.out.below (show Below w7.heap.size w7 _ from belt)
    rintro e w8 ⟨A8, p8, B8, q8, rfl, pa, pb, b8⟩
    have c8 : Below w7.heap.size w7 w8 := Below.trans belt (b8.mono omh)
    have s8 := c8.size
    have bb8 := Hbb7.out.trans (c8.mono Hbb7.out.size)
    have d8 := Hd7.out.below c8
    have g8 := Hg7.out.below c8
    have r8 := Hr7.out.below c8
    have ⟨Hb8, Hc8, Hbb8, Hd8, Hg8, Hr8⟩ := hid6 b8 c8 bb8 d8 g8 r8; clear b8 c8 bb8 d8 g8 r8
    clear y0 y1 y2 y3 y4 y5 y6 y7 y8 y9 y10 y11
    have hn1 := pa.set Hhx.out.ints (b := w4.heap.size) (by omega) (by first | exact lk4 | (simp; omega))
    have hn2 := pb.set Hhy.out.ints (b := w4.heap.size) (by omega) (by first | exact lk4 | (simp; omega))
    have hm1 := pa.set Hhx.out.ints (b := w.heap.size + 1 + 1) (by omega) (by first | exact lr7 | (simp; omega))
    have hm2 := pb.set Hhy.out.ints (b := w.heap.size + 1 + 1) (by omega) (by first | exact lr7 | (simp; omega))
    have lr0 := (Hr0.out 0 _ rfl).lt
    have s14 := Hc4.out.size
    have s13 := Hc3.out.size
    have s12 := Hc2.out.size
    have s11 := Hc1.out.size
    obtain ⟨w11, hw11⟩ : ∃ W, (putL w8 w4.heap.size 3 [.int .i64 X8.s, .int .i64 X8.c, .slice A8 X8.l.length p8, .int .u64 X8.u, .int .i64 Y8.s, .int .i64 Y8.c, .slice B8 Y8.l.length q8, .int .u64 Y8.u]).alloc (.cells #[.int .i64 X8.s, .int .i64 X8.c, .slice A8 X8.l.length p8, .int .u64 X8.u, .int .i64 Y8.s, .int .i64 Y8.c, .slice B8 Y8.l.length q8, .int .u64 Y8.u] 46) = W := ⟨_, rfl⟩
    have d11 : Blk w11 w4.heap.size #[.int .i64 ld, .int .i64 lk, .int .i64 lr, .int .i64 X8.s, .int .i64 X8.c, .slice A8 X8.l.length p8, .int .u64 X8.u, .int .i64 Y8.s, .int .i64 Y8.c, .slice B8 Y8.l.length q8, .int .u64 Y8.u, .bool true] := by rw [← hw11]; exact (dev_put8 Hd8.out).alloc _
    have g11 : Blk w11 (w.heap.size + 1) #[.int .i64 ci, .int .i64 ck, .int .i64 cd, .int .i64 cn, .int .i64 cf, .int .i64 cu, .int .i64 cl, .int .i64 ce, .int .i64 cs] := by rw [← hw11]; exact (putL_far Hg8.out (by omega) _ _).alloc _
    have r11 : Blk w11 (w.heap.size + 1 + 1) #[.int .i64 0, .int .i64 0, .int .i64 0, .int .i64 0, .int .i64 0, .slice none 0 0, .int .u64 0, .int .i64 0, .int .i64 0, .slice none 0 0, .int .u64 0, .bool false] := by rw [← hw11]; exact (putL_far Hr8.out (by omega) _ _).alloc _
    have bb11 : Below w.heap.size w w11 := by rw [← hw11]; exact (putL_below (by omega) _ _ _ Hbb8.out).alloc (by rw [putL_size]; exact Hbb8.out.size) _
    have px := pa.into (w := w) (by first | exact szP | (simp; omega)) (W := w11) (by rw [← hw11]; exact ints_alloc (putL_ints hn1 _ _ _ pa.1) _)
    have py := pb.into (w := w) (by first | exact szP | (simp; omega)) (W := w11) (by rw [← hw11]; exact ints_alloc (putL_ints hn2 _ _ _ pb.1) _)
    simp only [putL, Nat.reduceAdd] at hw11
    clear pa pb
    obtain ⟨fd0, fd1, fd2, fd3, fd4, fd5, fd6, fd7, fd8, fd9, fd10, fd11⟩ := free12_of Hd8.out
    obtain ⟨y0, y1, y2, y3, y4, y5, y6, y7, y8, y9, y10, y11⟩ := at12_of Hd8.out
    have ly8 := (Hd8.out 0 _ rfl).lt
    have ⟨Hd11, Hg11, Hr11, Hbb11, Hpx, Hpy, Hhn1, Hhn2⟩ := hid8 d11 g11 r11 bb11 px py hn1 hn2; clear d11 g11 r11 bb11 px py hn1 hn2; have ⟨Hhm1, Hhm2⟩ := hid2 hm1 hm2; clear hm1 hm2
    go_wp2_with fail
    have Hhw11 := Lib.hid hw11; clear hw11
    go_meet
    case rel => exact ⟨A8, p8, B8, q8, ⟨Hd11.out, Hg11.out, Hr11.out⟩, Hbb11.out, Hpx.out, Hpy.out, Hhn1.out, Hhn2.out, Hhm1.out, Hhm2.out⟩
   | false =>
    obtain ⟨rfl, rfl⟩ := HhX0.out rfl
    have px := prov_old (w := w) (Hhx.out.below Hbb7.out).ints
    have py := prov_old (w := w) (Hhy.out.below Hbb7.out).ints
    have ⟨Hpx, Hpy⟩ := hid2 px py; clear px py
    go_wp2_with fail
    go_meet
    case rel => exact ⟨A, p, B, q, ⟨Hd7.out, Hg7.out, Hr7.out⟩, Hbb7.out, Hpx.out, Hpy.out, offB_old Hhx.out.ints sz4, offB_old Hhy.out.ints sz4, offB_old Hhx.out.ints (by omega), offB_old Hhy.out.ints (by omega)⟩
  case rest =>
   obtain ⟨A8, p8, B8, q8, ⟨d10, g10, r10⟩, bb10, px0, py0, hn1, hn2, hm1, hm2⟩ := hcut
   obtain ⟨w10, hw10⟩ : ∃ W, wc = W := ⟨_, rfl⟩
   rw [hw10] at d10 g10 r10 bb10 px0 py0 ⊢
   have lk10 := (d10 0 _ rfl).lt
   have fd := (d10 11 _ rfl).free
   have lr0 := (Hr0.out 0 _ rfl).lt
   have s14 := Hc4.out.size
   have s13 := Hc3.out.size
   have s12 := Hc2.out.size
   have s11 := Hc1.out.size
   have s00 := Hbb0.out.size
   have ⟨Hhw10, Hd10, Hg10, Hr10, Hbb10, Hpx0, Hpy0, Hhn1⟩ := hid8 hw10 d10 g10 r10 bb10 px0 py0 hn1; clear hw10 d10 g10 r10 bb10 px0 py0 hn1; have ⟨Hhn2, Hhm1, Hhm2⟩ := hid3 hn2 hm1 hm2; clear hn2 hm1 hm2
   obtain ⟨y0, y1, y2, y3, y4, y5, y6, y7, y8, y9, y10, y11⟩ := at12_of Hd10.out
   have hu2 := Hhu.out
   go_upto_region 20 with (fail)
   obtain ⟨w11, hw11⟩ : ∃ W, w10.setCell ⟨w4.heap.size, 11, none⟩ (.bool u) = W := ⟨_, rfl⟩
   rw [hw11]
   have d11 : Blk w11 w4.heap.size #[.int .i64 ld, .int .i64 lk, .int .i64 lr, .int .i64 X8.s, .int .i64 X8.c, .slice A8 X8.l.length p8, .int .u64 X8.u, .int .i64 Y8.s, .int .i64 Y8.c, .slice B8 Y8.l.length q8, .int .u64 Y8.u, .bool u] := by rw [← hw11]; exact Hd10.out.set 11 _ (by simp)
   have g11 : Blk w11 (w.heap.size + 1) #[.int .i64 ci, .int .i64 ck, .int .i64 cd, .int .i64 cn, .int .i64 cf, .int .i64 cu, .int .i64 cl, .int .i64 ce, .int .i64 cs] := by rw [← hw11]; exact Hg10.out.far (by omega) _
   have r11 : Blk w11 (w.heap.size + 1 + 1) #[.int .i64 0, .int .i64 0, .int .i64 0, .int .i64 0, .int .i64 0, .slice none 0 0, .int .u64 0, .int .i64 0, .int .i64 0, .slice none 0 0, .int .u64 0, .bool false] := by rw [← hw11]; exact Hr10.out.far (by omega) _
   have bb11 : Below w.heap.size w w11 := by rw [← hw11]; exact below_set Hbb10.out (by omega) _ _
   have i11 : IntsAt w11 A8 .i64 X8.l := by rw [← hw11]; exact putL_ints Hhn1.out [.bool u] w10 11 Hpx0.out.1
   have j11 : IntsAt w11 B8 .i64 Y8.l := by rw [← hw11]; exact putL_ints Hhn2.out [.bool u] w10 11 Hpy0.out.1
   have bf : Below w.heap.size w (putL w11 (w.heap.size + 1 + 1) 0 [.int .i64 ld, .int .i64 lk, .int .i64 lr, .int .i64 X8.s, .int .i64 X8.c, .slice A8 X8.l.length p8, .int .u64 X8.u, .int .i64 Y8.s, .int .i64 Y8.c, .slice B8 Y8.l.length q8, .int .u64 Y8.u, .bool u]).drew := (putL_below (by omega) _ _ _ bb11).drew
   have px : Prov w (putL w11 (w.heap.size + 1 + 1) 0 [.int .i64 ld, .int .i64 lk, .int .i64 lr, .int .i64 X8.s, .int .i64 X8.c, .slice A8 X8.l.length p8, .int .u64 X8.u, .int .i64 Y8.s, .int .i64 Y8.c, .slice B8 Y8.l.length q8, .int .u64 Y8.u, .bool u]).drew A lx.l A8 X8.l := ⟨ints_drew (putL_ints Hhm1.out [.int .i64 ld, .int .i64 lk, .int .i64 lr, .int .i64 X8.s, .int .i64 X8.c, .slice A8 X8.l.length p8, .int .u64 X8.u, .int .i64 Y8.s, .int .i64 Y8.c, .slice B8 Y8.l.length q8, .int .u64 Y8.u, .bool u] w11 0 i11), Hpx0.out.2⟩
   have py : Prov w (putL w11 (w.heap.size + 1 + 1) 0 [.int .i64 ld, .int .i64 lk, .int .i64 lr, .int .i64 X8.s, .int .i64 X8.c, .slice A8 X8.l.length p8, .int .u64 X8.u, .int .i64 Y8.s, .int .i64 Y8.c, .slice B8 Y8.l.length q8, .int .u64 Y8.u, .bool u]).drew B ly.l B8 Y8.l := ⟨ints_drew (putL_ints Hhm2.out [.int .i64 ld, .int .i64 lk, .int .i64 lr, .int .i64 X8.s, .int .i64 X8.c, .slice A8 X8.l.length p8, .int .u64 X8.u, .int .i64 Y8.s, .int .i64 Y8.c, .slice B8 Y8.l.length q8, .int .u64 Y8.u, .bool u] w11 0 j11), Hpy0.out.2⟩
   simp only [putL, Nat.reduceAdd] at bf px py
   clear i11 j11 fd lk10 y0 y1 y2 y3 y4 y5 y6 y7 y8 y9 y10 y11
   have ⟨Hhw11, Hd11, Hg11, Hr11, Hbb11, Hbf, Hpx, Hpy⟩ := hid8 hw11 d11 g11 r11 bb11 bf px py; clear hw11 d11 g11 r11 bb11 bf px py
   obtain ⟨y0, y1, y2, y3, y4, y5, y6, y7, y8, y9, y10, y11⟩ := at12_of Hd11.out
   have z1 := (Hg11.out 1 _ rfl).at
   obtain ⟨f0, f1, f2, f3, f4, f5, f6, f7, f8, f9, f10, f11⟩ := free12_of Hr11.out
   obtain ⟨x0, x1, x2, x3, x4, x5, x6, x7, x8, x9, x10, x11⟩ := at12_of Hr11.out
   have ly9 := (Hd11.out 0 _ rfl).lt
   have lx9 := (Hr11.out 0 _ rfl).lt
   have hne9 : w4.heap.size ≠ w.heap.size + 1 + 1 := by omega
   have hne8 : w4.heap.size ≠ w.heap.size + 1 := by omega
   have ca := @cell_far (w.heap.size + 1 + 1) w4.heap.size (by omega)
   have cb := @cell_far (w.heap.size + 1 + 1) (w.heap.size + 1) (by omega)
   have hs9 : w11.cell? ⟨w4.heap.size, 0, none⟩ = some (.int .i64 ld) ∧ w11.cell? ⟨w4.heap.size, 1, none⟩ = some (.int .i64 lk) ∧ w11.cell? ⟨w4.heap.size, 2, none⟩ = some (.int .i64 lr) ∧ w11.cell? ⟨w4.heap.size, 3, none⟩ = some (.int .i64 X8.s) ∧ w11.cell? ⟨w4.heap.size, 4, none⟩ = some (.int .i64 X8.c) ∧ w11.cell? ⟨w4.heap.size, 5, none⟩ = some (.slice A8 X8.l.length p8) ∧ w11.cell? ⟨w4.heap.size, 6, none⟩ = some (.int .u64 X8.u) ∧ w11.cell? ⟨w4.heap.size, 7, none⟩ = some (.int .i64 Y8.s) ∧ w11.cell? ⟨w4.heap.size, 8, none⟩ = some (.int .i64 Y8.c) ∧ w11.cell? ⟨w4.heap.size, 9, none⟩ = some (.slice B8 Y8.l.length q8) ∧ w11.cell? ⟨w4.heap.size, 10, none⟩ = some (.int .u64 Y8.u) ∧ w11.cell? ⟨w4.heap.size, 11, none⟩ = some (.bool u) ∧ w11.cell? ⟨w.heap.size + 1, 1, none⟩ = some (.int .i64 ck) := ⟨y0, y1, y2, y3, y4, y5, y6, y7, y8, y9, y10, y11, z1⟩
   have ⟨Hca, Hcb, Hhs9⟩ := hid3 ca cb hs9; clear ca cb hs9
   cases u with
   | true =>
    refine wp_region_held_drew (S := (fun W => W.cell? ⟨w4.heap.size, 0, none⟩ = some (.int .i64 ld) ∧ W.cell? ⟨w4.heap.size, 1, none⟩ = some (.int .i64 lk) ∧ W.cell? ⟨w4.heap.size, 2, none⟩ = some (.int .i64 lr) ∧ W.cell? ⟨w4.heap.size, 3, none⟩ = some (.int .i64 X8.s) ∧ W.cell? ⟨w4.heap.size, 4, none⟩ = some (.int .i64 X8.c) ∧ W.cell? ⟨w4.heap.size, 5, none⟩ = some (.slice A8 X8.l.length p8) ∧ W.cell? ⟨w4.heap.size, 6, none⟩ = some (.int .u64 X8.u) ∧ W.cell? ⟨w4.heap.size, 7, none⟩ = some (.int .i64 Y8.s) ∧ W.cell? ⟨w4.heap.size, 8, none⟩ = some (.int .i64 Y8.c) ∧ W.cell? ⟨w4.heap.size, 9, none⟩ = some (.slice B8 Y8.l.length q8) ∧ W.cell? ⟨w4.heap.size, 10, none⟩ = some (.int .u64 Y8.u) ∧ W.cell? ⟨w4.heap.size, 11, none⟩ = some (.bool true) ∧ W.cell? ⟨w.heap.size + 1, 1, none⟩ = some (.int .i64 ck))) (by kernel_rfl) ?_ (fun hHeld => ?_)
    ·(try dsimp only); (simp only [cell_drew, Hca.out, Hcb.out]; with_reducible exact Hhs9.out)
    refine tq 0 (some 118) ?_
    (try simp only [apz])
    refine tq 1 (some 119) ?_
    (try simp only [apz])
    refine tq 2 (some 120) ?_
    (try simp only [apz])
    refine tq 3 (some 121) ?_
    (try simp only [apz])
    refine tq 4 (some 122) ?_
    (try simp only [apz])
    refine tq 5 (some 123) ?_
    (try simp only [apz])
    refine tq 6 (some 124) ?_
    (try simp only [apz])
    refine tq 7 (some 125) ?_
    (try simp only [apz])
    refine tq 8 (some 126) ?_
    (try simp only [apz])
    refine tq 9 (some 127) ?_
    (try simp only [apz])
    refine wpAnyH_ready (rs := [10]) (by kernel_rfl) (by simp) ?_
    refine AllReadyH.cons rfl (fun K hK => ?_) AllReadyH.nil
    go_simp
    refine hK.out _ _ ?_ (fun hHeld => ?_)
    ·(try dsimp only); (simp only [cell_drew, Hca.out, Hcb.out]; with_reducible exact Hhs9.out)
    clear hK K
    (try simp only [apz])
    refine tq 11 (some 9) ?_
    (try simp only [apz])
    refine tq 12 (some 10) ?_
    (try simp only [apz])
    refine wpAnyH_done (by kernel_rfl) ?_ _
    go_wp2_with fail
    refine bodyPost_ret (v := .tuple #[.agg #[.int .i64 ld, .int .i64 lk, .int .i64 lr, .int .i64 X8.s, .int .i64 X8.c, .slice A8 X8.l.length p8, .int .u64 X8.u, .int .i64 Y8.s, .int .i64 Y8.c, .slice B8 Y8.l.length q8, .int .u64 Y8.u, .bool true], .bool (ck != 3), .int .i64 0]) (by simp [results, Tryz.results87, go_sem, *]) rfl ⟨A8, p8, B8, q8, rfl, Hpx.out, Hpy.out, Hbf.out⟩
   | false =>
    refine wp_region_held_drew (S := (fun W => W.cell? ⟨w4.heap.size, 0, none⟩ = some (.int .i64 ld) ∧ W.cell? ⟨w4.heap.size, 1, none⟩ = some (.int .i64 lk) ∧ W.cell? ⟨w4.heap.size, 2, none⟩ = some (.int .i64 lr) ∧ W.cell? ⟨w4.heap.size, 3, none⟩ = some (.int .i64 X8.s) ∧ W.cell? ⟨w4.heap.size, 4, none⟩ = some (.int .i64 X8.c) ∧ W.cell? ⟨w4.heap.size, 5, none⟩ = some (.slice A8 X8.l.length p8) ∧ W.cell? ⟨w4.heap.size, 6, none⟩ = some (.int .u64 X8.u) ∧ W.cell? ⟨w4.heap.size, 7, none⟩ = some (.int .i64 Y8.s) ∧ W.cell? ⟨w4.heap.size, 8, none⟩ = some (.int .i64 Y8.c) ∧ W.cell? ⟨w4.heap.size, 9, none⟩ = some (.slice B8 Y8.l.length q8) ∧ W.cell? ⟨w4.heap.size, 10, none⟩ = some (.int .u64 Y8.u) ∧ W.cell? ⟨w4.heap.size, 11, none⟩ = some (.bool false) ∧ W.cell? ⟨w.heap.size + 1, 1, none⟩ = some (.int .i64 ck))) (by kernel_rfl) ?_ (fun hHeld => ?_)
    ·(try dsimp only); (simp only [cell_drew, Hca.out, Hcb.out]; with_reducible exact Hhs9.out)
    refine tq 0 (some 118) ?_
    (try simp only [apz])
    refine tq 1 (some 119) ?_
    (try simp only [apz])
    refine tq 2 (some 120) ?_
    (try simp only [apz])
    refine tq 3 (some 121) ?_
    (try simp only [apz])
    refine tq 4 (some 122) ?_
    (try simp only [apz])
    refine tq 5 (some 123) ?_
    (try simp only [apz])
    refine skip_at (i := 6) (some 124) rfl rfl (by kernel_rfl) (fun _ _ _ h => h) (by rfl) (by assumption) ?_
    (try simp only [apz])
    refine skip_at (i := 7) (some 125) rfl rfl (by kernel_rfl) (fun _ _ _ h => h) (by rfl) (by assumption) ?_
    (try simp only [apz])
    refine skip_at (i := 8) (some 126) rfl rfl (by kernel_rfl) (fun _ _ _ h => h) (by rfl) (by assumption) ?_
    (try simp only [apz])
    refine tq 9 (some 127) ?_
    (try simp only [apz])
    refine wpAnyH_ready (rs := [10]) (by kernel_rfl) (by simp) ?_
    refine AllReadyH.cons rfl (fun K hK => ?_) AllReadyH.nil
    go_simp
    refine hK.out _ _ ?_ (fun hHeld => ?_)
    ·(try dsimp only); (simp only [cell_drew, Hca.out, Hcb.out]; with_reducible exact Hhs9.out)
    clear hK K
    (try simp only [apz])
    refine tq 11 (some 9) ?_
    (try simp only [apz])
    refine tq 12 (some 10) ?_
    (try simp only [apz])
    refine wpAnyH_done (by kernel_rfl) ?_ _
    go_wp2_with fail
    refine bodyPost_ret (v := .tuple #[.agg #[.int .i64 ld, .int .i64 lk, .int .i64 lr, .int .i64 X8.s, .int .i64 X8.c, .slice A8 X8.l.length p8, .int .u64 X8.u, .int .i64 Y8.s, .int .i64 Y8.c, .slice B8 Y8.l.length q8, .int .u64 Y8.u, .bool false], .bool false, .int .i64 0]) (by simp [results, Tryz.results87, go_sem, *]) rfl ⟨A8, p8, B8, q8, rfl, Hpx.out, Hpy.out, Hbf.out⟩
end Go.Proofs.YtclgncaghiinhaaGreatDoor

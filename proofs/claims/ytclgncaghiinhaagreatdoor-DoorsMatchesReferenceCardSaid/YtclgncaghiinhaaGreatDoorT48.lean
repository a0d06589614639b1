/- The reference: Show where it succeeds. -/
import Derived.Test.YtclgncaghiinhaaGreatDoorT26
import Derived.Test.YtclgncaghiinhaaGreatDoorT45
import Derived.Test.YtclgncaghiinhaaGreatDoorT47
set_option linter.unusedSimpArgs false
set_option linter.unusedVariables false
set_option maxRecDepth 100000
namespace Go.Proofs.YtclgncaghiinhaaGreatDoor
open Go.RowKit
set_option maxHeartbeats 8000000 in
theorem rshow_ok (l : Lk) (c : Crd) (t a : Int) (A : Option Addr) (n p : Nat) (B : Option Addr) (m q : Nat) (w : World) (hx : SlotIs w A n l.x) (hy : SlotIs w B m l.y) (hc : CFit c) (h1 : lvB l = true) (h2 : cvB c = true) (h3 : timeB t = true) (h4 : ¬ a < 0) (h5 : ¬ 3 < a) (h6 : l.up = true) (h7 : chkB c l.k = true) (h9 : accB l c t = true) (X8 Y8 : Slt) (RC : Int) (RL : List Int) (MO WR : Bool)
  (hC1 : c.k = 1 → max (keepS l).c c.n = RC) (hC0 : c.k ≠ 1 → (keepS l).c = RC) (hM1 : c.k = 3 → (!(keepS l).l.contains c.l) = MO) (hM0 : c.k ≠ 3 → MO = false) (hM2 : MO = true → (keepS l).l.contains c.l = false)
  (hL1 : MO = true → insL (keepS l).l ((keepS l).l.countP (· < c.l)) c.l = RL) (hL0 : MO = false → (keepS l).l = RL) (hW : (MO || (RC != (keepS l).c)) = WR)
  (hX0 : WR = false → l.x = X8 ∧ l.y = Y8) (hX1 : WR = true → wrE l.x l.y RC RL a = 0 ∧ wr0 l.x l.y RC RL a = X8 ∧ wr1 l.x l.y RC RL a = Y8)
  (hbb : bestB l.x l.y = true) (hcb : -9223372036854775808 ≤ RC ∧ RC ≤ 9223372036854775807) (hfl : Fit RL) (hll : RL.length ≤ 501) :
  Calls Tryz.prog 33 #[.agg (l.cells A n p B m q).toArray, .agg c.cells.toArray, .int .i64 t, .int .i64 a] w (ShowPost A l.x.l B l.y.l { l with x := X8, y := Y8, up := decide (a = 3) } (decide (a = 3) && !decide (c.k = 3)) 0 w) := by
 have hn := hx.len
 have hm := hy.len
 subst hn hm
 obtain ⟨w0, hw0⟩ : ∃ W, ((w.alloc (.cells (l.cells A l.x.l.length p B l.y.l.length q).toArray 48)).alloc (.cells c.cells.toArray 28)).alloc (.cells #[.int .i64 0, .int .i64 0, .int .i64 0, .int .i64 0, .int .i64 0, .slice none 0 0, .int .u64 0, .int .i64 0, .int .i64 0, .slice none 0 0, .int .u64 0, .bool false] 48) = W := ⟨_, rfl⟩
 have bb0 : Below w.heap.size w w0 := by rw [← hw0]; exact (((Below.refl _ _).alloc (Nat.le_refl _) _).alloc (by simp) _).alloc (by simp; omega) _
 have k0 : Blk w0 w.heap.size (l.cells A l.x.l.length p B l.y.l.length q).toArray := by rw [← hw0]; exact ((blk_new rfl).alloc _).alloc _
 have g0 : Blk w0 (w.heap.size + 1) c.cells.toArray := by rw [← hw0]; exact (blk_new (by simp)).alloc _
 have r0 : Blk w0 (w.heap.size + 1 + 1) #[.int .i64 0, .int .i64 0, .int .i64 0, .int .i64 0, .int .i64 0, .slice none 0 0, .int .u64 0, .int .i64 0, .int .i64 0, .slice none 0 0, .int .u64 0, .bool false] := by rw [← hw0]; exact blk_new (by simp)
 have q1 := fun W => (rTime_any t W).mono belowPost
 have q2 := fun W (h : Below w.heap.size w W) => rlvalid_any l A l.x.l.length p B l.y.l.length q W (hx.below h) (hy.below h)
 have q3 := fun W => rcvalid_any c hc W
 have q4 := fun W => rccheck_any c l.k hc W
 have q5 := fun W (h : Below w.heap.size w W) => raccepts_any l c t A l.x.l.length p B l.y.l.length q W (hx.below h) (hy.below h)
 obtain ⟨K, tt, hs, q6⟩ := rlkeeps_as l A l.x.l.length p B l.y.l.length q w hx hy
 have few := hs.few
 rw [h1] at q2
 rw [h2] at q3
 rw [h3] at q1
 have d4 : decide (a < 0) = false := decide_eq_false h4
 have d5 : decide (3 < a) = false := decide_eq_false h5
 rw [h7] at q4
 rw [h9] at q5
 have so := (ok_sorted (keep_ok hbb)).1
 have hcp : (keepS l).l.countP (· < c.l) ≤ (keepS l).l.length := List.countP_le_length
 have q7 := fun W (hi : IntsAt W K .i64 (keepS l).l) => has_any K tt (keepS l).l.length (keepS l).l rfl c.l W hi few
 have q9 := fun (h : MO = true) W (hi : IntsAt W K .i64 (keepS l).l) => rput_any K tt (keepS l).l.length (keepS l).l rfl c.l W hi few ((keepS l).l.countP (· < c.l)) hcp (count_lo (keepS l).l c.l so (by have := hM2 h; simpa using this))
 have q9 : MO = true → ∀ W, IntsAt W K .i64 (keepS l).l → Calls Tryz.prog 67 #[.slice K (keepS l).l.length tt, .int .i64 c.l] W (NewList RL W) := fun h W hi => by have := q9 h W hi; rw [hL1 h] at this; exact this
 unfold NewList at q9
 have q8 : WR = true → ∀ W D r, Below w.heap.size w W → IntsAt W D .i64 RL → Calls Tryz.prog 68 #[.agg #[.int .i64 l.x.s, .int .i64 l.x.c, .slice A l.x.l.length p, .int .u64 l.x.u, .int .i64 l.y.s, .int .i64 l.y.c, .slice B l.y.l.length q, .int .u64 l.y.u], .int .i64 RC, .slice D RL.length r, .int .i64 a] W (SlotsErr2 A l.x.l B l.y.l X8 Y8 0 W) := fun h W D r hb hi => by
  obtain ⟨e, e0, e1⟩ := hX1 h
  have := rwrite2_ok l.x l.y RC a A l.x.l.length p B l.y.l.length q D RL.length r RL rfl W (hx.below hb) (hy.below hb) hcb hi hfl e
  rw [e0, e1] at this
  exact this
 unfold SlotsErr2 at q8
 clear hX1 hcb hfl hll so hcp hM2 hL1
 generalize lvB l = V at *
 generalize cvB c = V2 at *
 generalize timeB t = V3 at *
 generalize chkB c l.k = V4 at *
 generalize chkE c l.k = V5 at *
 generalize accB l c t = V6 at *
 generalize keepS l = s at *
 unfold Lk.cells at k0 hw0 q2 q5 q6 ⊢
 unfold Crd.cells at g0 hw0 q3 q4 q5 ⊢
 obtain ⟨ci, ck, cd, cn, cf, cu, cl, ce, cs⟩ := c
 obtain ⟨ld, lk, lr, lx, ly, lu⟩ := l
 dsimp only at *
 obtain ⟨u, hu⟩ : ∃ u, (a == 3) = u := ⟨_, rfl⟩
 have eu : decide (a = 3) = u := hu
 have ek : decide (ck = 3) = (ck == 3) := rfl
 rw [eu, ek]
 clear eu ek
 subst h6
 have ⟨Hbb0, Hk0, Hg0, Hr0, Hhw0, Hq1, Hq2, Hq3⟩ := hid8 bb0 k0 g0 r0 hw0 q1 q2 q3; clear bb0 k0 g0 r0 hw0 q1 q2 q3; have ⟨Hq4, Hq5, Hq6, Hq7, Hq8, Hq9, Hhx, Hhy⟩ := hid8 q4 q5 q6 q7 q8 q9 hx hy; clear q4 q5 q6 q7 q8 q9 hx hy; have ⟨Hhc, Hhs, Hfew, HhC1, HhC0, HhM1, HhM0, HhL0⟩ := hid8 hc hs few hC1 hC0 hM1 hM0 hL0; clear hc hs few hC1 hC0 hM1 hM0 hL0; have ⟨HhW, HhX0, Hhbb, Hhu⟩ := hid4 hW hX0 hbb hu; clear hW hX0 hbb hu
 go_enter Tryz.func33, Tryz.ntmps33
 go_wp2_with fail
 rw [Hhw0.out]
 obtain ⟨y0, y1, y2, y3, y4, y5, y6, y7, y8, y9, y10, y11⟩ := at12_of Hk0.out
 go_wp2_with fail
 (with_reducible refine (Hq2.out _ ?_).mono ?_)
 ·exact Hbb0.out.trans ((show Below w0.heap.size w0 _ from belt).mono Hbb0.out.size)
 rintro e w1 ⟨rfl, b1⟩
 have c1 : Below w0.heap.size w0 w1 := Below.trans belt (b1.mono omh)
 have s1 := c1.size
 have bb1 := Hbb0.out.trans (c1.mono Hbb0.out.size)
 have k1 := Hk0.out.below c1
 have g1 := Hg0.out.below c1
 have r1 := Hr0.out.below c1
 have ⟨Hb1, Hc1, Hbb1, Hk1, Hg1, Hr1⟩ := hid6 b1 c1 bb1 k1 g1 r1; clear b1 c1 bb1 k1 g1 r1
 clear y0 y1 y2 y3 y4 y5 y6 y7 y8 y9 y10 y11
 obtain ⟨z0, z1, z2, z3, z4, z5, z6, z7, z8⟩ := at9_of Hg1.out
 go_wp2_with fail
 (with_reducible refine (Hq3.out _).mono ?_)
 rintro e w2 ⟨rfl, b2⟩
 have c2 : Below w1.heap.size w1 w2 := Below.trans belt (b2.mono omh)
 have s2 := c2.size
 have bb2 := Hbb1.out.trans (c2.mono Hbb1.out.size)
 have k2 := Hk1.out.below c2
 have g2 := Hg1.out.below c2
 have r2 := Hr1.out.below c2
 have ⟨Hb2, Hc2, Hbb2, Hk2, Hg2, Hr2⟩ := hid6 b2 c2 bb2 k2 g2 r2; clear b2 c2 bb2 k2 g2 r2
 clear z0 z1 z2 z3 z4 z5 z6 z7 z8
 go_wp2_with fail
 (with_reducible refine (Hq1.out _).mono ?_)
 rintro e w3 ⟨rfl, b3⟩
 have c3 : Below w2.heap.size w2 w3 := Below.trans belt (b3.mono omh)
 have s3 := c3.size
 have bb3 := Hbb2.out.trans (c3.mono Hbb2.out.size)
 have k3 := Hk2.out.below c3
 have g3 := Hg2.out.below c3
 have r3 := Hr2.out.below c3
 have ⟨Hb3, Hc3, Hbb3, Hk3, Hg3, Hr3⟩ := hid6 b3 c3 bb3 k3 g3 r3; clear b3 c3 bb3 k3 g3 r3
 obtain ⟨y0, y1, y2, y3, y4, y5, y6, y7, y8, y9, y10, y11⟩ := at12_of Hk3.out
 obtain ⟨z0, z1, z2, z3, z4, z5, z6, z7, z8⟩ := at9_of Hg3.out
 go_wp2_with fail
 (with_reducible refine (Hq4.out _).mono ?_)
 rintro e w4 ⟨rfl, b4⟩
 have c4 : Below w3.heap.size w3 w4 := Below.trans belt (b4.mono omh)
 have s4 := c4.size
 have bb4 := Hbb3.out.trans (c4.mono Hbb3.out.size)
 have k4 := Hk3.out.below c4
 have g4 := Hg3.out.below c4
 have r4 := Hr3.out.below c4
 have ⟨Hb4, Hc4, Hbb4, Hk4, Hg4, Hr4⟩ := hid6 b4 c4 bb4 k4 g4 r4; clear b4 c4 bb4 k4 g4 r4
 clear y0 y1 y2 y3 y4 y5 y6 y7 y8 y9 y10 y11 z0 z1 z2 z3 z4 z5 z6 z7 z8
 obtain ⟨y0, y1, y2, y3, y4, y5, y6, y7, y8, y9, y10, y11⟩ := at12_of Hk4.out
 obtain ⟨z0, z1, z2, z3, z4, z5, z6, z7, z8⟩ := at9_of Hg4.out
 go_wp2_with fail
 (with_reducible refine (Hq5.out _ ?_).mono ?_)
 ·exact Hbb4.out.trans ((show Below w4.heap.size w4 _ from belt).mono Hbb4.out.size)
 rintro e w5 ⟨rfl, b5⟩
 have c5 : Below w4.heap.size w4 w5 := Below.trans belt (b5.mono omh)
 have s5 := c5.size
 have bb5 := Hbb4.out.trans (c5.mono Hbb4.out.size)
 have k5 := Hk4.out.below c5
 have g5 := Hg4.out.below c5
 have r5 := Hr4.out.below c5
 have ⟨Hb5, Hc5, Hbb5, Hk5, Hg5, Hr5⟩ := hid6 b5 c5 bb5 k5 g5 r5; clear b5 c5 bb5 k5 g5 r5
 clear y0 y1 y2 y3 y4 y5 y6 y7 y8 y9 y10 y11 z0 z1 z2 z3 z4 z5 z6 z7 z8
 obtain ⟨y0, y1, y2, y3, y4, y5, y6, y7, y8, y9, y10, y11⟩ := at12_of Hk5.out
 go_wp2_with fail
 (with_reducible refine (Hq6.out _ ?_).mono ?_)
 ·exact Hbb5.out.trans ((show Below w5.heap.size w5 _ from belt).mono Hbb5.out.size)
 rintro e w6 ⟨rfl, b6⟩
 have c6 : Below w5.heap.size w5 w6 := Below.trans belt (b6.mono omh)
 have s6 := c6.size
 have bb6 := Hbb5.out.trans (c6.mono Hbb5.out.size)
 have k6 := Hk5.out.below c6
 have g6 := Hg5.out.below c6
 have r6 := Hr5.out.below c6
 have ⟨Hb6, Hc6, Hbb6, Hk6, Hg6, Hr6⟩ := hid6 b6 c6 bb6 k6 g6 r6; clear b6 c6 bb6 k6 g6 r6
 clear y0 y1 y2 y3 y4 y5 y6 y7 y8 y9 y10 y11
 go_upto_region 16 with (fail)
 obtain ⟨w7, hw7⟩ : ∃ W, w6.alloc (.cells #[.int .i64 s.s, .int .i64 s.c, .slice K s.l.length tt, .int .u64 s.u] 45) = W := ⟨_, rfl⟩
 rw [hw7]
 have c7 : Below w6.heap.size w6 w7 := by rw [← hw7]; exact (Below.refl _ _).alloc (Nat.le_refl _) _
 have v7 : Blk w7 w6.heap.size #[.int .i64 s.s, .int .i64 s.c, .slice K s.l.length tt, .int .u64 s.u] := by rw [← hw7]; exact blk_new rfl
 have bb7 := Hbb6.out.trans (c7.mono Hbb6.out.size)
 have k7 := Hk6.out.below c7
 have g7 := Hg6.out.below c7
 have r7 := Hr6.out.below c7
 have e7 := (Hhs.out.below bb7).ints
 have ⟨Hhw7, Hc7, Hv7, Hbb7, Hk7, Hg7, Hr7, He7⟩ := hid8 hw7 c7 v7 bb7 k7 g7 r7 e7; clear hw7 c7 v7 bb7 k7 g7 r7 e7
 obtain ⟨z0, z1, z2, z3, z4, z5, z6, z7, z8⟩ := at9_of Hg7.out
 go_upto_if 75 with (fail)
 go_cut [17] from 75 to 79 (fun c17 wx => c17 = .int .i64 RC ∧ w7 = wx)
 case first =>
  by_cases hk : ck = 1
  ·have i1 : (ck == 1) = true := by simp [hk]
   have e := HhC1.out hk
   have ⟨He, Hhk⟩ := hid2 e hk; clear e hk
   go_wp2_with fail
   go_meet
   case rel => exact ⟨by rw [← He.out], rfl⟩
  ·have i1 : (ck == 1) = false := by simp [hk]
   have e := HhC0.out hk
   have ⟨He, Hhk⟩ := hid2 e hk; clear e hk
   go_wp2_with fail
   go_meet
   case rel => exact ⟨by rw [← He.out], rfl⟩
 case rest =>
  obtain ⟨rfl, rfl⟩ := hcut
  go_upto_region 18 with (fail)
  go_cut [19] from 80 to 89 (fun c19 wx => c19 = .bool MO ∧ Below w7.heap.size w7 wx)
  case first =>
   by_cases hk : ck = 3
   ·have i1 : (ck == 3) = true := by simp [hk]
    have e := HhM1.out hk
    have ⟨He, Hhk⟩ := hid2 e hk; clear e hk
    go_wp2_with fail
    (with_reducible refine (Hq7.out _ ?_).mono ?_)
    ·exact He7.out.below (show Below w7.heap.size w7 _ from belt)
    rintro e w8 ⟨rfl, b8⟩
    have c8 : Below w7.heap.size w7 w8 := Below.trans belt (b8.mono omh)
    have s8 := c8.size
    have bb8 := Hbb7.out.trans (c8.mono Hbb7.out.size)
    have ⟨Hb8, Hc8, Hbb8⟩ := hid3 b8 c8 bb8; clear b8 c8 bb8
    go_wp2_with fail
    go_meet
    case rel => exact ⟨by rw [← He.out]; simp, Hc8.out⟩
   ·have i1 : (ck == 3) = false := by simp [hk]
    have e := HhM0.out hk
    have ⟨He, Hhk⟩ := hid2 e hk; clear e hk
    go_wp2_with fail
    go_meet
    case rel => exact ⟨by rw [He.out], Below.refl _ _⟩
  case rest =>
   obtain ⟨rfl, c8⟩ := hcut
   obtain ⟨w8, hw8⟩ : ∃ W, wc = W := ⟨_, rfl⟩
   rw [hw8] at c8 ⊢
   have bb8 := Hbb7.out.trans (c8.mono Hbb7.out.size)
   have k8 := Hk7.out.below c8
   have g8 := Hg7.out.below c8
   have r8 := Hr7.out.below c8
   have v8 := Hv7.out.below c8
   have e8 := He7.out.below c8
   clear z0 z1 z2 z3 z4 z5 z6 z7 z8
   have ⟨Hhw8, Hc8, Hbb8, Hk8, Hg8, Hr8, Hv8, He8⟩ := hid8 hw8 c8 bb8 k8 g8 r8 v8 e8; clear hw8 c8 bb8 k8 g8 r8 v8 e8
   obtain ⟨z0, z1, z2, z3, z4, z5, z6, z7, z8⟩ := at9_of Hg8.out
   go_upto_if 90 with (fail)
   go_cut [18] from 90 to 94 (fun c18 wx => ∃ (K9 : Option Addr) (t9 : Nat), c18 = .slice K9 RL.length t9 ∧ IntsAt wx K9 .i64 RL ∧ Below w8.heap.size w8 wx)
   case first =>
    cases MO with
    | true =>
     have q := Hq9.out rfl
     have Hq := Lib.hid q; clear q
     go_wp2_with fail
     (with_reducible refine (Hq.out _ ?_).mono ?_)
     ·exact He8.out.below (show Below w8.heap.size w8 _ from belt)
     rintro e w9 ⟨K9, t9, rfl, o9, b9⟩
     have c9 : Below w8.heap.size w8 w9 := Below.trans belt (b9.mono omh)
     have s9 := c9.size
     have bb9 := Hbb8.out.trans (c9.mono Hbb8.out.size)
     have ⟨Hb9, Hc9, Hbb9⟩ := hid3 b9 c9 bb9; clear b9 c9 bb9
     have i9 := o9.ints
     clear o9
     have Hi9 := Lib.hid i9; clear i9
     go_wp2_with fail
     go_meet
     case rel => exact ⟨K9, t9, rfl, Hi9.out, Hc9.out⟩
    | false =>
     have e := HhL0.out rfl
     have i9 := He8.out
     rw [e] at i9
     have ⟨He, Hi9⟩ := hid2 e i9; clear e i9
     go_wp2_with fail
     go_meet
     case rel => exact ⟨K, tt, by rw [He.out], Hi9.out, Below.refl _ _⟩
   case rest =>
    obtain ⟨K9, t9, rfl, i9, c9⟩ := hcut
    obtain ⟨w9, hw9⟩ : ∃ W, wc = W := ⟨_, rfl⟩
    rw [hw9] at i9 c9 ⊢
    have bb9 := Hbb8.out.trans (c9.mono Hbb8.out.size)
    have k9 := Hk8.out.below c9
    have g9 := Hg8.out.below c9
    have r9 := Hr8.out.below c9
    have v9 := Hv8.out.below c9
    clear z0 z1 z2 z3 z4 z5 z6 z7 z8
    have ⟨Hhw9, Hi9, Hc9, Hbb9, Hk9, Hg9, Hr9, Hv9⟩ := hid8 hw9 i9 c9 bb9 k9 g9 r9 v9; clear hw9 i9 c9 bb9 k9 g9 r9 v9
    obtain ⟨x0, x1, x2, x3⟩ := at4_of Hv9.out
    go_upto_region 21 with (fail)
    go_cut [101] from 95 to 101 (fun c0 wx => c0 = .bool WR ∧ w9 = wx)
    case first =>
     cases MO with
     | true =>
      have e := HhW.out
      rw [Bool.true_or] at e
      have He := Lib.hid e; clear e
      go_wp2_with fail
      go_meet
      case rel => exact ⟨by rw [He.out], rfl⟩
     | false =>
      have e := HhW.out
      rw [Bool.false_or] at e
      have He := Lib.hid e; clear e
      go_wp2_with fail
      go_meet
      case rel => exact ⟨by rw [← He.out], rfl⟩
    case rest =>
     obtain ⟨rfl, rfl⟩ := hcut
     clear x0 x1 x2 x3
     go_upto_if 101 with (fail)
     go_cut [20, 21] from 102 to 116 (fun _ _ wx => ∃ (A8 : Option Addr) (p8 : Nat) (B8 : Option Addr) (q8 : Nat), (Blk wx w.heap.size #[.int .i64 ld, .int .i64 lk, .int .i64 lr, .int .i64 X8.s, .int .i64 X8.c, .slice A8 X8.l.length p8, .int .u64 X8.u, .int .i64 Y8.s, .int .i64 Y8.c, .slice B8 Y8.l.length q8, .int .u64 Y8.u, .bool true] ∧ Blk wx (w.heap.size + 1) #[.int .i64 ci, .int .i64 ck, .int .i64 cd, .int .i64 cn, .int .i64 cf, .int .i64 cu, .int .i64 cl, .int .i64 ce, .int .i64 cs] ∧ Blk wx (w.heap.size + 1 + 1) #[.int .i64 0, .int .i64 0, .int .i64 0, .int .i64 0, .int .i64 0, .slice none 0 0, .int .u64 0, .int .i64 0, .int .i64 0, .slice none 0 0, .int .u64 0, .bool false]) ∧ Below w.heap.size w wx ∧ Prov w wx A lx.l A8 X8.l ∧ Prov w wx B ly.l B8 Y8.l ∧ (OffB A8 X8.l w.heap.size ∧ OffB B8 Y8.l w.heap.size ∧ OffB A8 X8.l (w.heap.size + 1 + 1) ∧ OffB B8 Y8.l (w.heap.size + 1 + 1)))
     case first =>
      have szP := Hbb9.out.size
      have lk4 := (Hk9.out 0 _ rfl).lt
      have lr7 := (Hr9.out 0 _ rfl).lt
      cases WR with
      | true =>
       have q := Hq8.out rfl
       have Hq := Lib.hid q; clear q
       obtain ⟨y0, y1, y2, y3, y4, y5, y6, y7, y8, y9, y10, y11⟩ := at12_of Hk9.out
       have ly7 := lk4
       go_wp2_with fail
       (with_reducible refine (Hq.out _ _ _ ?_ ?_).mono ?_)
       ·exact Hbb9.out.trans ((show Below w9.heap.size w9 _ from belt).mono Hbb9.out.size)
       ·exact Hi9.out.below (show Below w9.heap.size w9 _ from belt)
       rintro e w10 ⟨A8, p8, B8, q8, rfl, pa, pb, b10⟩
       have c10 : Below w9.heap.size w9 w10 := Below.trans belt (b10.mono omh)
       have s10 := c10.size
       have bb10 := Hbb9.out.trans (c10.mono Hbb9.out.size)
       have k10 := Hk9.out.below c10
       have g10 := Hg9.out.below c10
       have r10 := Hr9.out.below c10
       have ⟨Hb10, Hc10, Hbb10, Hk10, Hg10, Hr10⟩ := hid6 b10 c10 bb10 k10 g10 r10; clear b10 c10 bb10 k10 g10 r10
       clear y0 y1 y2 y3 y4 y5 y6 y7 y8 y9 y10 y11
       have hn1 := pa.set Hhx.out.ints (b := w.heap.size) (by omega) (by first | exact lk4 | (simp; omega))
       have hn2 := pb.set Hhy.out.ints (b := w.heap.size) (by omega) (by first | exact lk4 | (simp; omega))
       have hm1 := pa.set Hhx.out.ints (b := w.heap.size + 1 + 1) (by omega) (by first | exact lr7 | (simp; omega))
       have hm2 := pb.set Hhy.out.ints (b := w.heap.size + 1 + 1) (by omega) (by first | exact lr7 | (simp; omega))
       obtain ⟨w11, hw11⟩ : ∃ W, (putL w10 w.heap.size 3 [.int .i64 X8.s, .int .i64 X8.c, .slice A8 X8.l.length p8, .int .u64 X8.u, .int .i64 Y8.s, .int .i64 Y8.c, .slice B8 Y8.l.length q8, .int .u64 Y8.u]).alloc (.cells #[.int .i64 X8.s, .int .i64 X8.c, .slice A8 X8.l.length p8, .int .u64 X8.u, .int .i64 Y8.s, .int .i64 Y8.c, .slice B8 Y8.l.length q8, .int .u64 Y8.u] 46) = W := ⟨_, rfl⟩
       have d11 : Blk w11 w.heap.size #[.int .i64 ld, .int .i64 lk, .int .i64 lr, .int .i64 X8.s, .int .i64 X8.c, .slice A8 X8.l.length p8, .int .u64 X8.u, .int .i64 Y8.s, .int .i64 Y8.c, .slice B8 Y8.l.length q8, .int .u64 Y8.u, .bool true] := by rw [← hw11]; exact (dev_put8 Hk10.out).alloc _
       have g11 : Blk w11 (w.heap.size + 1) #[.int .i64 ci, .int .i64 ck, .int .i64 cd, .int .i64 cn, .int .i64 cf, .int .i64 cu, .int .i64 cl, .int .i64 ce, .int .i64 cs] := by rw [← hw11]; exact (putL_far Hg10.out (by omega) _ _).alloc _
       have r11 : Blk w11 (w.heap.size + 1 + 1) #[.int .i64 0, .int .i64 0, .int .i64 0, .int .i64 0, .int .i64 0, .slice none 0 0, .int .u64 0, .int .i64 0, .int .i64 0, .slice none 0 0, .int .u64 0, .bool false] := by rw [← hw11]; exact (putL_far Hr10.out (by omega) _ _).alloc _
       have bb11 : Below w.heap.size w w11 := by rw [← hw11]; exact (putL_below (Nat.le_refl _) _ _ _ Hbb10.out).alloc (by rw [putL_size]; exact Hbb10.out.size) _
       have px := pa.into (w := w) (by first | exact szP | (simp; omega)) (W := w11) (by rw [← hw11]; exact ints_alloc (putL_ints hn1 _ _ _ pa.1) _)
       have py := pb.into (w := w) (by first | exact szP | (simp; omega)) (W := w11) (by rw [← hw11]; exact ints_alloc (putL_ints hn2 _ _ _ pb.1) _)
       simp only [putL, Nat.reduceAdd] at hw11
       clear pa pb
       obtain ⟨fd0, fd1, fd2, fd3, fd4, fd5, fd6, fd7, fd8, fd9, fd10, fd11⟩ := free12_of Hk10.out
       obtain ⟨y0, y1, y2, y3, y4, y5, y6, y7, y8, y9, y10, y11⟩ := at12_of Hk10.out
       have ly8 := (Hk10.out 0 _ rfl).lt
       have ⟨Hd11, Hg11, Hr11, Hbb11, Hpx, Hpy, Hhn1, Hhn2⟩ := hid8 d11 g11 r11 bb11 px py hn1 hn2; clear d11 g11 r11 bb11 px py hn1 hn2; have ⟨Hhm1, Hhm2⟩ := hid2 hm1 hm2; clear hm1 hm2
       go_wp2_with fail
       have Hhw11 := Lib.hid hw11; clear hw11
       go_meet
       case rel => exact ⟨A8, p8, B8, q8, ⟨Hd11.out, Hg11.out, Hr11.out⟩, Hbb11.out, Hpx.out, Hpy.out, Hhn1.out, Hhn2.out, Hhm1.out, Hhm2.out⟩
      | false =>
       obtain ⟨rfl, rfl⟩ := HhX0.out rfl
       have px := prov_old (w := w) (Hhx.out.below Hbb9.out).ints
       have py := prov_old (w := w) (Hhy.out.below Hbb9.out).ints
       have ⟨Hpx, Hpy⟩ := hid2 px py; clear px py
       go_wp2_with fail
       go_meet
       case rel => exact ⟨A, p, B, q, ⟨Hk9.out, Hg9.out, Hr9.out⟩, Hbb9.out, Hpx.out, Hpy.out, offB_old Hhx.out.ints (Nat.le_refl _), offB_old Hhy.out.ints (Nat.le_refl _), offB_old Hhx.out.ints (by omega), offB_old Hhy.out.ints (by omega)⟩
     case rest =>
      obtain ⟨A8, p8, B8, q8, ⟨d10, g10, r10⟩, bb10, px0, py0, hn1, hn2, hm1, hm2⟩ := hcut
      obtain ⟨w10, hw10⟩ : ∃ W, wc = W := ⟨_, rfl⟩
      rw [hw10] at d10 g10 r10 bb10 px0 py0 ⊢
      have lk10 := (d10 0 _ rfl).lt
      have fd := (d10 11 _ rfl).free
      have ⟨Hhw10, Hd10, Hg10, Hr10, Hbb10, Hpx0, Hpy0, Hhn1⟩ := hid8 hw10 d10 g10 r10 bb10 px0 py0 hn1; clear hw10 d10 g10 r10 bb10 px0 py0 hn1; have ⟨Hhn2, Hhm1, Hhm2⟩ := hid3 hn2 hm1 hm2; clear hn2 hm1 hm2
      obtain ⟨y0, y1, y2, y3, y4, y5, y6, y7, y8, y9, y10, y11⟩ := at12_of Hd10.out
      have hu2 := Hhu.out
      go_upto_region 27 with (fail)
      obtain ⟨w11, hw11⟩ : ∃ W, w10.setCell ⟨w.heap.size, 11, none⟩ (.bool u) = W := ⟨_, rfl⟩
      rw [hw11]
      have d11 : Blk w11 w.heap.size #[.int .i64 ld, .int .i64 lk, .int .i64 lr, .int .i64 X8.s, .int .i64 X8.c, .slice A8 X8.l.length p8, .int .u64 X8.u, .int .i64 Y8.s, .int .i64 Y8.c, .slice B8 Y8.l.length q8, .int .u64 Y8.u, .bool u] := by rw [← hw11]; exact Hd10.out.set 11 _ (by simp)
      have g11 : Blk w11 (w.heap.size + 1) #[.int .i64 ci, .int .i64 ck, .int .i64 cd, .int .i64 cn, .int .i64 cf, .int .i64 cu, .int .i64 cl, .int .i64 ce, .int .i64 cs] := by rw [← hw11]; exact Hg10.out.far (by omega) _
      have r11 : Blk w11 (w.heap.size + 1 + 1) #[.int .i64 0, .int .i64 0, .int .i64 0, .int .i64 0, .int .i64 0, .slice none 0 0, .int .u64 0, .int .i64 0, .int .i64 0, .slice none 0 0, .int .u64 0, .bool false] := by rw [← hw11]; exact Hr10.out.far (by omega) _
      have bb11 : Below w.heap.size w w11 := by rw [← hw11]; exact below_set Hbb10.out (Nat.le_refl _) _ _
      have i11 : IntsAt w11 A8 .i64 X8.l := by rw [← hw11]; exact putL_ints Hhn1.out [.bool u] w10 11 Hpx0.out.1
      have j11 : IntsAt w11 B8 .i64 Y8.l := by rw [← hw11]; exact putL_ints Hhn2.out [.bool u] w10 11 Hpy0.out.1
      have bf : Below w.heap.size w (putL w11 (w.heap.size + 1 + 1) 0 [.int .i64 ld, .int .i64 lk, .int .i64 lr, .int .i64 X8.s, .int .i64 X8.c, .slice A8 X8.l.length p8, .int .u64 X8.u, .int .i64 Y8.s, .int .i64 Y8.c, .slice B8 Y8.l.length q8, .int .u64 Y8.u, .bool u]).drew := (putL_below (by omega) _ _ _ bb11).drew
      have px : Prov w (putL w11 (w.heap.size + 1 + 1) 0 [.int .i64 ld, .int .i64 lk, .int .i64 lr, .int .i64 X8.s, .int .i64 X8.c, .slice A8 X8.l.length p8, .int .u64 X8.u, .int .i64 Y8.s, .int .i64 Y8.c, .slice B8 Y8.l.length q8, .int .u64 Y8.u, .bool u]).drew A lx.l A8 X8.l := ⟨ints_drew (putL_ints Hhm1.out [.int .i64 ld, .int .i64 lk, .int .i64 lr, .int .i64 X8.s, .int .i64 X8.c, .slice A8 X8.l.length p8, .int .u64 X8.u, .int .i64 Y8.s, .int .i64 Y8.c, .slice B8 Y8.l.length q8, .int .u64 Y8.u, .bool u] w11 0 i11), Hpx0.out.2⟩
      have py : Prov w (putL w11 (w.heap.size + 1 + 1) 0 [.int .i64 ld, .int .i64 lk, .int .i64 lr, .int .i64 X8.s, .int .i64 X8.c, .slice A8 X8.l.length p8, .int .u64 X8.u, .int .i64 Y8.s, .int .i64 Y8.c, .slice B8 Y8.l.length q8, .int .u64 Y8.u, .bool u]).drew B ly.l B8 Y8.l := ⟨ints_drew (putL_ints Hhm2.out [.int .i64 ld, .int .i64 lk, .int .i64 lr, .int .i64 X8.s, .int .i64 X8.c, .slice A8 X8.l.length p8, .int .u64 X8.u, .int .i64 Y8.s, .int .i64 Y8.c, .slice B8 Y8.l.length q8, .int .u64 Y8.u, .bool u] w11 0 j11), Hpy0.out.2⟩
      simp only [putL, Nat.reduceAdd] at bf px py
      clear i11 j11 fd lk10 y0 y1 y2 y3 y4 y5 y6 y7 y8 y9 y10 y11
      have ⟨Hhw11, Hd11, Hg11, Hr11, Hbb11, Hbf, Hpx, Hpy⟩ := hid8 hw11 d11 g11 r11 bb11 bf px py; clear hw11 d11 g11 r11 bb11 bf px py
      obtain ⟨y0, y1, y2, y3, y4, y5, y6, y7, y8, y9, y10, y11⟩ := at12_of Hd11.out
      have z1 := (Hg11.out 1 _ rfl).at
      obtain ⟨f0, f1, f2, f3, f4, f5, f6, f7, f8, f9, f10, f11⟩ := free12_of Hr11.out
      obtain ⟨x0, x1, x2, x3, x4, x5, x6, x7, x8, x9, x10, x11⟩ := at12_of Hr11.out
      have ly9 := (Hd11.out 0 _ rfl).lt
      have lx9 := (Hr11.out 0 _ rfl).lt
      have hne9 : w.heap.size ≠ w.heap.size + 1 + 1 := by omega
      have hne8 : w.heap.size ≠ w.heap.size + 1 := by omega
      have ca := @cell_far (w.heap.size + 1 + 1) w.heap.size (by omega)
      have cb := @cell_far (w.heap.size + 1 + 1) (w.heap.size + 1) (by omega)
      have hs9 : w11.cell? ⟨w.heap.size, 0, none⟩ = some (.int .i64 ld) ∧ w11.cell? ⟨w.heap.size, 1, none⟩ = some (.int .i64 lk) ∧ w11.cell? ⟨w.heap.size, 2, none⟩ = some (.int .i64 lr) ∧ w11.cell? ⟨w.heap.size, 3, none⟩ = some (.int .i64 X8.s) ∧ w11.cell? ⟨w.heap.size, 4, none⟩ = some (.int .i64 X8.c) ∧ w11.cell? ⟨w.heap.size, 5, none⟩ = some (.slice A8 X8.l.length p8) ∧ w11.cell? ⟨w.heap.size, 6, none⟩ = some (.int .u64 X8.u) ∧ w11.cell? ⟨w.heap.size, 7, none⟩ = some (.int .i64 Y8.s) ∧ w11.cell? ⟨w.heap.size, 8, none⟩ = some (.int .i64 Y8.c) ∧ w11.cell? ⟨w.heap.size, 9, none⟩ = some (.slice B8 Y8.l.length q8) ∧ w11.cell? ⟨w.heap.size, 10, none⟩ = some (.int .u64 Y8.u) ∧ w11.cell? ⟨w.heap.size, 11, none⟩ = some (.bool u) ∧ w11.cell? ⟨w.heap.size + 1, 1, none⟩ = some (.int .i64 ck) := ⟨y0, y1, y2, y3, y4, y5, y6, y7, y8, y9, y10, y11, z1⟩
      have ⟨Hca, Hcb, Hhs9⟩ := hid3 ca cb hs9; clear ca cb hs9
      cases u with
      | true =>
       refine wp_region_held_drew (S := (fun W => W.cell? ⟨w.heap.size, 0, none⟩ = some (.int .i64 ld) ∧ W.cell? ⟨w.heap.size, 1, none⟩ = some (.int .i64 lk) ∧ W.cell? ⟨w.heap.size, 2, none⟩ = some (.int .i64 lr) ∧ W.cell? ⟨w.heap.size, 3, none⟩ = some (.int .i64 X8.s) ∧ W.cell? ⟨w.heap.size, 4, none⟩ = some (.int .i64 X8.c) ∧ W.cell? ⟨w.heap.size, 5, none⟩ = some (.slice A8 X8.l.length p8) ∧ W.cell? ⟨w.heap.size, 6, none⟩ = some (.int .u64 X8.u) ∧ W.cell? ⟨w.heap.size, 7, none⟩ = some (.int .i64 Y8.s) ∧ W.cell? ⟨w.heap.size, 8, none⟩ = some (.int .i64 Y8.c) ∧ W.cell? ⟨w.heap.size, 9, none⟩ = some (.slice B8 Y8.l.length q8) ∧ W.cell? ⟨w.heap.size, 10, none⟩ = some (.int .u64 Y8.u) ∧ W.cell? ⟨w.heap.size, 11, none⟩ = some (.bool true) ∧ W.cell? ⟨w.heap.size + 1, 1, none⟩ = some (.int .i64 ck))) (by kernel_rfl) ?_ (fun hHeld => ?_)
       ·(try dsimp only); (simp only [cell_drew, Hca.out, Hcb.out]; with_reducible exact Hhs9.out)
       refine tq 0 (some 120) ?_
       (try simp only [apz])
       refine tq 1 (some 121) ?_
       (try simp only [apz])
       refine tq 2 (some 122) ?_
       (try simp only [apz])
       refine tq 3 (some 123) ?_
       (try simp only [apz])
       refine tq 4 (some 124) ?_
       (try simp only [apz])
       refine tq 5 (some 125) ?_
       (try simp only [apz])
       refine tq 6 (some 126) ?_
       (try simp only [apz])
       refine tq 7 (some 127) ?_
       (try simp only [apz])
       refine wpAnyH_ready (rs := [8]) (by kernel_rfl) (by simp) ?_
       refine AllReadyH.cons rfl (fun K hK => ?_) AllReadyH.nil
       go_simp
       refine hK.out _ _ ?_ (fun hHeld => ?_)
       ·(try dsimp only); (simp only [cell_drew, Hca.out, Hcb.out]; with_reducible exact Hhs9.out)
       clear hK K
       (try simp only [apz])
       refine tq 9 (some 9) ?_
       (try simp only [apz])
       refine tq 10 (some 10) ?_
       (try simp only [apz])
       refine wpAnyH_done (by kernel_rfl) ?_ _
       go_wp2_with fail
       refine bodyPost_ret (v := .tuple #[.agg #[.int .i64 ld, .int .i64 lk, .int .i64 lr, .int .i64 X8.s, .int .i64 X8.c, .slice A8 X8.l.length p8, .int .u64 X8.u, .int .i64 Y8.s, .int .i64 Y8.c, .slice B8 Y8.l.length q8, .int .u64 Y8.u, .bool true], .bool (ck != 3), .int .i64 0]) (by simp [results, Tryz.results33, go_sem, *]) rfl ⟨A8, p8, B8, q8, rfl, Hpx.out, Hpy.out, Hbf.out⟩
      | false =>
       refine wp_region_held_drew (S := (fun W => W.cell? ⟨w.heap.size, 0, none⟩ = some (.int .i64 ld) ∧ W.cell? ⟨w.heap.size, 1, none⟩ = some (.int .i64 lk) ∧ W.cell? ⟨w.heap.size, 2, none⟩ = some (.int .i64 lr) ∧ W.cell? ⟨w.heap.size, 3, none⟩ = some (.int .i64 X8.s) ∧ W.cell? ⟨w.heap.size, 4, none⟩ = some (.int .i64 X8.c) ∧ W.cell? ⟨w.heap.size, 5, none⟩ = some (.slice A8 X8.l.length p8) ∧ W.cell? ⟨w.heap.size, 6, none⟩ = some (.int .u64 X8.u) ∧ W.cell? ⟨w.heap.size, 7, none⟩ = some (.int .i64 Y8.s) ∧ W.cell? ⟨w.heap.size, 8, none⟩ = some (.int .i64 Y8.c) ∧ W.cell? ⟨w.heap.size, 9, none⟩ = some (.slice B8 Y8.l.length q8) ∧ W.cell? ⟨w.heap.size, 10, none⟩ = some (.int .u64 Y8.u) ∧ W.cell? ⟨w.heap.size, 11, none⟩ = some (.bool false) ∧ W.cell? ⟨w.heap.size + 1, 1, none⟩ = some (.int .i64 ck))) (by kernel_rfl) ?_ (fun hHeld => ?_)
       ·(try dsimp only); (simp only [cell_drew, Hca.out, Hcb.out]; with_reducible exact Hhs9.out)
       refine tq 0 (some 120) ?_
       (try simp only [apz])
       refine tq 1 (some 121) ?_
       (try simp only [apz])
       refine tq 2 (some 122) ?_
       (try simp only [apz])
       refine tq 3 (some 123) ?_
       (try simp only [apz])
       refine skip_at (i := 4) (some 124) rfl rfl (by kernel_rfl) (fun _ _ _ h => h) (by rfl) (by assumption) ?_
       (try simp only [apz])
       refine skip_at (i := 5) (some 125) rfl rfl (by kernel_rfl) (fun _ _ _ h => h) (by rfl) (by assumption) ?_
       (try simp only [apz])
       refine skip_at (i := 6) (some 126) rfl rfl (by kernel_rfl) (fun _ _ _ h => h) (by rfl) (by assumption) ?_
       (try simp only [apz])
       refine tq 7 (some 127) ?_
       (try simp only [apz])
       refine wpAnyH_ready (rs := [8]) (by kernel_rfl) (by simp) ?_
       refine AllReadyH.cons rfl (fun K hK => ?_) AllReadyH.nil
       go_simp
       refine hK.out _ _ ?_ (fun hHeld => ?_)
       ·(try dsimp only); (simp only [cell_drew, Hca.out, Hcb.out]; with_reducible exact Hhs9.out)
       clear hK K
       (try simp only [apz])
       refine tq 9 (some 9) ?_
       (try simp only [apz])
       refine tq 10 (some 10) ?_
       (try simp only [apz])
       refine wpAnyH_done (by kernel_rfl) ?_ _
       go_wp2_with fail
       refine bodyPost_ret (v := .tuple #[.agg #[.int .i64 ld, .int .i64 lk, .int .i64 lr, .int .i64 X8.s, .int .i64 X8.c, .slice A8 X8.l.length p8, .int .u64 X8.u, .int .i64 Y8.s, .int .i64 Y8.c, .slice B8 Y8.l.length q8, .int .u64 Y8.u, .bool false], .bool false, .int .i64 0]) (by simp [results, Tryz.results33, go_sem, *]) rfl ⟨A8, p8, B8, q8, rfl, Hpx.out, Hpy.out, Hbf.out⟩
end Go.Proofs.YtclgncaghiinhaaGreatDoor

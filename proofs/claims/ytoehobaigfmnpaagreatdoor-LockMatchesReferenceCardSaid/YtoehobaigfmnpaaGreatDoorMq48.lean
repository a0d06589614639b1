/- Opening arguments: locks. -/
import Derived.OpenShut
import Derived.Test.YtoehobaigfmnpaaGreatDoorMq10
import Derived.Test.YtoehobaigfmnpaaGreatDoorMq20
import Derived.Test.YtoehobaigfmnpaaGreatDoorMq29
import Derived.Test.YtoehobaigfmnpaaGreatDoorMq35
import Derived.Test.YtoehobaigfmnpaaGreatDoorMq42
import Derived.Test.YtoehobaigfmnpaaGreatDoorMq45
import Derived.Test.YtoehobaigfmnpaaGreatDoorMq46
import Derived.Test.YtoehobaigfmnpaaGreatDoorMq47
set_option linter.unusedSimpArgs false
set_option linter.unusedVariables false
set_option maxRecDepth 100000
namespace Go.Proofs.YtoehobaigfmnpaaGreatDoor
open Go.RowKit
set_option maxHeartbeats 8000000 in
theorem rshow_x3 (l : Lk) (c : Crd) (t a : Int) (A : Option Addr) (n p : Nat) (B : Option Addr) (m q : Nat) (w : World) (hx : SlotIs w A n l.x) (hy : SlotIs w B m l.y) (hc : CFit c) (h1 : lvB l = true) (h2 : cvB c = true) (h3 : timeB t = true) (h4 : ¬ a < 0) (h5 : ¬ 3 < a) (h6 : l.up = true) (h7 : chkB c l.k = true) (h9 : accB l c t = true) (hk : c.k = 3) (hbb : bestB l.x l.y = true) (hcb : -9223372036854775808 ≤ (keepS l).c ∧ (keepS l).c ≤ 9223372036854775807) (hfl : Fit (insL (keepS l).l ((keepS l).l.countP (· < c.l)) c.l)) (hll : (insL (keepS l).l ((keepS l).l.countP (· < c.l)) c.l).length ≤ 501) (hm : (keepS l).l.contains c.l = false) (hE : ¬ wrE l.x l.y (keepS l).c (insL (keepS l).l ((keepS l).l.countP (· < c.l)) c.l) a = 0) :
  Calls Tryz.prog 14 #[.agg (l.cells A n p B m q).toArray, .agg c.cells.toArray, .int .i64 t, .int .i64 a] w (ShowPost A l.x.l B l.y.l Lk.zero false (wrE l.x l.y (keepS l).c (insL (keepS l).l ((keepS l).l.countP (· < c.l)) c.l) a) w) := by
 have hn := hx.len
 have hm := hy.len
 subst hn hm
 obtain ⟨w0, hw0⟩ : ∃ W, ((w.alloc (.cells (l.cells A l.x.l.length p B l.y.l.length q).toArray 28)).alloc (.cells c.cells.toArray 32)).alloc (.cells #[.int .i64 0, .int .i64 0, .int .i64 0, .int .i64 0, .int .i64 0, .slice none 0 0, .int .u64 0, .int .i64 0, .int .i64 0, .slice none 0 0, .int .u64 0, .bool false] 28) = W := ⟨_, rfl⟩
 have bb0 : Below w.heap.size w w0 := by rw [← hw0]; exact (((Below.refl _ _).alloc (Nat.le_refl _) _).alloc (by simp) _).alloc (by simp; omega) _
 have k0 : Blk w0 w.heap.size (l.cells A l.x.l.length p B l.y.l.length q).toArray := by rw [← hw0]; exact ((blk_new rfl).alloc _).alloc _
 have g0 : Blk w0 (w.heap.size + 1) c.cells.toArray := by rw [← hw0]; exact (blk_new (by simp)).alloc _
 have r0 : Blk w0 (w.heap.size + 1 + 1) #[.int .i64 0, .int .i64 0, .int .i64 0, .int .i64 0, .int .i64 0, .slice none 0 0, .int .u64 0, .int .i64 0, .int .i64 0, .slice none 0 0, .int .u64 0, .bool false] := by rw [← hw0]; exact blk_new (by simp)
 have q1 := fun W => (rTime_any t W).mono belowPost
 have q2 := fun W (h : Below w.heap.size w W) => rlvalid_any l A l.x.l.length p B l.y.l.length q W (hx.below h) (hy.below h)
 have q3 := fun W => rcvalid_any c hc W
 have q4 := fun W => rccheck_any c l.k hc W
 have q5 := fun W (h : Below w.heap.size w W) => raccepts_any l c t A l.x.l.length p B l.y.l.length q W (hx.below h) (hy.below h)
 obtain ⟨K, tt, hs, q6⟩ := rlkeeps_as l A l.x.l.length p B l.y.l.length q w hx hy
 have few := hs.few
 rw [h1] at q2
 rw [h2] at q3
 rw [h3] at q1
 have d4 : decide (a < 0) = false := decide_eq_false h4
 have d5 : decide (3 < a) = false := decide_eq_false h5
 rw [h7] at q4
 rw [h9] at q5
 have so := (ok_sorted (keep_ok hbb)).1
 have hcp : (keepS l).l.countP (· < c.l) ≤ (keepS l).l.length := List.countP_le_length
 have hlo := count_lo (keepS l).l c.l so (by simpa using hm)
 have q7 := fun W (hi : IntsAt W K .i64 (keepS l).l) => has_any K tt (keepS l).l.length (keepS l).l rfl c.l W hi few
 rw [hm] at q7
 have q9 := fun W (hi : IntsAt W K .i64 (keepS l).l) => rput_any K tt (keepS l).l.length (keepS l).l rfl c.l W hi few ((keepS l).l.countP (· < c.l)) hcp hlo
 unfold NewList at q9
 clear hlo so
 have q8 := fun W D r (h : Below w.heap.size w W) (hi : IntsAt W D .i64 (insL (keepS l).l ((keepS l).l.countP (· < c.l)) c.l)) => rwrite_any2 l.x l.y (keepS l).c a A l.x.l.length p B l.y.l.length q D (insL (keepS l).l ((keepS l).l.countP (· < c.l)) c.l).length r (insL (keepS l).l ((keepS l).l.countP (· < c.l)) c.l) rfl W (hx.below h) (hy.below h) hcb hi (by omega) hfl
 have z0 : wr0 l.x l.y (keepS l).c (insL (keepS l).l ((keepS l).l.countP (· < c.l)) c.l) a = Slt.zero := by rw [wr0, if_neg hE]
 have z1 : wr1 l.x l.y (keepS l).c (insL (keepS l).l ((keepS l).l.countP (· < c.l)) c.l) a = Slt.zero := by rw [wr1, if_neg hE]
 rw [z0, z1] at q8
 unfold SlotsErr at q8
 clear z0 z1
 simp only [Slt.zero, List.length_nil] at q8
 have dE : (wrE l.x l.y (keepS l).c (insL (keepS l).l ((keepS l).l.countP (· < c.l)) c.l) a == 0) = false := by rw [beq_eq_false_iff_ne]; exact hE
 have dE2 : (wrE l.x l.y (keepS l).c (insL (keepS l).l ((keepS l).l.countP (· < c.l)) c.l) a != 0) = true := by rw [bne_iff_ne]; exact hE
 generalize wrE l.x l.y (keepS l).c (insL (keepS l).l ((keepS l).l.countP (· < c.l)) c.l) a = E8 at *
 clear hcb hfl hll
 generalize lvB l = V at *
 generalize cvB c = V2 at *
 generalize timeB t = V3 at *
 generalize chkB c l.k = V4 at *
 generalize chkE c l.k = V5 at *
 generalize accB l c t = V6 at *
 generalize insL (keepS l).l ((keepS l).l.countP (· < c.l)) c.l = RL at *
 generalize keepS l = s at *
 unfold Lk.cells at k0 hw0 q2 q5 q6 ⊢
 unfold Crd.cells at g0 hw0 q3 q4 q5 ⊢
 obtain ⟨ci, ck, cd, cn, cf, cu, cl, ce, cs⟩ := c
 obtain ⟨ld, lk, lr, lx, ly, lu⟩ := l
 dsimp only at *
 subst h6 hk
 have ⟨H_bb0, H_k0, H_g0, H_r0, H_hw0, H_q1, H_q2, H_q3⟩ := hid8 bb0 k0 g0 r0 hw0 q1 q2 q3; clear bb0 k0 g0 r0 hw0 q1 q2 q3; have ⟨H_q4, H_q5, H_q6, H_hx, H_hy, H_hc, H_hs, H_few⟩ := hid8 q4 q5 q6 hx hy hc hs few; clear q4 q5 q6 hx hy hc hs few; have ⟨H_q8, H_q7, H_q9, H_hm, H_hcp⟩ := hid5 q8 q7 q9 hm hcp; clear q8 q7 q9 hm hcp
 go_enter Tryz.func14, Tryz.ntmps14
 go_wp2_with fail
 rw [H_hw0.out]
 obtain ⟨y0, y1, y2, y3, y4, y5, y6, y7, y8, y9, y10, y11⟩ := at12_of H_k0.out
 go_wp2_with fail
 (with_reducible refine (H_q2.out _ ?_).mono ?_)
 ·exact H_bb0.out.trans ((show Below w0.heap.size w0 _ from belt).mono H_bb0.out.size)
 rintro e w1 ⟨rfl, b1⟩
 have c1 : Below w0.heap.size w0 w1 := Below.trans belt (b1.mono omh)
 have s1 := c1.size
 have bb1 := H_bb0.out.trans (c1.mono H_bb0.out.size)
 have k1 := H_k0.out.below c1
 have g1 := H_g0.out.below c1
 have r1 := H_r0.out.below c1
 have ⟨H_b1, H_c1, H_bb1, H_k1, H_g1, H_r1⟩ := hid6 b1 c1 bb1 k1 g1 r1; clear b1 c1 bb1 k1 g1 r1
 clear y0 y1 y2 y3 y4 y5 y6 y7 y8 y9 y10 y11
 obtain ⟨z0, z1, z2, z3, z4, z5, z6, z7, z8⟩ := at9_of H_g1.out
 go_wp2_with fail
 (with_reducible refine (H_q3.out _).mono ?_)
 rintro e w2 ⟨rfl, b2⟩
 have c2 : Below w1.heap.size w1 w2 := Below.trans belt (b2.mono omh)
 have s2 := c2.size
 have bb2 := H_bb1.out.trans (c2.mono H_bb1.out.size)
 have k2 := H_k1.out.below c2
 have g2 := H_g1.out.below c2
 have r2 := H_r1.out.below c2
 have ⟨H_b2, H_c2, H_bb2, H_k2, H_g2, H_r2⟩ := hid6 b2 c2 bb2 k2 g2 r2; clear b2 c2 bb2 k2 g2 r2
 clear z0 z1 z2 z3 z4 z5 z6 z7 z8
 go_wp2_with fail
 (with_reducible refine (H_q1.out _).mono ?_)
 rintro e w3 ⟨rfl, b3⟩
 have c3 : Below w2.heap.size w2 w3 := Below.trans belt (b3.mono omh)
 have s3 := c3.size
 have bb3 := H_bb2.out.trans (c3.mono H_bb2.out.size)
 have k3 := H_k2.out.below c3
 have g3 := H_g2.out.below c3
 have r3 := H_r2.out.below c3
 have ⟨H_b3, H_c3, H_bb3, H_k3, H_g3, H_r3⟩ := hid6 b3 c3 bb3 k3 g3 r3; clear b3 c3 bb3 k3 g3 r3
 obtain ⟨y0, y1, y2, y3, y4, y5, y6, y7, y8, y9, y10, y11⟩ := at12_of H_k3.out
 obtain ⟨z0, z1, z2, z3, z4, z5, z6, z7, z8⟩ := at9_of H_g3.out
 go_wp2_with fail
 (with_reducible refine (H_q4.out _).mono ?_)
 rintro e w4 ⟨rfl, b4⟩
 have c4 : Below w3.heap.size w3 w4 := Below.trans belt (b4.mono omh)
 have s4 := c4.size
 have bb4 := H_bb3.out.trans (c4.mono H_bb3.out.size)
 have k4 := H_k3.out.below c4
 have g4 := H_g3.out.below c4
 have r4 := H_r3.out.below c4
 have ⟨H_b4, H_c4, H_bb4, H_k4, H_g4, H_r4⟩ := hid6 b4 c4 bb4 k4 g4 r4; clear b4 c4 bb4 k4 g4 r4
 clear y0 y1 y2 y3 y4 y5 y6 y7 y8 y9 y10 y11
 clear z0 z1 z2 z3 z4 z5 z6 z7 z8
 obtain ⟨y0, y1, y2, y3, y4, y5, y6, y7, y8, y9, y10, y11⟩ := at12_of H_k4.out
 obtain ⟨z0, z1, z2, z3, z4, z5, z6, z7, z8⟩ := at9_of H_g4.out
 go_wp2_with fail
 (with_reducible refine (H_q5.out _ ?_).mono ?_)
 ·exact H_bb4.out.trans ((show Below w4.heap.size w4 _ from belt).mono H_bb4.out.size)
 rintro e w5 ⟨rfl, b5⟩
 have c5 : Below w4.heap.size w4 w5 := Below.trans belt (b5.mono omh)
 have s5 := c5.size
 have bb5 := H_bb4.out.trans (c5.mono H_bb4.out.size)
 have k5 := H_k4.out.below c5
 have g5 := H_g4.out.below c5
 have r5 := H_r4.out.below c5
 have ⟨H_b5, H_c5, H_bb5, H_k5, H_g5, H_r5⟩ := hid6 b5 c5 bb5 k5 g5 r5; clear b5 c5 bb5 k5 g5 r5
 clear y0 y1 y2 y3 y4 y5 y6 y7 y8 y9 y10 y11
 clear z0 z1 z2 z3 z4 z5 z6 z7 z8
 obtain ⟨y0, y1, y2, y3, y4, y5, y6, y7, y8, y9, y10, y11⟩ := at12_of H_k5.out
 go_wp2_with fail
 (with_reducible refine (H_q6.out _ ?_).mono ?_)
 ·exact H_bb5.out.trans ((show Below w5.heap.size w5 _ from belt).mono H_bb5.out.size)
 rintro e w6 ⟨rfl, b6⟩
 have c6 : Below w5.heap.size w5 w6 := Below.trans belt (b6.mono omh)
 have s6 := c6.size
 have bb6 := H_bb5.out.trans (c6.mono H_bb5.out.size)
 have k6 := H_k5.out.below c6
 have g6 := H_g5.out.below c6
 have r6 := H_r5.out.below c6
 have ⟨H_b6, H_c6, H_bb6, H_k6, H_g6, H_r6⟩ := hid6 b6 c6 bb6 k6 g6 r6; clear b6 c6 bb6 k6 g6 r6
 clear y0 y1 y2 y3 y4 y5 y6 y7 y8 y9 y10 y11
 have e6 := H_hs.out.below H_bb6.out
 have H_e6 := Lib.hid e6; clear e6
 obtain ⟨z0, z1, z2, z3, z4, z5, z6, z7, z8⟩ := at9_of H_g6.out
 have lz6 := (H_g6.out 0 _ rfl).lt
 go_wp2_with fail
 (with_reducible refine (H_q7.out _ ?_).mono ?_)
 ·exact (H_e6.out.below (show Below w6.heap.size w6 _ from belt)).ints
 rintro e w7 ⟨rfl, b7⟩
 have c7 : Below w6.heap.size w6 w7 := Below.trans belt (b7.mono omh)
 have s7 := c7.size
 have bb7 := H_bb6.out.trans (c7.mono H_bb6.out.size)
 have k7 := H_k6.out.below c7
 have g7 := H_g6.out.below c7
 have r7 := H_r6.out.below c7
 have e7 := H_e6.out.below c7
 have ⟨H_b7, H_c7, H_bb7, H_k7, H_g7, H_r7, H_e7⟩ := hid7 b7 c7 bb7 k7 g7 r7 e7; clear b7 c7 bb7 k7 g7 r7 e7
 have v7 : Blk w7 w6.heap.size #[.int .i64 s.s, .int .i64 s.c, .slice K s.l.length tt, .int .u64 s.u] := (blk_new rfl).below H_b7.out
 have H_v7 := Lib.hid v7; clear v7
 clear z0 z1 z2 z3 z4 z5 z6 z7 z8
 obtain ⟨z0, z1, z2, z3, z4, z5, z6, z7, z8⟩ := at9_of H_g7.out
 obtain ⟨x0, x1, x2, x3⟩ := at4_of H_v7.out
 go_wp2_with fail
 (with_reducible refine (H_q9.out _ ?_).mono ?_)
 ·exact (H_e7.out.below (show Below w7.heap.size w7 _ from belt)).ints
 rintro e w8 ⟨K8, t8, rfl, o8, b8⟩
 have c8 : Below w7.heap.size w7 w8 := Below.trans belt (b8.mono omh)
 have s8 := c8.size
 have bb8 := H_bb7.out.trans (c8.mono H_bb7.out.size)
 have k8 := H_k7.out.below c8
 have g8 := H_g7.out.below c8
 have r8 := H_r7.out.below c8
 have ⟨H_b8, H_c8, H_bb8, H_k8, H_g8, H_r8⟩ := hid6 b8 c8 bb8 k8 g8 r8; clear b8 c8 bb8 k8 g8 r8
 have i8 := o8.ints
 clear o8
 have H_i8 := Lib.hid i8; clear i8
 clear z0 z1 z2 z3 z4 z5 z6 z7 z8
 clear x0 x1 x2 x3
 obtain ⟨y0, y1, y2, y3, y4, y5, y6, y7, y8, y9, y10, y11⟩ := at12_of H_k8.out
 have ly7 := (H_k8.out 0 _ rfl).lt
 go_wp2_with fail
 (with_reducible refine (H_q8.out _ _ _ ?_ ?_).mono ?_)
 ·exact H_bb8.out.trans ((show Below w8.heap.size w8 _ from belt).mono H_bb8.out.size)
 ·exact H_i8.out.below (show Below w8.heap.size w8 _ from belt)
 rintro e w9 ⟨A8, p8, B8, q8, rfl, i9, j9, b9⟩
 have c9 : Below w8.heap.size w8 w9 := Below.trans belt (b9.mono omh)
 have s9 := c9.size
 have bb9 := H_bb8.out.trans (c9.mono H_bb8.out.size)
 have k9 := H_k8.out.below c9
 have g9 := H_g8.out.below c9
 have r9 := H_r8.out.below c9
 have ⟨H_b9, H_c9, H_bb9, H_k9, H_g9, H_r9⟩ := hid6 b9 c9 bb9 k9 g9 r9; clear b9 c9 bb9 k9 g9 r9
 clear i9 j9
 clear y0 y1 y2 y3 y4 y5 y6 y7 y8 y9 y10 y11
 obtain ⟨x0, x1, x2, x3, x4, x5, x6, x7, x8, x9, x10, x11⟩ := at12_of H_r9.out
 have lx9 := (H_r9.out 0 _ rfl).lt
 have sz9 := H_bb9.out.size
 obtain ⟨f0, f1, f2, f3, f4, f5, f6, f7, f8, f9, f10, f11⟩ := free12_of H_r9.out
 have be : Below w.heap.size w ((putL (w9) (w.heap.size + 1 + 1) 0 [.int .i64 0, .int .i64 0, .int .i64 0, .int .i64 0, .int .i64 0, .slice none 0 0, .int .u64 0, .int .i64 0, .int .i64 0, .slice none 0 0, .int .u64 0, .bool false]).alloc (.cells #[.int .i64 0, .int .i64 0, .slice A8 0 p8, .int .u64 0, .int .i64 0, .int .i64 0, .slice B8 0 q8, .int .u64 0] 26)) := (putL_below (by omega) _ _ _ H_bb9.out).alloc (by rw [putL_size]; exact H_bb9.out.size) _
 simp only [putL, Nat.reduceAdd] at be
 have H_be := Lib.hid be; clear be
 go_wp2_with fail
 refine bodyPost_ret (v := .tuple #[.agg #[.int .i64 0, .int .i64 0, .int .i64 0, .int .i64 0, .int .i64 0, .slice none 0 0, .int .u64 0, .int .i64 0, .int .i64 0, .slice none 0 0, .int .u64 0, .bool false], .bool false, .int .i64 E8]) (by simp [results, Tryz.results14, go_sem, *]) rfl (showErr_zero H_be.out)
theorem rshow_any (l : Lk) (c : Crd) (t a : Int) (A : Option Addr) (n p : Nat) (B : Option Addr) (m q : Nat) (w : World) (hx : SlotIs w A n l.x) (hy : SlotIs w B m l.y) (hc : CFit c) :
    Calls Tryz.prog 14 #[.agg (l.cells A n p B m q).toArray, .agg c.cells.toArray, .int .i64 t, .int .i64 a] w (ShowPost A l.x.l B l.y.l (shR l c t a) (shO l c t a) (shE l c t a) w) := by
  by_cases h1 : lvB l = true
  rotate_left
  · have e : shE l c t a = 1 := by rw [shE, if_neg (fun h => h1 h.1)]
    rw [(sh_err e (by omega)).1, (sh_err e (by omega)).2, e]
    exact rshow_e1 l c t a A n p B m q w hx hy hc (by simpa using h1)
  by_cases h2 : cvB c = true
  rotate_left
  · have e : shE l c t a = 1 := by rw [shE, if_neg (fun h => h2 h.2.1)]
    rw [(sh_err e (by omega)).1, (sh_err e (by omega)).2, e]
    exact rshow_e2 l c t a A n p B m q w hx hy hc h1 (by simpa using h2)
  by_cases h3 : timeB t = true
  rotate_left
  · have e : shE l c t a = 1 := by rw [shE, if_neg (fun h => h3 h.2.2.1)]
    rw [(sh_err e (by omega)).1, (sh_err e (by omega)).2, e]
    exact rshow_e3 l c t a A n p B m q w hx hy hc h1 h2 (by simpa using h3)
  by_cases h4 : a < 0
  · have e : shE l c t a = 1 := by rw [shE, if_neg (fun h => h.2.2.2.1 h4)]
    rw [(sh_err e (by omega)).1, (sh_err e (by omega)).2, e]
    exact rshow_e4 l c t a A n p B m q w hx hy hc h1 h2 h3 h4
  by_cases h5 : 3 < a
  · have e : shE l c t a = 1 := by rw [shE, if_neg (fun h => h.2.2.2.2 h5)]
    rw [(sh_err e (by omega)).1, (sh_err e (by omega)).2, e]
    exact rshow_e5 l c t a A n p B m q w hx hy hc h1 h2 h3 h4 h5
  have e0 : shE l c t a = if l.up = true then if chkB c l.k = true then if accB l c t = true then shWE l c a else 50 else 9 else 51 := by rw [shE, if_pos ⟨h1, h2, h3, h4, h5⟩]
  by_cases h6 : l.up = true
  rotate_left
  · have e : shE l c t a = 51 := by rw [e0, if_neg h6]
    rw [(sh_err e (by omega)).1, (sh_err e (by omega)).2, e]
    exact rshow_e6 l c t a A n p B m q w hx hy hc h1 h2 h3 h4 h5 (by simpa using h6)
  by_cases h7 : chkB c l.k = true
  rotate_left
  · have e : shE l c t a = 9 := by rw [e0, if_pos h6, if_neg h7]
    rw [(sh_err e (by omega)).1, (sh_err e (by omega)).2, e]
    exact rshow_e7 l c t a A n p B m q w hx hy hc h1 h2 h3 h4 h5 h6 (by simpa using h7)
  by_cases h9 : accB l c t = true
  rotate_left
  · have e : shE l c t a = 50 := by rw [e0, if_pos h6, if_pos h7, if_neg h9]
    rw [(sh_err e (by omega)).1, (sh_err e (by omega)).2, e]
    exact rshow_e8 l c t a A n p B m q w hx hy hc h1 h2 h3 h4 h5 h6 h7 (by simpa using h9)
  rw [if_pos h6, if_pos h7, if_pos h9] at e0
  have hbb := lv_best h1
  have hcb := aftC_in (l := l) hc hbb
  have hfl := aftL_fit (l := l) (c := c) hc hx.fit hy.fit
  have hll : (aftL l c).length ≤ 501 := by have := aftL_len l c; have := (keep_in hbb).2; omega
  have fail_ (hW : shW l c = true) (hE : ¬ wrE l.x l.y (aftC l c) (aftL l c) a = 0) : shR l c t a = Lk.zero ∧ shO l c t a = false ∧ shE l c t a = wrE l.x l.y (aftC l c) (aftL l c) a := by
    have e : shE l c t a = wrE l.x l.y (aftC l c) (aftL l c) a := by rw [e0, shWE, if_pos hW]
    exact ⟨(sh_err e hE).1, (sh_err e hE).2, e⟩
  by_cases hEE : shW l c = true ∧ ¬ wrE l.x l.y (aftC l c) (aftL l c) a = 0
  · obtain ⟨hW, hE⟩ := hEE
    obtain ⟨x1, x2, x3⟩ := fail_ hW hE
    rw [x1, x2, x3]
    rcases kind_of h2 with hk | hk | hk
    · have eC : aftC l c = max (keepS l).c c.n := by rw [aftC, if_pos hk]
      have eL : aftL l c = (keepS l).l := by rw [aftL, if_neg (by omega)]
      have hC : ¬ max (keepS l).c c.n = (keepS l).c := fun h => by
        rw [shW_of (by rw [eC, h]) eL] at hW; cases hW
      rw [eC] at hcb
      rw [eL] at hfl hll
      rw [eC, eL] at hE ⊢
      exact rshow_x1 l c t a A n p B m q w hx hy hc h1 h2 h3 h4 h5 h6 h7 h9 hk hbb hcb hfl hll hC hE
    · rw [shW_of (by rw [aftC, if_neg (by omega)]) (by rw [aftL, if_neg (by omega)])] at hW; cases hW
    · have eC : aftC l c = (keepS l).c := by rw [aftC, if_neg (by omega)]
      cases hm : (keepS l).l.contains c.l with
      | true => rw [shW_of eC (by rw [aftL, if_pos hk, revL, if_pos hm])] at hW; cases hW
      | false =>
        have eL : aftL l c = insL (keepS l).l ((keepS l).l.countP (· < c.l)) c.l := by rw [aftL, if_pos hk, revL, if_neg (by rw [hm]; decide)]
        rw [eC] at hcb
        rw [eL] at hfl hll
        rw [eC, eL] at hE ⊢
        exact rshow_x3 l c t a A n p B m q w hx hy hc h1 h2 h3 h4 h5 h6 h7 h9 hk hbb hcb hfl hll hm hE
  · have e : shE l c t a = 0 := by
      rw [e0, shWE]
      split
      · rename_i hW; exact Decidable.byContradiction fun h => hEE ⟨hW, h⟩
      · rfl
    obtain ⟨MO, hMO⟩ : ∃ MO, (decide (c.k = 3) && !(keepS l).l.contains c.l) = MO := ⟨_, rfl⟩
    have hM2 : MO = true → c.k = 3 ∧ (keepS l).l.contains c.l = false := fun h => by
      rw [h, Bool.and_eq_true, decide_eq_true_eq, Bool.not_eq_true'] at hMO; exact hMO
    have hL1 : MO = true → insL (keepS l).l ((keepS l).l.countP (· < c.l)) c.l = aftL l c := fun h => by
      obtain ⟨hk, hm⟩ := hM2 h
      rw [aftL, if_pos hk, revL, if_neg (by rw [hm]; decide)]
    have hL0 : MO = false → (keepS l).l = aftL l c := fun h => by
      rw [aftL]
      split
      · rename_i hk
        rw [h, decide_eq_true hk, Bool.true_and, Bool.not_eq_false'] at hMO
        rw [revL, if_pos hMO]
      · rfl
    have hW : (MO || (aftC l c != (keepS l).c)) = shW l c := by
      have hb : (aftC l c != (keepS l).c) = !decide (aftC l c = (keepS l).c) := rfl
      rw [shW, hb, Bool.or_comm]
      cases MO with
      | true =>
        have hlen : ¬ (aftL l c).length = (keepS l).l.length := by rw [← hL1 rfl, insL_len]; omega
        rw [decide_eq_false hlen]; rfl
      | false =>
        have hlen : (aftL l c).length = (keepS l).l.length := by rw [← hL0 rfl]
        rw [decide_eq_true hlen]; rfl
    have this := rshow_ok l c t a A n p B m q w hx hy hc h1 h2 h3 h4 h5 h6 h7 h9 (if shW l c = true then wr0 l.x l.y (aftC l c) (aftL l c) a else l.x) (if shW l c = true then wr1 l.x l.y (aftC l c) (aftL l c) a else l.y) (aftC l c) (aftL l c) MO (shW l c)
      (fun h => by rw [aftC, if_pos h]) (fun h => by rw [aftC, if_neg h]) (fun h => by rw [← hMO, decide_eq_true h, Bool.true_and]) (fun h => by rw [← hMO, decide_eq_false h, Bool.false_and]) (fun h => (hM2 h).2) hL1 hL0 hW
      (fun h => by rw [h]; exact ⟨rfl, rfl⟩) (fun h => ⟨Decidable.byContradiction fun h8 => hEE ⟨h, h8⟩, by rw [if_pos h], by rw [if_pos h]⟩) hbb hcb hfl hll
    rw [e, shR, if_pos e, shO, if_pos e]
    exact this
section
open Go.RowKit Go.ChangeShapes Go.WideShapes Go.ChangeAt
theorem read_card {H : Type} {enc : TypeId × Value → H} {W : World} {held : Bool} (fuel : Nat) (cs : List Value) (x : DataW H × List MemPlace) (hl : cs.length = 9) (h : DataW.trod enc Tryz.prog W 0 (fun _ => true) held fuel 32 cs = some x) : ∃ z, CdAt W cs z := by
 obtain ⟨xs, n, _, _, _, hlen, hg⟩ := DataW.trod_struct Tryz.underlying32 h
 have hx : xs.length = 8 := hlen
 match xs, hx, cs, hl with
 | [y0, y1, y2, y3, y4, y5, y6, y7], _, [c0, c1, c2, c3, c4, c5, c6, c7, c8], _ =>
  have e1 : Tryz.prog.cellsOf 3 = 1 := by kernel_rfl
  have e2 : Tryz.prog.cellsOf 30 = 2 := by kernel_rfl
  have g0 := hg 0 _ rfl
  have g1 := hg 1 _ rfl
  have g2 := hg 2 _ rfl
  have g3 := hg 3 _ rfl
  have g4 := hg 4 _ rfl
  have g5 := hg 5 _ rfl
  have g6 := hg 6 _ rfl
  have g7 := hg 7 _ rfl
  simp [e1, e2] at g0 g1 g2 g3 g4 g5 g6 g7
  obtain ⟨a0, rfl, w0⟩ := read_int Tryz.underlying3 g0
  obtain ⟨a1, rfl, w1⟩ := read_int Tryz.underlying3 g1
  obtain ⟨a2, rfl, w2⟩ := read_int Tryz.underlying3 g2
  obtain ⟨a3, rfl, w3⟩ := read_int Tryz.underlying3 g3
  obtain ⟨a4, rfl, w4⟩ := read_int Tryz.underlying3 g4
  obtain ⟨a5, rfl, w5⟩ := read_int Tryz.underlying3 g5
  obtain ⟨a6, rfl, w6⟩ := read_int Tryz.underlying3 g6
  obtain ⟨zs, n2, _, _, _, hlen2, hg2⟩ := DataW.trod_struct Tryz.underlying30 g7
  have hz : zs.length = 2 := hlen2
  match zs, hz with
  | [z0, z1], _ =>
   have k0 := hg2 0 _ rfl
   have k1 := hg2 1 _ rfl
   simp [e1] at k0 k1
   obtain ⟨a7, rfl, w7⟩ := read_int Tryz.underlying3 k0
   obtain ⟨a8, rfl, w8⟩ := read_int Tryz.underlying3 k1
   exact ⟨⟨a0, a1, a2, a3, a4, a5, a6, a7, a8⟩, rfl, ⟨wf_i64 w0, wf_i64 w1, wf_i64 w2, wf_i64 w3, wf_i64 w4, wf_i64 w5, wf_i64 w6, wf_i64 w7, wf_i64 w8⟩⟩
theorem open_card {H : Type} {enc : TypeId × Value → H} {W : World} {base : Nat} {held : Bool} {v : Value} {d : DataW H} {p : List MemPlace} (hv : Value.okWide Tryz.prog W .any base 32 v) (h : DataW.Trod enc Tryz.prog W 0 (fun _ => true) held 32 v d p) :
  ∃ c : Crd, v = .agg c.cells.toArray ∧ CFit c := by
 obtain ⟨cs, rfl, hsz⟩ := okWide_struct Tryz.underlying32 hv
 have e : Tryz.prog.cellsOf 32 = 9 := by kernel_rfl
 obtain ⟨fuel, hf⟩ := h
 obtain ⟨z, hz, hzf⟩ := read_card fuel cs.toList _ (by rw [Array.length_toList, hsz, e]) hf
 exact ⟨z, by rw [← hz], hzf⟩
end
section
open Go.RowKit Go.ChangeShapes Go.WideShapes Go.ChangeAt
theorem read_slots {H : Type} {enc : TypeId × Value → H} {W : World} {held : Bool} {fuel : Nat} {c0 c1 c2 c3 c4 c5 c6 c7 : Value} {x : DataW H × List MemPlace} (h : DataW.trod enc Tryz.prog W 0 (fun _ => true) held fuel 26 [c0, c1, c2, c3, c4, c5, c6, c7] = some x) :
  ∃ (x y : Slt) (A : Option Addr) (n cap : Nat) (B : Option Addr) (m q : Nat), [c0, c1, c2, c3, c4, c5, c6, c7] = [.int .i64 x.s, .int .i64 x.c, .slice A n cap, .int .u64 x.u, .int .i64 y.s, .int .i64 y.c, .slice B m q, .int .u64 y.u] ∧ SlotArg W A n cap x ∧ SlotArg W B m q y := by
 have e4 : Tryz.prog.cellsOf 25 = 4 := by kernel_rfl
 obtain ⟨xs, m, _, _, _, hlen, hg⟩ := DataW.trod_array Tryz.underlying26 h
 match xs, hlen with
 | [y0, y1], _ =>
  have g0 := hg 0 (by omega)
  have g1 := hg 1 (by omega)
  simp [e4] at g0 g1
  obtain ⟨x, A, n, cap, rfl, rfl, rfl, rfl, hx⟩ := read_slot g0
  obtain ⟨y, B, m, q, rfl, rfl, rfl, rfl, hy⟩ := read_slot g1
  exact ⟨x, y, A, n, cap, B, m, q, rfl, hx, hy⟩
theorem read_lock {H : Type} {enc : TypeId × Value → H} {W : World} {held : Bool} (fuel : Nat) (cs : List Value) (x : DataW H × List MemPlace) (hl : cs.length = 12) (h : DataW.trod enc Tryz.prog W 0 (fun _ => true) held fuel 28 cs = some x) :
  ∃ (l : Lk) (A : Option Addr) (n p : Nat) (B : Option Addr) (m q : Nat), cs = l.cells A n p B m q ∧ SlotArg W A n p l.x ∧ SlotArg W B m q l.y ∧ LFit l := by
 obtain ⟨xs, n, _, _, _, hlen, hg⟩ := DataW.trod_struct Tryz.underlying28 h
 have hx : xs.length = 5 := hlen
 match xs, hx, cs, hl with
 | [y0, y1, y2, y3, y4], _, [c0, c1, c2, c3, c4, c5, c6, c7, c8, c9, c10, c11], _ =>
  have e1 : Tryz.prog.cellsOf 3 = 1 := by kernel_rfl
  have e2 : Tryz.prog.cellsOf 26 = 8 := by kernel_rfl
  have e3 : Tryz.prog.cellsOf 4 = 1 := by kernel_rfl
  have g0 := hg 0 _ rfl
  have g1 := hg 1 _ rfl
  have g2 := hg 2 _ rfl
  have g3 := hg 3 _ rfl
  have g4 := hg 4 _ rfl
  simp [e1, e2, e3] at g0 g1 g2 g3 g4
  obtain ⟨a0, rfl, w0⟩ := read_int Tryz.underlying3 g0
  obtain ⟨a1, rfl, w1⟩ := read_int Tryz.underlying3 g1
  obtain ⟨a2, rfl, w2⟩ := read_int Tryz.underlying3 g2
  obtain ⟨x, y, A, n, p, B, m, q, e, hx, hy⟩ := read_slots g3
  obtain ⟨b, hb, _⟩ := DataW.trod_bool Tryz.underlying4 g4
  simp only [List.cons.injEq, and_true] at e hb
  obtain ⟨rfl, rfl, rfl, rfl, rfl, rfl, rfl, rfl⟩ := e
  subst hb
  exact ⟨⟨a0, a1, a2, x, y, b⟩, A, n, p, B, m, q, rfl, hx, hy, ⟨wf_i64 w0, wf_i64 w1, wf_i64 w2⟩⟩
theorem open_lock {H : Type} {enc : TypeId × Value → H} {W : World} {base : Nat} {held : Bool} {v : Value} {d : DataW H} {p : List MemPlace} (hv : Value.okWide Tryz.prog W .any base 28 v) (h : DataW.Trod enc Tryz.prog W 0 (fun _ => true) held 28 v d p) :
  ∃ (l : Lk) (A : Option Addr) (n p : Nat) (B : Option Addr) (m q : Nat), v = .agg (l.cells A n p B m q).toArray ∧ SlotArg W A n p l.x ∧ SlotArg W B m q l.y ∧ LFit l := by
 obtain ⟨cs, rfl, hsz⟩ := okWide_struct Tryz.underlying28 hv
 have e : Tryz.prog.cellsOf 28 = 12 := by kernel_rfl
 obtain ⟨fuel, hf⟩ := h
 obtain ⟨l, A, n, p, B, m, q, hz, hx, hy, hl⟩ := read_lock fuel cs.toList _ (by rw [Array.length_toList, hsz, e]) hf
 exact ⟨l, A, n, p, B, m, q, by rw [← hz], hx, hy, hl⟩
end
end Go.Proofs.YtoehobaigfmnpaaGreatDoor

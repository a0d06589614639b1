/- The walk of LockMatchesReference. -/
import Derived.Deep.CutRange
import Derived.Test.YtoehobaigfmnpaaGreatDoorMq38
import Derived.Test.YtoehobaigfmnpaaGreatDoorMq48
set_option linter.unusedSimpArgs false
set_option linter.unusedVariables false
set_option maxRecDepth 100000
namespace Go.Proofs.YtoehobaigfmnpaaGreatDoor
open Go.RowKit
theorem at12x {w : World} {b : Nat} {v0 v1 v2 v3 v4 v5 v6 v7 v8 v9 v10 v11 : Value} (h : Blk w b #[v0, v1, v2, v3, v4, v5, v6, v7, v8, v9, v10, v11]) : w.cell? ⟨b, 0, none⟩ = some v0 ∧ w.cell? ⟨b, 1, none⟩ = some v1 ∧ w.cell? ⟨b, 2, none⟩ = some v2 ∧ w.cell? ⟨b, 3, none⟩ = some v3 ∧ w.cell? ⟨b, 4, none⟩ = some v4 ∧ w.cell? ⟨b, 5, none⟩ = some v5 ∧ w.cell? ⟨b, 6, none⟩ = some v6 ∧ w.cell? ⟨b, 7, none⟩ = some v7 ∧ w.cell? ⟨b, 8, none⟩ = some v8 ∧ w.cell? ⟨b, 9, none⟩ = some v9 ∧ w.cell? ⟨b, 10, none⟩ = some v10 ∧ w.cell? ⟨b, 11, none⟩ = some v11 := ⟨(h 0 _ rfl).at, (h 1 _ rfl).at, (h 2 _ rfl).at, (h 3 _ rfl).at, (h 4 _ rfl).at, (h 5 _ rfl).at, (h 6 _ rfl).at, (h 7 _ rfl).at, (h 8 _ rfl).at, (h 9 _ rfl).at, (h 10 _ rfl).at, (h 11 _ rfl).at⟩
theorem nw_fit (d k r : Int) : (nwR d k r).x.l.length ≤ 500 ∧ (nwR d k r).y.l.length ≤ 500 := by
 unfold nwR; split <;> simp [Slt.made, Slt.zero, Lk.zero]
theorem pwl_fit (l : Lk) (u : Bool) (hx : l.x.l.length ≤ 500) (hy : l.y.l.length ≤ 500) : (pwR l u).x.l.length ≤ 500 ∧ (pwR l u).y.l.length ≤ 500 := by
 unfold pwR; split
 ·exact ⟨hx, hy⟩
 ·simp [Lk.zero, Slt.zero]
set_option maxHeartbeats 32000000 in
theorem lockMatches_walk (l : Lk) (A : Option Addr) (n p : Nat) (B : Option Addr) (m q : Nat) (c : Crd) (t a dr ky er : Int) (on : Bool) (w : World) (hx : SlotArg w A n p l.x) (hy : SlotArg w B m q l.y) (hl : LFit l) (hc : CFit c) (hti : (Lit.int .i64 t).wf = true) (hai : (Lit.int .i64 a).wf = true) (hdi : (Lit.int .i64 dr).wf = true) (hki : (Lit.int .i64 ky).wf = true) (hei : (Lit.int .i64 er).wf = true) (ht : Tab w) :
  Calls Tryz.prog 3 #[.agg (l.cells A n p B m q).toArray, .agg c.cells.toArray, .int .i64 t, .int .i64 a, .int .i64 dr, .int .i64 ky, .int .i64 er, .bool on] w fun e w' => e = .returned (.bool true) ∧ Below w.heap.size w w' := by
 clear hti hai hdi hki hei
 obtain ⟨w0, hw0⟩ : ∃ W, (w.alloc (.cells (l.cells A n p B m q).toArray 28)).alloc (.cells c.cells.toArray 32) = W := ⟨_, rfl⟩
 have bb0 : Below w.heap.size w w0 := by rw [← hw0]; exact ((Below.refl _ _).alloc (Nat.le_refl _) _).alloc (by simp) _
 have k0 : Blk w0 w.heap.size (l.cells A n p B m q).toArray := by rw [← hw0]; exact (blk_new rfl).alloc _
 have g0 : Blk w0 (w.heap.size + 1) c.cells.toArray := by rw [← hw0]; exact blk_new (by simp)
 have s0 : w0.heap.size = w.heap.size + 2 := by rw [← hw0]; simp
 have t0 := ht.below bb0
 have q1 := head37_any w0 t0
 have lq := hx.room; have lm := hx.max; have lq' := hy.room; have lm' := hy.max
 have q2 := fun W => rlfew_any l A n p B m q W (by omega) (by omega)
 cases hF : (len40B n && len40B m) with
 | false =>
  rw [hF] at q2
  unfold Lk.cells at k0 hw0 q2 ⊢
  unfold Crd.cells at g0 hw0 ⊢
  have ⟨H_bb0, H_k0, H_g0, H_hw0, H_q1, H_q2, H_t0, H_hx⟩ := hid8 bb0 k0 g0 hw0 q1 q2 t0 hx; clear bb0 k0 g0 hw0 q1 q2 t0 hx; have ⟨H_hy, H_hl, H_hc, H_ht, H_lq, H_lm, H_lq', H_lm'⟩ := hid8 hy hl hc ht lq lm lq' lm'; clear hy hl hc ht lq lm lq' lm'; have ⟨H_hF, H_s0⟩ := hid2 hF s0; clear hF s0
  go_enter Tryz.func3, Tryz.ntmps3
  go_wp2_with fail
  rw [H_hw0.out]
  go_wp2_with fail
  (with_reducible refine (H_q1.out).mono ?_)
  rintro e w1 ⟨rfl, b1⟩
  have c1 : Below w0.heap.size w0 w1 := Below.trans belt (b1.mono omh)
  have s1 := c1.size
  have bb1 := H_bb0.out.trans (c1.mono H_bb0.out.size)
  have t1 := H_t0.out.below c1
  have k1 := H_k0.out.below c1
  have g1 := H_g0.out.below c1
  have ⟨H_b1, H_c1, H_bb1, H_t1, H_k1, H_g1⟩ := hid6 b1 c1 bb1 t1 k1 g1; clear b1 c1 bb1 t1 k1 g1
  obtain ⟨y0, y1, y2, y3, y4, y5, y6, y7, y8, y9, y10, y11⟩ := at12_of H_k1.out
  go_wp2_with fail
  (with_reducible refine (H_q2.out _).mono ?_)
  rintro e w2 ⟨rfl, b2⟩
  have c2 : Below w1.heap.size w1 w2 := Below.trans belt (b2.mono omh)
  have s2 := c2.size
  have bb2 := H_bb1.out.trans (c2.mono H_bb1.out.size)
  have ⟨H_b2, H_c2, H_bb2⟩ := hid3 b2 c2 bb2; clear b2 c2 bb2
  clear y0 y1 y2 y3 y4 y5 y6 y7 y8 y9 y10 y11
  go_wp2_with fail
  go_ret
  exact ⟨rfl, H_bb2.out⟩
 | true =>
  rw [hF] at q2
  have hF2 := hF
  simp only [Bool.and_eq_true, len40B, decide_eq_true_eq] at hF2
  obtain ⟨n40, m40⟩ := hF2
  have sf := hx.sfit n40
  have sg := hy.sfit m40
  have sx := hx.is n40
  have sy := hy.is m40
  have en := hx.len
  have em := hy.len
  clear lq lm lq' lm' hF n40 m40 hx hy
  subst en em
  have ia := sx.ints
  have ib := sy.ints
  have nf := nw_fit dr ky er
  have pf := pwl_fit l on sf.few sg.few
  have zf := sh_fit (l := l) (t := t) (a := a) hc sf sg
  have q3 := fun W (h : Tab W) => lnew_any dr ky er W h
  have q4 := fun W => rlnew_any dr ky er W
  have q5 := fun W (h : Below w.heap.size w W) => lvalid_any l A l.x.l.length p B l.y.l.length q W (sx.below h) (sy.below h) (ht.below h)
  have q6 := fun W (h : Below w.heap.size w W) => rlvalid_any l A l.x.l.length p B l.y.l.length q W (sx.below h) (sy.below h)
  have q8 := fun W (h : Below w.heap.size w W) => show_any l c t a A l.x.l.length p B l.y.l.length q W (sx.below h) (sy.below h) (ht.below h) hc
  have q9 := fun W (h : Below w.heap.size w W) => rshow_any l c t a A l.x.l.length p B l.y.l.length q W (sx.below h) (sy.below h) hc
  have q11 := fun W (h : Below w.heap.size w W) => lpower_any l on A l.x.l.length p B l.y.l.length q W (sx.below h) (sy.below h) (ht.below h)
  have q12 := fun W (h : Below w.heap.size w W) => rlpower_any l on A l.x.l.length p B l.y.l.length q W (sx.below h) (sy.below h)
  have q7 := fun W A p B r A' p' B' r' => rlsame_self (nwR dr ky er) A _ p B _ r A' p' B' r' rfl rfl (by omega) (by omega) W
  have q10 := fun W A p B r A' p' B' r' => rlsame_self (shR l c t a) A _ p B _ r A' p' B' r' rfl rfl (by have := zf.1.few; omega) (by have := zf.2.few; omega) W
  have q13 := fun W A p B r A' p' B' r' => rlsame_self (pwR l on) A _ p B _ r A' p' B' r' rfl rfl (by omega) (by omega) W
  clear nf pf zf sf sg
  generalize lvB l = V at *
  generalize nwR dr ky er = NW at *
  generalize nwE dr ky er = NE at *
  generalize shR l c t a = Z at *
  generalize shO l c t a = OZ at *
  generalize shE l c t a = EZ at *
  generalize pwR l on = PW at *
  generalize pwE l = PE at *
  have i1 : (V == V) = true := by simp
  have i2 : (NE == NE) = true := by simp
  have i3 : (EZ == EZ) = true := by simp
  have i4 : (OZ == OZ) = true := by simp
  have i5 : (PE == PE) = true := by simp
  unfold LockErr Lk.cells at q3 q4 q11 q12
  unfold ShowPost Lk.cells Crd.cells at q8 q9
  unfold Lk.cells at k0 hw0 q2 q5 q6 q7 q10 q13 ⊢
  unfold Crd.cells at g0 hw0 ⊢
  have ⟨H_bb0, H_k0, H_g0, H_hw0, H_q1, H_q2, H_q3, H_q4⟩ := hid8 bb0 k0 g0 hw0 q1 q2 q3 q4; clear bb0 k0 g0 hw0 q1 q2 q3 q4; have ⟨H_q5, H_q6, H_q7, H_q8, H_q9, H_q10, H_q11, H_q12⟩ := hid8 q5 q6 q7 q8 q9 q10 q11 q12; clear q5 q6 q7 q8 q9 q10 q11 q12; have ⟨H_q13, H_t0, H_hl, H_hc, H_ht, H_sx, H_sy, H_ia⟩ := hid8 q13 t0 hl hc ht sx sy ia; clear q13 t0 hl hc ht sx sy ia; have ⟨H_ib, H_s0⟩ := hid2 ib s0; clear ib s0
  go_enter Tryz.func3, Tryz.ntmps3
  go_wp2_with fail
  rw [H_hw0.out]
  go_wp2_with fail
  (with_reducible refine (H_q1.out).mono ?_)
  rintro e w1 ⟨rfl, b1⟩
  have c1 : Below w0.heap.size w0 w1 := Below.trans belt (b1.mono omh)
  have s1 := c1.size
  have bb1 := H_bb0.out.trans (c1.mono H_bb0.out.size)
  have t1 := H_t0.out.below c1
  have k1 := H_k0.out.below c1
  have g1 := H_g0.out.below c1
  have ⟨H_b1, H_c1, H_bb1, H_t1, H_k1, H_g1⟩ := hid6 b1 c1 bb1 t1 k1 g1; clear b1 c1 bb1 t1 k1 g1
  obtain ⟨y0, y1, y2, y3, y4, y5, y6, y7, y8, y9, y10, y11⟩ := at12_of H_k1.out
  go_wp2_with fail
  (with_reducible refine (H_q2.out _).mono ?_)
  rintro e w2 ⟨rfl, b2⟩
  have c2 : Below w1.heap.size w1 w2 := Below.trans belt (b2.mono omh)
  have s2 := c2.size
  have bb2 := H_bb1.out.trans (c2.mono H_bb1.out.size)
  have t2 := H_t1.out.below c2
  have k2 := H_k1.out.below c2
  have g2 := H_g1.out.below c2
  have ⟨H_b2, H_c2, H_bb2, H_t2, H_k2, H_g2⟩ := hid6 b2 c2 bb2 t2 k2 g2; clear b2 c2 bb2 t2 k2 g2
  clear y0 y1 y2 y3 y4 y5 y6 y7 y8 y9 y10 y11
  go_wp2_with fail
  (with_reducible refine (H_q3.out _ ?_).mono ?_)
  ·exact H_t2.out.below (show Below w2.heap.size w2 _ from belt)
  rintro e w3 ⟨A3, p3, B3, r3, rfl, pa3, pb3, b3⟩
  have c3 : Below w2.heap.size w2 w3 := Below.trans belt (b3.mono omh)
  have s3 := c3.size
  have bb3 := H_bb2.out.trans (c3.mono H_bb2.out.size)
  have t3 := H_t2.out.below c3
  have k3 := H_k2.out.below c3
  have g3 := H_g2.out.below c3
  have ⟨H_b3, H_c3, H_bb3, H_t3, H_k3, H_g3⟩ := hid6 b3 c3 bb3 t3 k3 g3; clear b3 c3 bb3 t3 k3 g3
  have ea3 := pa3.1
  have eb3 := pb3.1
  clear pa3 pb3
  have ⟨H_ea3, H_eb3⟩ := hid2 ea3 eb3; clear ea3 eb3
  go_wp2_with fail
  (with_reducible refine (H_q4.out _).mono ?_)
  rintro e w4 ⟨A4, p4, B4, r4, rfl, pa4, pb4, b4⟩
  have c4 : Below w3.heap.size w3 w4 := Below.trans belt (b4.mono omh)
  have s4 := c4.size
  have bb4 := H_bb3.out.trans (c4.mono H_bb3.out.size)
  have t4 := H_t3.out.below c4
  have k4 := H_k3.out.below c4
  have g4 := H_g3.out.below c4
  have ea4 := H_ea3.out.below c4
  have eb4 := H_eb3.out.below c4
  have ⟨H_b4, H_c4, H_bb4, H_t4, H_k4, H_g4, H_ea4, H_eb4⟩ := hid8 b4 c4 bb4 t4 k4 g4 ea4 eb4; clear b4 c4 bb4 t4 k4 g4 ea4 eb4
  have d4 : Blk w4 w3.heap.size #[.int .i64 NW.d, .int .i64 NW.k, .int .i64 NW.r, .int .i64 NW.x.s, .int .i64 NW.x.c, .slice A3 NW.x.l.length p3, .int .u64 NW.x.u, .int .i64 NW.y.s, .int .i64 NW.y.c, .slice B3 NW.y.l.length r3, .int .u64 NW.y.u, .bool NW.up] := (blk_new rfl).below H_b4.out
  have fa4 := pa4.1
  have fb4 := pb4.1
  clear pa4 pb4
  have ⟨H_fa4, H_fb4, H_d4⟩ := hid3 fa4 fb4 d4; clear fa4 fb4 d4
  have s1 := H_bb3.out.size
  have s2 := H_c4.out.size
  go_upto_region 6 with (fail)
  obtain ⟨w5, hw5⟩ : ∃ W, w4.alloc (.cells #[.int .i64 NW.d, .int .i64 NW.k, .int .i64 NW.r, .int .i64 NW.x.s, .int .i64 NW.x.c, .slice A4 NW.x.l.length p4, .int .u64 NW.x.u, .int .i64 NW.y.s, .int .i64 NW.y.c, .slice B4 NW.y.l.length r4, .int .u64 NW.y.u, .bool NW.up] 28) = W := ⟨_, rfl⟩
  rw [hw5]
  have c5 : Below w4.heap.size w4 w5 := by rw [← hw5]; exact (Below.refl _ _).alloc (Nat.le_refl _) _
  have j5 : Blk w5 w4.heap.size #[.int .i64 NW.d, .int .i64 NW.k, .int .i64 NW.r, .int .i64 NW.x.s, .int .i64 NW.x.c, .slice A4 NW.x.l.length p4, .int .u64 NW.x.u, .int .i64 NW.y.s, .int .i64 NW.y.c, .slice B4 NW.y.l.length r4, .int .u64 NW.y.u, .bool NW.up] := by rw [← hw5]; exact blk_new rfl
  have bb5 := H_bb4.out.trans (c5.mono H_bb4.out.size)
  have t5 := H_t4.out.below c5
  have k5 := H_k4.out.below c5
  have g5 := H_g4.out.below c5
  have d5 := H_d4.out.below c5
  have ea5 := H_ea4.out.below c5
  have eb5 := H_eb4.out.below c5
  have fa5 := H_fa4.out.below c5
  have fb5 := H_fb4.out.below c5
  have la := (d5 0 _ rfl).lt
  have lb := (j5 0 _ rfl).lt
  have lk := (k5 0 _ rfl).lt
  have lc := (g5 0 _ rfl).lt
  have s34 : w3.heap.size < w4.heap.size := (H_d4.out 0 _ rfl).lt
  have hs2 : w.heap.size + 2 ≤ w3.heap.size := by
   have e := H_s0.out
   have x1 := H_c1.out.size
   have x2 := H_c2.out.size
   have x3 := H_c3.out.size
   omega
  have ⟨H_hw5, H_c5, H_j5, H_bb5, H_t5, H_k5, H_g5, H_d5⟩ := hid8 hw5 c5 j5 bb5 t5 k5 g5 d5; clear hw5 c5 j5 bb5 t5 k5 g5 d5; have ⟨H_ea5, H_eb5, H_fa5, H_fb5⟩ := hid4 ea5 eb5 fa5 fb5; clear ea5 eb5 fa5 fb5
  obtain ⟨y0, y1, y2, y3, y4, y5, y6, y7, y8, y9, y10, y11⟩ := at12x H_k5.out
  obtain ⟨v0, v1, v2, v3, v4, v5, v6, v7, v8, v9, v10, v11⟩ := at12x H_d5.out
  obtain ⟨u0, u1, u2, u3, u4, u5, u6, u7, u8, u9, u10, u11⟩ := at12x H_j5.out
  go_cut [17] from 43 to 60 (fun c17 wx => c17 = .bool true ∧ Below w5.heap.size w5 wx)
  case first =>
   refine wp_region_held_drew (S := (fun W => (∀ b o, b < w5.heap.size → W.cell? ⟨b, o, none⟩ = w5.cell? ⟨b, o, none⟩) ∧ Below w5.heap.size w5 W)) (by kernel_rfl) ?_ (fun hHeld => ?_)
   ·(try dsimp only); (first | (refine ext_mk ?_; exact belt))
   refine take_at (i := 0) (some 43) rfl rfl (by kernel_rfl) (fun _ _ _ h => h) (by rfl) (v := ?_) ?_ (by assumption) ?_
   rotate_left
   ·intro W hSw; (try dsimp only at hSw); go_simp; (try with_reducible rfl)
   (try simp only [apz])
   refine take_at (i := 1) (some 44) rfl rfl (by kernel_rfl) (fun _ _ _ h => h) (by rfl) (v := ?_) ?_ (by assumption) ?_
   rotate_left
   ·intro W hSw; (try dsimp only at hSw); go_simp; (try with_reducible rfl)
   (try simp only [apz])
   refine take_at (i := 2) (some 45) rfl rfl (by kernel_rfl) (fun _ _ _ h => h) (by rfl) (v := ?_) ?_ (by assumption) ?_
   rotate_left
   ·intro W hSw; (try dsimp only at hSw); go_simp; (try with_reducible rfl)
   (try simp only [apz])
   refine take_at (i := 4) (some 47) rfl rfl (by kernel_rfl) (fun _ _ _ h => h) (by rfl) (v := ?_) ?_ (by assumption) ?_
   rotate_left
   ·intro W hSw; (try dsimp only at hSw); go_simp; (try with_reducible rfl)
   (try simp only [apz])
   refine wpAnyH_ready (rs := [3]) (by kernel_rfl) (by simp) ?_
   refine AllReadyH.cons rfl (fun K hK => ?_) AllReadyH.nil
   go_simp
   (first | (go_at_call 10; (with_reducible refine (H_q5.out _ ?_).mono ?_); (focus (exact H_bb5.out.trans ((And.right (by assumption : _ ∧ Below w5.heap.size w5 _)).mono H_bb5.out.size))); rintro e w6 ⟨rfl, hbw6⟩; have gw6 := Below.trans (And.right (by assumption : _ ∧ Below w5.heap.size w5 _)) (hbw6.mono (Below.size (And.right (by assumption : _ ∧ Below w5.heap.size w5 _)))); have gsw6 := gw6.size; have hcf := bcell hbw6; have hcw6 := hcf.1; have hfw6 := hcf.2; have hsw6 := hbw6.size; (try simp only [World.size_alloc, World.heap_drewN, heap_drew] at hsw6); clear hbw6 hcf; (try have hzw6 : w5.heap.size < w6.heap.size := by omega)) | (go_at_call 11; (with_reducible refine (H_q6.out _ ?_).mono ?_); (focus (exact H_bb5.out.trans ((And.right (by assumption : _ ∧ Below w5.heap.size w5 _)).mono H_bb5.out.size))); rintro e w7 ⟨rfl, hbw7⟩; have gw7 := Below.trans (And.right (by assumption : _ ∧ Below w5.heap.size w5 _)) (hbw7.mono (Below.size (And.right (by assumption : _ ∧ Below w5.heap.size w5 _)))); have gsw7 := gw7.size; have hcf := bcell hbw7; have hcw7 := hcf.1; have hfw7 := hcf.2; have hsw7 := hbw7.size; (try simp only [World.size_alloc, World.heap_drewN, heap_drew] at hsw7); clear hbw7 hcf; (try have hzw7 : w5.heap.size < w7.heap.size := by omega)) | (go_at_call 12; (with_reducible refine (H_q7.out _ A3 p3 B3 r3 A4 p4 B4 r4 ?_ ?_ ?_ ?_).mono ?_); (focus (exact H_ea5.out.below (And.right (by assumption : _ ∧ Below w5.heap.size w5 _)))); (focus (exact H_eb5.out.below (And.right (by assumption : _ ∧ Below w5.heap.size w5 _)))); (focus (exact H_fa5.out.below (And.right (by assumption : _ ∧ Below w5.heap.size w5 _)))); (focus (exact H_fb5.out.below (And.right (by assumption : _ ∧ Below w5.heap.size w5 _)))); rintro e w8 ⟨rfl, hbw8⟩; have gw8 := Below.trans (And.right (by assumption : _ ∧ Below w5.heap.size w5 _)) (hbw8.mono (Below.size (And.right (by assumption : _ ∧ Below w5.heap.size w5 _)))); have gsw8 := gw8.size; have hcf := bcell hbw8; have hcw8 := hcf.1; have hfw8 := hcf.2; have hsw8 := hbw8.size; (try simp only [World.size_alloc, World.heap_drewN, heap_drew] at hsw8); clear hbw8 hcf; (try have hzw8 : w5.heap.size < w8.heap.size := by omega)))
   refine hK.out _ _ ?_ (fun hHeld => ?_)
   ·(try dsimp only); (first | (refine ext_mk ?_; exact belt))
   clear hK K
   (try simp only [apz])
   refine wpAnyH_ready (rs := [5]) (by kernel_rfl) (by simp) ?_
   refine AllReadyH.cons rfl (fun K hK => ?_) AllReadyH.nil
   go_simp
   (first | (go_at_call 10; (with_reducible refine (H_q5.out _ ?_).mono ?_); (focus (exact H_bb5.out.trans ((And.right (by assumption : _ ∧ Below w5.heap.size w5 _)).mono H_bb5.out.size))); rintro e w6 ⟨rfl, hbw6⟩; have gw6 := Below.trans (And.right (by assumption : _ ∧ Below w5.heap.size w5 _)) (hbw6.mono (Below.size (And.right (by assumption : _ ∧ Below w5.heap.size w5 _)))); have gsw6 := gw6.size; have hcf := bcell hbw6; have hcw6 := hcf.1; have hfw6 := hcf.2; have hsw6 := hbw6.size; (try simp only [World.size_alloc, World.heap_drewN, heap_drew] at hsw6); clear hbw6 hcf; (try have hzw6 : w5.heap.size < w6.heap.size := by omega)) | (go_at_call 11; (with_reducible refine (H_q6.out _ ?_).mono ?_); (focus (exact H_bb5.out.trans ((And.right (by assumption : _ ∧ Below w5.heap.size w5 _)).mono H_bb5.out.size))); rintro e w7 ⟨rfl, hbw7⟩; have gw7 := Below.trans (And.right (by assumption : _ ∧ Below w5.heap.size w5 _)) (hbw7.mono (Below.size (And.right (by assumption : _ ∧ Below w5.heap.size w5 _)))); have gsw7 := gw7.size; have hcf := bcell hbw7; have hcw7 := hcf.1; have hfw7 := hcf.2; have hsw7 := hbw7.size; (try simp only [World.size_alloc, World.heap_drewN, heap_drew] at hsw7); clear hbw7 hcf; (try have hzw7 : w5.heap.size < w7.heap.size := by omega)) | (go_at_call 12; (with_reducible refine (H_q7.out _ A3 p3 B3 r3 A4 p4 B4 r4 ?_ ?_ ?_ ?_).mono ?_); (focus (exact H_ea5.out.below (And.right (by assumption : _ ∧ Below w5.heap.size w5 _)))); (focus (exact H_eb5.out.below (And.right (by assumption : _ ∧ Below w5.heap.size w5 _)))); (focus (exact H_fa5.out.below (And.right (by assumption : _ ∧ Below w5.heap.size w5 _)))); (focus (exact H_fb5.out.below (And.right (by assumption : _ ∧ Below w5.heap.size w5 _)))); rintro e w8 ⟨rfl, hbw8⟩; have gw8 := Below.trans (And.right (by assumption : _ ∧ Below w5.heap.size w5 _)) (hbw8.mono (Below.size (And.right (by assumption : _ ∧ Below w5.heap.size w5 _)))); have gsw8 := gw8.size; have hcf := bcell hbw8; have hcw8 := hcf.1; have hfw8 := hcf.2; have hsw8 := hbw8.size; (try simp only [World.size_alloc, World.heap_drewN, heap_drew] at hsw8); clear hbw8 hcf; (try have hzw8 : w5.heap.size < w8.heap.size := by omega)))
   refine hK.out _ _ ?_ (fun hHeld => ?_)
   ·(try dsimp only); (first | (refine ext_mk ?_; exact belt))
   clear hK K
   (try simp only [apz])
   refine take_at (i := 6) (some 49) rfl rfl (by kernel_rfl) (fun _ _ _ h => h) (by rfl) (v := ?_) ?_ (by assumption) ?_
   rotate_left
   ·intro W hSw; (try dsimp only at hSw); go_simp; (try with_reducible rfl)
   (try simp only [apz])
   refine take_at (i := 7) (some 50) rfl rfl (by kernel_rfl) (fun _ _ _ h => h) (by rfl) (v := ?_) ?_ (by assumption) ?_
   rotate_left
   ·intro W hSw; (try dsimp only at hSw); go_simp; (try with_reducible rfl)
   (try simp only [apz])
   refine take_at (i := 8) (some 51) rfl rfl (by kernel_rfl) (fun _ _ _ h => h) (by rfl) (v := ?_) ?_ (by assumption) ?_
   rotate_left
   ·intro W hSw; (try dsimp only at hSw); go_simp; (try with_reducible rfl)
   (try simp only [apz])
   refine take_at (i := 9) (some 52) rfl rfl (by kernel_rfl) (fun _ _ _ h => h) (by rfl) (v := ?_) ?_ (by assumption) ?_
   rotate_left
   ·intro W hSw; (try dsimp only at hSw); go_simp; (try with_reducible rfl)
   (try simp only [apz])
   refine take_at (i := 10) (some 53) rfl rfl (by kernel_rfl) (fun _ _ _ h => h) (by rfl) (v := ?_) ?_ (by assumption) ?_
   rotate_left
   ·intro W hSw; (try dsimp only at hSw); go_simp; (try with_reducible rfl)
   (try simp only [apz])
   refine wpAnyH_ready (rs := [11]) (by kernel_rfl) (by simp) ?_
   refine AllReadyH.cons rfl (fun K hK => ?_) AllReadyH.nil
   go_simp
   (first | (go_at_call 10; (with_reducible refine (H_q5.out _ ?_).mono ?_); (focus (exact H_bb5.out.trans ((And.right (by assumption : _ ∧ Below w5.heap.size w5 _)).mono H_bb5.out.size))); rintro e w6 ⟨rfl, hbw6⟩; have gw6 := Below.trans (And.right (by assumption : _ ∧ Below w5.heap.size w5 _)) (hbw6.mono (Below.size (And.right (by assumption : _ ∧ Below w5.heap.size w5 _)))); have gsw6 := gw6.size; have hcf := bcell hbw6; have hcw6 := hcf.1; have hfw6 := hcf.2; have hsw6 := hbw6.size; (try simp only [World.size_alloc, World.heap_drewN, heap_drew] at hsw6); clear hbw6 hcf; (try have hzw6 : w5.heap.size < w6.heap.size := by omega)) | (go_at_call 11; (with_reducible refine (H_q6.out _ ?_).mono ?_); (focus (exact H_bb5.out.trans ((And.right (by assumption : _ ∧ Below w5.heap.size w5 _)).mono H_bb5.out.size))); rintro e w7 ⟨rfl, hbw7⟩; have gw7 := Below.trans (And.right (by assumption : _ ∧ Below w5.heap.size w5 _)) (hbw7.mono (Below.size (And.right (by assumption : _ ∧ Below w5.heap.size w5 _)))); have gsw7 := gw7.size; have hcf := bcell hbw7; have hcw7 := hcf.1; have hfw7 := hcf.2; have hsw7 := hbw7.size; (try simp only [World.size_alloc, World.heap_drewN, heap_drew] at hsw7); clear hbw7 hcf; (try have hzw7 : w5.heap.size < w7.heap.size := by omega)) | (go_at_call 12; (with_reducible refine (H_q7.out _ A3 p3 B3 r3 A4 p4 B4 r4 ?_ ?_ ?_ ?_).mono ?_); (focus (exact H_ea5.out.below (And.right (by assumption : _ ∧ Below w5.heap.size w5 _)))); (focus (exact H_eb5.out.below (And.right (by assumption : _ ∧ Below w5.heap.size w5 _)))); (focus (exact H_fa5.out.below (And.right (by assumption : _ ∧ Below w5.heap.size w5 _)))); (focus (exact H_fb5.out.below (And.right (by assumption : _ ∧ Below w5.heap.size w5 _)))); rintro e w8 ⟨rfl, hbw8⟩; have gw8 := Below.trans (And.right (by assumption : _ ∧ Below w5.heap.size w5 _)) (hbw8.mono (Below.size (And.right (by assumption : _ ∧ Below w5.heap.size w5 _)))); have gsw8 := gw8.size; have hcf := bcell hbw8; have hcw8 := hcf.1; have hfw8 := hcf.2; have hsw8 := hbw8.size; (try simp only [World.size_alloc, World.heap_drewN, heap_drew] at hsw8); clear hbw8 hcf; (try have hzw8 : w5.heap.size < w8.heap.size := by omega)))
   refine hK.out _ _ ?_ (fun hHeld => ?_)
   ·(try dsimp only); (first | (refine ext_mk ?_; exact belt))
   clear hK K
   (try simp only [apz])
   refine take_at (i := 12) (some 55) rfl rfl (by kernel_rfl) (fun _ _ _ h => h) (by rfl) (v := ?_) ?_ (by assumption) ?_
   rotate_left
   ·intro W hSw; (try dsimp only at hSw); go_simp; (try with_reducible rfl)
   (try simp only [apz])
   refine take_at (i := 13) (some 56) rfl rfl (by kernel_rfl) (fun _ _ _ h => h) (by rfl) (v := ?_) ?_ (by assumption) ?_
   rotate_left
   ·intro W hSw; (try dsimp only at hSw); go_simp; (try with_reducible rfl)
   (try simp only [apz])
   refine take_at (i := 14) (some 57) rfl rfl (by kernel_rfl) (fun _ _ _ h => h) (by rfl) (v := ?_) ?_ (by assumption) ?_
   rotate_left
   ·intro W hSw; (try dsimp only at hSw); go_simp; (try with_reducible rfl)
   (try simp only [apz])
   refine take_at (i := 15) (some 58) rfl rfl (by kernel_rfl) (fun _ _ _ h => h) (by rfl) (v := ?_) ?_ (by assumption) ?_
   rotate_left
   ·intro W hSw; (try dsimp only at hSw); go_simp; (try with_reducible rfl)
   (try simp only [apz])
   refine take_at (i := 16) (some 59) rfl rfl (by kernel_rfl) (fun _ _ _ h => h) (by rfl) (v := ?_) ?_ (by assumption) ?_
   rotate_left
   ·intro W hSw; (try dsimp only at hSw); go_simp; (try with_reducible rfl)
   (try simp only [apz])
   refine take_at (i := 17) (some 60) rfl rfl (by kernel_rfl) (fun _ _ _ h => h) (by rfl) (v := ?_) ?_ (by assumption) ?_
   rotate_left
   ·intro W hSw; (try dsimp only at hSw); go_simp; (try with_reducible rfl)
   (try simp only [apz])
   refine take_at (i := 18) (some 17) rfl rfl (by kernel_rfl) (fun _ _ _ h => h) (by rfl) (v := ?_) ?_ (by assumption) ?_
   rotate_left
   ·intro W hSw; (try dsimp only at hSw); go_simp; (try with_reducible rfl)
   (try simp only [apz])
   refine wpAnyH_done (by kernel_rfl) ?_ _
   have gF : Below w5.heap.size w5 _ := And.right (by assumption)
   have H_gF := Lib.hid gF; clear gF
   go_wp2_with fail
   go_meet
   case rel => exact ⟨rfl, H_gF.out⟩
  case rest =>
   obtain ⟨rfl, c6⟩ := hcut
   obtain ⟨w6, hw6⟩ : ∃ W, wc = W := ⟨_, rfl⟩
   rw [hw6] at c6 ⊢
   have s6 := c6.size
   have bb6 := H_bb5.out.trans (c6.mono H_bb5.out.size)
   have t6 := H_t5.out.below c6
   have k6 := H_k5.out.below c6
   have g6 := H_g5.out.below c6
   have d6 := H_d5.out.below c6
   have j6 := H_j5.out.below c6
   clear y0 y1 y2 y3 y4 y5 y6 y7 y8 y9 y10 y11
   clear v0 v1 v2 v3 v4 v5 v6 v7 v8 v9 v10 v11
   clear u0 u1 u2 u3 u4 u5 u6 u7 u8 u9 u10 u11
   have la6 : w3.heap.size < w6.heap.size := by omega
   have lb6 : w4.heap.size < w6.heap.size := by omega
   have lk6 : w.heap.size < w6.heap.size := by omega
   have lc6 : w.heap.size + 1 < w6.heap.size := by omega
   have ⟨H_hw6, H_c6, H_bb6, H_t6, H_k6, H_g6, H_d6, H_j6⟩ := hid8 hw6 c6 bb6 t6 k6 g6 d6 j6; clear hw6 c6 bb6 t6 k6 g6 d6 j6
   obtain ⟨y0, y1, y2, y3, y4, y5, y6, y7, y8, y9, y10, y11⟩ := at12_of H_k6.out
   obtain ⟨z0, z1, z2, z3, z4, z5, z6, z7, z8⟩ := at9_of H_g6.out
   go_wp2_with fail
   (with_reducible refine (H_q8.out _ ?_).mono ?_)
   ·exact H_bb6.out.trans ((show Below w6.heap.size w6 _ from belt).mono H_bb6.out.size)
   rintro e w7 ⟨A7, p7, B7, r7, rfl, pa7, pb7, b7⟩
   have c7 : Below w6.heap.size w6 w7 := Below.trans belt (b7.mono omh)
   have s7 := c7.size
   have bb7 := H_bb6.out.trans (c7.mono H_bb6.out.size)
   have k7 := H_k6.out.below c7
   have g7 := H_g6.out.below c7
   have d7 := H_d6.out.below c7
   have j7 := H_j6.out.below c7
   have t7 := H_t6.out.below c7
   have ⟨H_b7, H_c7, H_bb7, H_k7, H_g7, H_d7, H_j7, H_t7⟩ := hid8 b7 c7 bb7 k7 g7 d7 j7 t7; clear b7 c7 bb7 k7 g7 d7 j7 t7
   clear y0 y1 y2 y3 y4 y5 y6 y7 y8 y9 y10 y11
   clear z0 z1 z2 z3 z4 z5 z6 z7 z8
   have sP7 := H_c7.out.size
   have na7 := pa7.set H_ia.out (b := w3.heap.size) (by omega) (by first | omega | (simp; omega))
   have nb7 := pb7.set H_ib.out (b := w3.heap.size) (by omega) (by first | omega | (simp; omega))
   have ma7 := pa7.set H_ia.out (b := w4.heap.size) (by omega) (by first | omega | (simp; omega))
   have mb7 := pb7.set H_ib.out (b := w4.heap.size) (by omega) (by first | omega | (simp; omega))
   obtain ⟨w8, hw8⟩ : ∃ W, putL w7 w3.heap.size 0 [.int .i64 Z.d, .int .i64 Z.k, .int .i64 Z.r, .int .i64 Z.x.s, .int .i64 Z.x.c, .slice A7 Z.x.l.length p7, .int .u64 Z.x.u, .int .i64 Z.y.s, .int .i64 Z.y.c, .slice B7 Z.y.l.length r7, .int .u64 Z.y.u, .bool Z.up] = W := ⟨_, rfl⟩
   have d8 : Blk w8 w3.heap.size #[.int .i64 Z.d, .int .i64 Z.k, .int .i64 Z.r, .int .i64 Z.x.s, .int .i64 Z.x.c, .slice A7 Z.x.l.length p7, .int .u64 Z.x.u, .int .i64 Z.y.s, .int .i64 Z.y.c, .slice B7 Z.y.l.length r7, .int .u64 Z.y.u, .bool Z.up] := by rw [← hw8]; exact putL_blk H_d7.out _ (by simp)
   have k8 := H_k7.out
   have k8 := putL_far (b := w3.heap.size) k8 (by omega) 0 [.int .i64 Z.d, .int .i64 Z.k, .int .i64 Z.r, .int .i64 Z.x.s, .int .i64 Z.x.c, .slice A7 Z.x.l.length p7, .int .u64 Z.x.u, .int .i64 Z.y.s, .int .i64 Z.y.c, .slice B7 Z.y.l.length r7, .int .u64 Z.y.u, .bool Z.up]
   have g8 := H_g7.out
   have g8 := putL_far (b := w3.heap.size) g8 (by omega) 0 [.int .i64 Z.d, .int .i64 Z.k, .int .i64 Z.r, .int .i64 Z.x.s, .int .i64 Z.x.c, .slice A7 Z.x.l.length p7, .int .u64 Z.x.u, .int .i64 Z.y.s, .int .i64 Z.y.c, .slice B7 Z.y.l.length r7, .int .u64 Z.y.u, .bool Z.up]
   have j8 := H_j7.out
   have j8 := putL_far (b := w3.heap.size) j8 (by omega) 0 [.int .i64 Z.d, .int .i64 Z.k, .int .i64 Z.r, .int .i64 Z.x.s, .int .i64 Z.x.c, .slice A7 Z.x.l.length p7, .int .u64 Z.x.u, .int .i64 Z.y.s, .int .i64 Z.y.c, .slice B7 Z.y.l.length r7, .int .u64 Z.y.u, .bool Z.up]
   rw [hw8] at k8 g8 j8
   have bb8 : Below w.heap.size w w8 := by rw [← hw8]; exact putL_below (by omega) _ _ _ H_bb7.out
   have t8 := H_ht.out.below bb8
   have aa8 : IntsAt w8 A7 .i64 Z.x.l := by rw [← hw8]; exact putL_ints na7 _ _ _ pa7.1
   have ab8 : IntsAt w8 B7 .i64 Z.y.l := by rw [← hw8]; exact putL_ints nb7 _ _ _ pb7.1
   have oa7 := ma7
   have ob7 := mb7
   have sz8 : w8.heap.size = w7.heap.size := by rw [← hw8]; exact putL_size _ _ _
   simp only [putL, Nat.reduceAdd] at hw8
   clear pa7 pb7 na7 nb7 ma7 mb7
   obtain ⟨fr0, fr1, fr2, fr3, fr4, fr5, fr6, fr7, fr8, fr9, fr10, fr11⟩ := free12_of H_d7.out
   obtain ⟨v0, v1, v2, v3, v4, v5, v6, v7, v8, v9, v10, v11⟩ := at12_of H_d7.out
   have ⟨H_k8, H_g8, H_d8, H_j8, H_t8, H_bb8, H_aa8, H_ab8⟩ := hid8 k8 g8 d8 j8 t8 bb8 aa8 ab8; clear k8 g8 d8 j8 t8 bb8 aa8 ab8; have ⟨H_oa7, H_ob7⟩ := hid2 oa7 ob7; clear oa7 ob7
   go_upto_region 8 with (fail)
   have H_hw8 := Lib.hid hw8; clear hw8
   clear fr0 fr1 fr2 fr3 fr4 fr5 fr6 fr7 fr8 fr9 fr10 fr11
   clear v0 v1 v2 v3 v4 v5 v6 v7 v8 v9 v10 v11
   obtain ⟨y0, y1, y2, y3, y4, y5, y6, y7, y8, y9, y10, y11⟩ := at12_of H_k8.out
   obtain ⟨z0, z1, z2, z3, z4, z5, z6, z7, z8⟩ := at9_of H_g8.out
   go_wp2_with fail
   (with_reducible refine (H_q9.out _ ?_).mono ?_)
   ·exact H_bb8.out.trans ((show Below w8.heap.size w8 _ from belt).mono H_bb8.out.size)
   rintro e w9 ⟨A9, p9, B9, r9, rfl, pa9, pb9, b9⟩
   have c9 : Below w8.heap.size w8 w9 := Below.trans belt (b9.mono omh)
   have s9 := c9.size
   have bb9 := H_bb8.out.trans (c9.mono H_bb8.out.size)
   have k9 := H_k8.out.below c9
   have g9 := H_g8.out.below c9
   have d9 := H_d8.out.below c9
   have j9 := H_j8.out.below c9
   have t9 := H_t8.out.below c9
   have aa9 := H_aa8.out.below c9
   have ab9 := H_ab8.out.below c9
   have ⟨H_b9, H_c9, H_bb9, H_k9, H_g9, H_d9, H_j9, H_t9⟩ := hid8 b9 c9 bb9 k9 g9 d9 j9 t9; clear b9 c9 bb9 k9 g9 d9 j9 t9; have ⟨H_aa9, H_ab9⟩ := hid2 aa9 ab9; clear aa9 ab9
   clear y0 y1 y2 y3 y4 y5 y6 y7 y8 y9 y10 y11
   clear z0 z1 z2 z3 z4 z5 z6 z7 z8
   have sP9 := H_c9.out.size
   have na9 := pa9.set H_ia.out (b := w3.heap.size) (by omega) (by first | omega | (simp; omega))
   have nb9 := pb9.set H_ib.out (b := w3.heap.size) (by omega) (by first | omega | (simp; omega))
   have ma9 := pa9.set H_ia.out (b := w4.heap.size) (by omega) (by first | omega | (simp; omega))
   have mb9 := pb9.set H_ib.out (b := w4.heap.size) (by omega) (by first | omega | (simp; omega))
   obtain ⟨w10, hw10⟩ : ∃ W, putL w9 w4.heap.size 0 [.int .i64 Z.d, .int .i64 Z.k, .int .i64 Z.r, .int .i64 Z.x.s, .int .i64 Z.x.c, .slice A9 Z.x.l.length p9, .int .u64 Z.x.u, .int .i64 Z.y.s, .int .i64 Z.y.c, .slice B9 Z.y.l.length r9, .int .u64 Z.y.u, .bool Z.up] = W := ⟨_, rfl⟩
   have j10 : Blk w10 w4.heap.size #[.int .i64 Z.d, .int .i64 Z.k, .int .i64 Z.r, .int .i64 Z.x.s, .int .i64 Z.x.c, .slice A9 Z.x.l.length p9, .int .u64 Z.x.u, .int .i64 Z.y.s, .int .i64 Z.y.c, .slice B9 Z.y.l.length r9, .int .u64 Z.y.u, .bool Z.up] := by rw [← hw10]; exact putL_blk H_j9.out _ (by simp)
   have k10 := H_k9.out
   have k10 := putL_far (b := w4.heap.size) k10 (by omega) 0 [.int .i64 Z.d, .int .i64 Z.k, .int .i64 Z.r, .int .i64 Z.x.s, .int .i64 Z.x.c, .slice A9 Z.x.l.length p9, .int .u64 Z.x.u, .int .i64 Z.y.s, .int .i64 Z.y.c, .slice B9 Z.y.l.length r9, .int .u64 Z.y.u, .bool Z.up]
   have g10 := H_g9.out
   have g10 := putL_far (b := w4.heap.size) g10 (by omega) 0 [.int .i64 Z.d, .int .i64 Z.k, .int .i64 Z.r, .int .i64 Z.x.s, .int .i64 Z.x.c, .slice A9 Z.x.l.length p9, .int .u64 Z.x.u, .int .i64 Z.y.s, .int .i64 Z.y.c, .slice B9 Z.y.l.length r9, .int .u64 Z.y.u, .bool Z.up]
   have d10 := H_d9.out
   have d10 := putL_far (b := w4.heap.size) d10 (by omega) 0 [.int .i64 Z.d, .int .i64 Z.k, .int .i64 Z.r, .int .i64 Z.x.s, .int .i64 Z.x.c, .slice A9 Z.x.l.length p9, .int .u64 Z.x.u, .int .i64 Z.y.s, .int .i64 Z.y.c, .slice B9 Z.y.l.length r9, .int .u64 Z.y.u, .bool Z.up]
   rw [hw10] at k10 g10 d10
   have bb10 : Below w.heap.size w w10 := by rw [← hw10]; exact putL_below (by omega) _ _ _ H_bb9.out
   have t10 := H_ht.out.below bb10
   have ba10 : IntsAt w10 A9 .i64 Z.x.l := by rw [← hw10]; exact putL_ints ma9 _ _ _ pa9.1
   have bb10' : IntsAt w10 B9 .i64 Z.y.l := by rw [← hw10]; exact putL_ints mb9 _ _ _ pb9.1
   have aa10 : IntsAt w10 A7 .i64 Z.x.l := by rw [← hw10]; exact putL_ints H_oa7.out _ _ _ H_aa9.out
   have ab10 : IntsAt w10 B7 .i64 Z.y.l := by rw [← hw10]; exact putL_ints H_ob7.out _ _ _ H_ab9.out
   have sz10 : w10.heap.size = w9.heap.size := by rw [← hw10]; exact putL_size _ _ _
   simp only [putL, Nat.reduceAdd] at hw10
   clear pa9 pb9 na9 nb9 ma9 mb9
   obtain ⟨fr0, fr1, fr2, fr3, fr4, fr5, fr6, fr7, fr8, fr9, fr10, fr11⟩ := free12_of H_j9.out
   obtain ⟨v0, v1, v2, v3, v4, v5, v6, v7, v8, v9, v10, v11⟩ := at12_of H_j9.out
   have ⟨H_k10, H_g10, H_d10, H_j10, H_t10, H_bb10, H_ba10, H_bb10'⟩ := hid8 k10 g10 d10 j10 t10 bb10 ba10 bb10'; clear k10 g10 d10 j10 t10 bb10 ba10 bb10'; have ⟨H_aa10, H_ab10⟩ := hid2 aa10 ab10; clear aa10 ab10
   go_upto_region 9 with (fail)
   have H_hw10 := Lib.hid hw10; clear hw10
   clear fr0 fr1 fr2 fr3 fr4 fr5 fr6 fr7 fr8 fr9 fr10 fr11
   clear v0 v1 v2 v3 v4 v5 v6 v7 v8 v9 v10 v11
   obtain ⟨v0, v1, v2, v3, v4, v5, v6, v7, v8, v9, v10, v11⟩ := at12_of H_d10.out
   obtain ⟨u0, u1, u2, u3, u4, u5, u6, u7, u8, u9, u10, u11⟩ := at12_of H_j10.out
   go_wp2_with fail
   (with_reducible refine (H_q10.out _ A7 p7 B7 r7 A9 p9 B9 r9 ?_ ?_ ?_ ?_).mono ?_)
   ·exact H_aa10.out.below (show Below w10.heap.size w10 _ from belt)
   ·exact H_ab10.out.below (show Below w10.heap.size w10 _ from belt)
   ·exact H_ba10.out.below (show Below w10.heap.size w10 _ from belt)
   ·exact H_bb10'.out.below (show Below w10.heap.size w10 _ from belt)
   rintro e w11 ⟨rfl, b11⟩
   have c11 : Below w10.heap.size w10 w11 := Below.trans belt (b11.mono omh)
   have s11 := c11.size
   have bb11 := H_bb10.out.trans (c11.mono H_bb10.out.size)
   have k11 := H_k10.out.below c11
   have g11 := H_g10.out.below c11
   have d11 := H_d10.out.below c11
   have j11 := H_j10.out.below c11
   have t11 := H_t10.out.below c11
   have ⟨H_b11, H_c11, H_bb11, H_k11, H_g11, H_d11, H_j11, H_t11⟩ := hid8 b11 c11 bb11 k11 g11 d11 j11 t11; clear b11 c11 bb11 k11 g11 d11 j11 t11
   clear v0 v1 v2 v3 v4 v5 v6 v7 v8 v9 v10 v11
   clear u0 u1 u2 u3 u4 u5 u6 u7 u8 u9 u10 u11
   obtain ⟨y0, y1, y2, y3, y4, y5, y6, y7, y8, y9, y10, y11⟩ := at12_of H_k11.out
   go_wp2_with fail
   (with_reducible refine (H_q11.out _ ?_).mono ?_)
   ·exact H_bb11.out.trans ((show Below w11.heap.size w11 _ from belt).mono H_bb11.out.size)
   rintro e w12 ⟨A12, p12, B12, r12, rfl, pa12, pb12, b12⟩
   have c12 : Below w11.heap.size w11 w12 := Below.trans belt (b12.mono omh)
   have s12 := c12.size
   have bb12 := H_bb11.out.trans (c12.mono H_bb11.out.size)
   have k12 := H_k11.out.below c12
   have g12 := H_g11.out.below c12
   have d12 := H_d11.out.below c12
   have j12 := H_j11.out.below c12
   have t12 := H_t11.out.below c12
   have ⟨H_b12, H_c12, H_bb12, H_k12, H_g12, H_d12, H_j12, H_t12⟩ := hid8 b12 c12 bb12 k12 g12 d12 j12 t12; clear b12 c12 bb12 k12 g12 d12 j12 t12
   clear y0 y1 y2 y3 y4 y5 y6 y7 y8 y9 y10 y11
   have sP12 := H_c12.out.size
   have na12 := pa12.set H_ia.out (b := w3.heap.size) (by omega) (by first | omega | (simp; omega))
   have nb12 := pb12.set H_ib.out (b := w3.heap.size) (by omega) (by first | omega | (simp; omega))
   have ma12 := pa12.set H_ia.out (b := w4.heap.size) (by omega) (by first | omega | (simp; omega))
   have mb12 := pb12.set H_ib.out (b := w4.heap.size) (by omega) (by first | omega | (simp; omega))
   obtain ⟨w13, hw13⟩ : ∃ W, putL w12 w3.heap.size 0 [.int .i64 PW.d, .int .i64 PW.k, .int .i64 PW.r, .int .i64 PW.x.s, .int .i64 PW.x.c, .slice A12 PW.x.l.length p12, .int .u64 PW.x.u, .int .i64 PW.y.s, .int .i64 PW.y.c, .slice B12 PW.y.l.length r12, .int .u64 PW.y.u, .bool PW.up] = W := ⟨_, rfl⟩
   have d13 : Blk w13 w3.heap.size #[.int .i64 PW.d, .int .i64 PW.k, .int .i64 PW.r, .int .i64 PW.x.s, .int .i64 PW.x.c, .slice A12 PW.x.l.length p12, .int .u64 PW.x.u, .int .i64 PW.y.s, .int .i64 PW.y.c, .slice B12 PW.y.l.length r12, .int .u64 PW.y.u, .bool PW.up] := by rw [← hw13]; exact putL_blk H_d12.out _ (by simp)
   have k13 := H_k12.out
   have k13 := putL_far (b := w3.heap.size) k13 (by omega) 0 [.int .i64 PW.d, .int .i64 PW.k, .int .i64 PW.r, .int .i64 PW.x.s, .int .i64 PW.x.c, .slice A12 PW.x.l.length p12, .int .u64 PW.x.u, .int .i64 PW.y.s, .int .i64 PW.y.c, .slice B12 PW.y.l.length r12, .int .u64 PW.y.u, .bool PW.up]
   have g13 := H_g12.out
   have g13 := putL_far (b := w3.heap.size) g13 (by omega) 0 [.int .i64 PW.d, .int .i64 PW.k, .int .i64 PW.r, .int .i64 PW.x.s, .int .i64 PW.x.c, .slice A12 PW.x.l.length p12, .int .u64 PW.x.u, .int .i64 PW.y.s, .int .i64 PW.y.c, .slice B12 PW.y.l.length r12, .int .u64 PW.y.u, .bool PW.up]
   have j13 := H_j12.out
   have j13 := putL_far (b := w3.heap.size) j13 (by omega) 0 [.int .i64 PW.d, .int .i64 PW.k, .int .i64 PW.r, .int .i64 PW.x.s, .int .i64 PW.x.c, .slice A12 PW.x.l.length p12, .int .u64 PW.x.u, .int .i64 PW.y.s, .int .i64 PW.y.c, .slice B12 PW.y.l.length r12, .int .u64 PW.y.u, .bool PW.up]
   rw [hw13] at k13 g13 j13
   have bb13 : Below w.heap.size w w13 := by rw [← hw13]; exact putL_below (by omega) _ _ _ H_bb12.out
   have t13 := H_ht.out.below bb13
   have aa13 : IntsAt w13 A12 .i64 PW.x.l := by rw [← hw13]; exact putL_ints na12 _ _ _ pa12.1
   have ab13 : IntsAt w13 B12 .i64 PW.y.l := by rw [← hw13]; exact putL_ints nb12 _ _ _ pb12.1
   have oa12 := ma12
   have ob12 := mb12
   have sz13 : w13.heap.size = w12.heap.size := by rw [← hw13]; exact putL_size _ _ _
   simp only [putL, Nat.reduceAdd] at hw13
   clear pa12 pb12 na12 nb12 ma12 mb12
   obtain ⟨fr0, fr1, fr2, fr3, fr4, fr5, fr6, fr7, fr8, fr9, fr10, fr11⟩ := free12_of H_d12.out
   obtain ⟨v0, v1, v2, v3, v4, v5, v6, v7, v8, v9, v10, v11⟩ := at12_of H_d12.out
   have ⟨H_k13, H_g13, H_d13, H_j13, H_t13, H_bb13, H_aa13, H_ab13⟩ := hid8 k13 g13 d13 j13 t13 bb13 aa13 ab13; clear k13 g13 d13 j13 t13 bb13 aa13 ab13; have ⟨H_oa12, H_ob12⟩ := hid2 oa12 ob12; clear oa12 ob12
   go_upto_region 11 with (fail)
   have H_hw13 := Lib.hid hw13; clear hw13
   clear fr0 fr1 fr2 fr3 fr4 fr5 fr6 fr7 fr8 fr9 fr10 fr11
   clear v0 v1 v2 v3 v4 v5 v6 v7 v8 v9 v10 v11
   obtain ⟨y0, y1, y2, y3, y4, y5, y6, y7, y8, y9, y10, y11⟩ := at12_of H_k13.out
   go_wp2_with fail
   (with_reducible refine (H_q12.out _ ?_).mono ?_)
   ·exact H_bb13.out.trans ((show Below w13.heap.size w13 _ from belt).mono H_bb13.out.size)
   rintro e w14 ⟨A14, p14, B14, r14, rfl, pa14, pb14, b14⟩
   have c14 : Below w13.heap.size w13 w14 := Below.trans belt (b14.mono omh)
   have s14 := c14.size
   have bb14 := H_bb13.out.trans (c14.mono H_bb13.out.size)
   have k14 := H_k13.out.below c14
   have g14 := H_g13.out.below c14
   have d14 := H_d13.out.below c14
   have j14 := H_j13.out.below c14
   have t14 := H_t13.out.below c14
   have aa14 := H_aa13.out.below c14
   have ab14 := H_ab13.out.below c14
   have ⟨H_b14, H_c14, H_bb14, H_k14, H_g14, H_d14, H_j14, H_t14⟩ := hid8 b14 c14 bb14 k14 g14 d14 j14 t14; clear b14 c14 bb14 k14 g14 d14 j14 t14; have ⟨H_aa14, H_ab14⟩ := hid2 aa14 ab14; clear aa14 ab14
   clear y0 y1 y2 y3 y4 y5 y6 y7 y8 y9 y10 y11
   have sP14 := H_c14.out.size
   have na14 := pa14.set H_ia.out (b := w3.heap.size) (by omega) (by first | omega | (simp; omega))
   have nb14 := pb14.set H_ib.out (b := w3.heap.size) (by omega) (by first | omega | (simp; omega))
   have ma14 := pa14.set H_ia.out (b := w4.heap.size) (by omega) (by first | omega | (simp; omega))
   have mb14 := pb14.set H_ib.out (b := w4.heap.size) (by omega) (by first | omega | (simp; omega))
   obtain ⟨w15, hw15⟩ : ∃ W, putL w14 w4.heap.size 0 [.int .i64 PW.d, .int .i64 PW.k, .int .i64 PW.r, .int .i64 PW.x.s, .int .i64 PW.x.c, .slice A14 PW.x.l.length p14, .int .u64 PW.x.u, .int .i64 PW.y.s, .int .i64 PW.y.c, .slice B14 PW.y.l.length r14, .int .u64 PW.y.u, .bool PW.up] = W := ⟨_, rfl⟩
   have j15 : Blk w15 w4.heap.size #[.int .i64 PW.d, .int .i64 PW.k, .int .i64 PW.r, .int .i64 PW.x.s, .int .i64 PW.x.c, .slice A14 PW.x.l.length p14, .int .u64 PW.x.u, .int .i64 PW.y.s, .int .i64 PW.y.c, .slice B14 PW.y.l.length r14, .int .u64 PW.y.u, .bool PW.up] := by rw [← hw15]; exact putL_blk H_j14.out _ (by simp)
   have k15 := H_k14.out
   have k15 := putL_far (b := w4.heap.size) k15 (by omega) 0 [.int .i64 PW.d, .int .i64 PW.k, .int .i64 PW.r, .int .i64 PW.x.s, .int .i64 PW.x.c, .slice A14 PW.x.l.length p14, .int .u64 PW.x.u, .int .i64 PW.y.s, .int .i64 PW.y.c, .slice B14 PW.y.l.length r14, .int .u64 PW.y.u, .bool PW.up]
   have g15 := H_g14.out
   have g15 := putL_far (b := w4.heap.size) g15 (by omega) 0 [.int .i64 PW.d, .int .i64 PW.k, .int .i64 PW.r, .int .i64 PW.x.s, .int .i64 PW.x.c, .slice A14 PW.x.l.length p14, .int .u64 PW.x.u, .int .i64 PW.y.s, .int .i64 PW.y.c, .slice B14 PW.y.l.length r14, .int .u64 PW.y.u, .bool PW.up]
   have d15 := H_d14.out
   have d15 := putL_far (b := w4.heap.size) d15 (by omega) 0 [.int .i64 PW.d, .int .i64 PW.k, .int .i64 PW.r, .int .i64 PW.x.s, .int .i64 PW.x.c, .slice A14 PW.x.l.length p14, .int .u64 PW.x.u, .int .i64 PW.y.s, .int .i64 PW.y.c, .slice B14 PW.y.l.length r14, .int .u64 PW.y.u, .bool PW.up]
   rw [hw15] at k15 g15 d15
   have bb15 : Below w.heap.size w w15 := by rw [← hw15]; exact putL_below (by omega) _ _ _ H_bb14.out
   have t15 := H_ht.out.below bb15
   have ba15 : IntsAt w15 A14 .i64 PW.x.l := by rw [← hw15]; exact putL_ints ma14 _ _ _ pa14.1
   have bb15' : IntsAt w15 B14 .i64 PW.y.l := by rw [← hw15]; exact putL_ints mb14 _ _ _ pb14.1
   have aa15 : IntsAt w15 A12 .i64 PW.x.l := by rw [← hw15]; exact putL_ints H_oa12.out _ _ _ H_aa14.out
   have ab15 : IntsAt w15 B12 .i64 PW.y.l := by rw [← hw15]; exact putL_ints H_ob12.out _ _ _ H_ab14.out
   have sz15 : w15.heap.size = w14.heap.size := by rw [← hw15]; exact putL_size _ _ _
   simp only [putL, Nat.reduceAdd] at hw15
   clear pa14 pb14 na14 nb14 ma14 mb14
   obtain ⟨fr0, fr1, fr2, fr3, fr4, fr5, fr6, fr7, fr8, fr9, fr10, fr11⟩ := free12_of H_j14.out
   obtain ⟨v0, v1, v2, v3, v4, v5, v6, v7, v8, v9, v10, v11⟩ := at12_of H_j14.out
   have ⟨H_k15, H_g15, H_d15, H_j15, H_t15, H_bb15, H_ba15, H_bb15'⟩ := hid8 k15 g15 d15 j15 t15 bb15 ba15 bb15'; clear k15 g15 d15 j15 t15 bb15 ba15 bb15'; have ⟨H_aa15, H_ab15⟩ := hid2 aa15 ab15; clear aa15 ab15
   go_upto_region 12 with (fail)
   have H_hw15 := Lib.hid hw15; clear hw15
   clear fr0 fr1 fr2 fr3 fr4 fr5 fr6 fr7 fr8 fr9 fr10 fr11
   clear v0 v1 v2 v3 v4 v5 v6 v7 v8 v9 v10 v11
   obtain ⟨v0, v1, v2, v3, v4, v5, v6, v7, v8, v9, v10, v11⟩ := at12_of H_d15.out
   obtain ⟨u0, u1, u2, u3, u4, u5, u6, u7, u8, u9, u10, u11⟩ := at12_of H_j15.out
   go_wp2_with fail
   (with_reducible refine (H_q13.out _ A12 p12 B12 r12 A14 p14 B14 r14 ?_ ?_ ?_ ?_).mono ?_)
   ·exact H_aa15.out.below (show Below w15.heap.size w15 _ from belt)
   ·exact H_ab15.out.below (show Below w15.heap.size w15 _ from belt)
   ·exact H_ba15.out.below (show Below w15.heap.size w15 _ from belt)
   ·exact H_bb15'.out.below (show Below w15.heap.size w15 _ from belt)
   rintro e w16 ⟨rfl, b16⟩
   have c16 : Below w15.heap.size w15 w16 := Below.trans belt (b16.mono omh)
   have s16 := c16.size
   have bb16 := H_bb15.out.trans (c16.mono H_bb15.out.size)
   have ⟨H_b16, H_c16, H_bb16⟩ := hid3 b16 c16 bb16; clear b16 c16 bb16
   go_wp2_with fail
   go_ret
   exact ⟨rfl, H_bb16.out⟩
end Go.Proofs.YtoehobaigfmnpaaGreatDoor

/- The walk of LockCourse. -/
import Derived.Test.YtoehobaigfmnpaaDoorMr1
import Derived.Test.YtoehobaigfmnpaaDoorMr2
import Derived.Test.YtoehobaigfmnpaaDoorMr3
import Derived.Test.YtoehobaigfmnpaaDoorMr4
import Derived.Test.YtoehobaigfmnpaaDoorMr5
import Derived.Test.YtoehobaigfmnpaaDoorMr6
import Derived.Test.YtoehobaigfmnpaaDoorMr7
import Derived.Test.YtoehobaigfmnpaaDoorMr8
import Derived.Test.YtoehobaigfmnpaaDoorMr9
import Derived.Test.YtoehobaigfmnpaaDoorMr10
import Derived.Test.YtoehobaigfmnpaaDoorMr11
import Derived.Test.YtoehobaigfmnpaaDoorMr12
import Derived.Test.YtoehobaigfmnpaaDoorMr13
import Derived.Test.YtoehobaigfmnpaaDoorMr14
import Derived.Test.YtoehobaigfmnpaaDoorMr15
import Derived.Test.YtoehobaigfmnpaaDoorMr16
import Derived.Test.YtoehobaigfmnpaaDoorMr17
import Derived.Test.YtoehobaigfmnpaaDoorMr18
import Derived.Test.YtoehobaigfmnpaaDoorMr19
import Derived.Test.YtoehobaigfmnpaaDoorMr20
import Derived.Test.YtoehobaigfmnpaaDoorMr21
import Derived.Test.YtoehobaigfmnpaaDoorMr22
import Derived.Test.YtoehobaigfmnpaaDoorMr23
import Derived.Test.YtoehobaigfmnpaaDoorMr24
import Derived.Test.YtoehobaigfmnpaaDoorMr25
import Derived.Test.YtoehobaigfmnpaaDoorMr26
import Derived.Test.YtoehobaigfmnpaaDoorMr27
import Derived.Test.YtoehobaigfmnpaaDoorMr28
import Derived.Test.YtoehobaigfmnpaaDoorMr29
import Derived.Test.YtoehobaigfmnpaaDoorMr30
import Derived.Test.YtoehobaigfmnpaaDoorMr31
import Derived.Test.YtoehobaigfmnpaaDoorMr32
import Derived.Test.YtoehobaigfmnpaaDoorMr33
import Derived.Test.YtoehobaigfmnpaaDoorMr34
import Derived.Test.YtoehobaigfmnpaaDoorMr35
import Derived.Test.YtoehobaigfmnpaaDoorMr36
import Derived.Test.YtoehobaigfmnpaaDoorMr37
import Derived.Test.YtoehobaigfmnpaaDoorMr38
import Derived.Test.YtoehobaigfmnpaaDoorMr39
import Derived.Test.YtoehobaigfmnpaaDoorMr40
import Derived.Test.YtoehobaigfmnpaaDoorMr41
import Derived.Test.YtoehobaigfmnpaaDoorMr42
import Derived.Test.YtoehobaigfmnpaaDoorMr43
import Derived.Test.YtoehobaigfmnpaaDoorMr44
import Derived.Test.YtoehobaigfmnpaaDoorMr45
import Derived.Test.YtoehobaigfmnpaaDoorMr46
import Derived.Test.YtoehobaigfmnpaaDoorMr47
import Derived.Test.YtoehobaigfmnpaaDoorMr48
import Derived.Test.YtoehobaigfmnpaaDoorMc1
import Derived.Test.YtoehobaigfmnpaaDoorMc2
import Derived.Test.YtoehobaigfmnpaaDoorMc3
namespace Go.Proofs.YtoehobaigfmnpaaDoor
set_option linter.unusedSimpArgs false
set_option linter.unusedVariables false
set_option maxRecDepth 100000
open Go.RowKit Go.Maps
/-- what holds at the head of each round -/
def CSt (w : World) (N : Nat) (i : Value) (wr : World) : Prop :=
  ∃ (k : Nat) (L : Lk) (A : Option Addr) (p : Nat) (B : Option Addr) (r : Nat), k ≤ N ∧ i = .int .i64 k ∧ Below w.heap.size w wr ∧ LkAt w.heap.size wr L A p B r
set_option maxHeartbeats 32000000 in
theorem lockCourse_walk (l : Lk) (A : Option Addr) (n p : Nat) (B : Option Addr) (m q : Nat) (X : Option Addr) (cp : Nat) (ls : List Ded) (w : World) (hx : SlotArg w A n p l.x) (hy : SlotArg w B m q l.y) (hl : LFit l) (hls : Deds w X ls) (hlc : ls.length ≤ cp) (hcm : cp ≤ maxLen) (ht : Tab w) :
    Calls Tryd.prog 10 #[.agg (l.cells A n p B m q).toArray, .slice X ls.length cp] w fun e w' => e = .returned (.bool true) ∧ Below w.heap.size w w' := by
  unfold maxLen at hcm
  generalize hN : ls.length = N at *
  obtain ⟨w0, hw0⟩ : ∃ W, w.alloc (.cells (l.cells A n p B m q).toArray 55) = W := ⟨_, rfl⟩
  have bb0 : Below w.heap.size w w0 := by rw [← hw0]; exact (Below.refl _ _).alloc (Nat.le_refl _) _
  have k0 : Blk w0 w.heap.size (l.cells A n p B m q).toArray := by rw [← hw0]; exact blk_new rfl
  have t0 := ht.below bb0
  have q1 := head37_any w0 t0
  have lq := hx.room; have lm := hx.max; have lq' := hy.room; have lm' := hy.max
  have q2 := fun W => rlfew_any l A n p B m q W (by omega) (by omega)
  cases hF : (len40B n && len40B m) with
  | false =>
    rw [hF] at q2
    unfold Lk.cells at k0 hw0 q2 ⊢
    have ⟨H_bb0, H_k0, H_hw0, H_q1, H_q2, H_t0, H_hx, H_hy⟩ := hid8 bb0 k0 hw0 q1 q2 t0 hx hy; clear bb0 k0 hw0 q1 q2 t0 hx hy; have ⟨H_hl, H_ht, H_hls, H_lq, H_lm, H_lq', H_lm', H_hF⟩ := hid8 hl ht hls lq lm lq' lm' hF; clear hl ht hls lq lm lq' lm' hF; have H_hN := Lib.hid hN; clear hN
    go_enter Tryd.func10, Tryd.ntmps10
    go_wp2_with fail
    rw [H_hw0.out]
    go_wp2_with fail
    (with_reducible refine (H_q1.out).mono ?_)
    rintro e w1 ⟨rfl, b1⟩
    have c1 : Below w0.heap.size w0 w1 := Below.trans belt (b1.mono omh)
    have s1 := c1.size
    have bb1 := H_bb0.out.trans (c1.mono H_bb0.out.size)
    have t1 := H_t0.out.below c1
    have k1 := H_k0.out.below c1
    have ⟨H_b1, H_c1, H_bb1, H_t1, H_k1⟩ := hid5 b1 c1 bb1 t1 k1; clear b1 c1 bb1 t1 k1
    obtain ⟨y0, y1, y2, y3, y4, y5, y6, y7, y8, y9, y10, y11⟩ := at12_of H_k1.out
    go_wp2_with fail
    (with_reducible refine (H_q2.out _).mono ?_)
    rintro e w2 ⟨rfl, b2⟩
    have c2 : Below w1.heap.size w1 w2 := Below.trans belt (b2.mono omh)
    have s2 := c2.size
    have bb2 := H_bb1.out.trans (c2.mono H_bb1.out.size)
    have ⟨H_b2, H_c2, H_bb2⟩ := hid3 b2 c2 bb2; clear b2 c2 bb2
    clear y0 y1 y2 y3 y4 y5 y6 y7 y8 y9 y10 y11
    go_wp2_with fail
    go_ret
    exact ⟨rfl, H_bb2.out⟩
  | true =>
    rw [hF] at q2
    have hF2 := hF
    simp only [Bool.and_eq_true, len40B, decide_eq_true_eq] at hF2
    obtain ⟨n40, m40⟩ := hF2
    have q3 := fun W (h : Below w.heap.size w W) => rlvalid_any l A n p B m q W ((hx.below h).is n40) ((hy.below h).is m40)
    cases hv : lvB l with
    | false =>
      rw [hv] at q3
      unfold Lk.cells at k0 hw0 q2 q3 ⊢
      have ⟨H_bb0, H_k0, H_hw0, H_q1, H_q2, H_q3, H_t0, H_hx⟩ := hid8 bb0 k0 hw0 q1 q2 q3 t0 hx; clear bb0 k0 hw0 q1 q2 q3 t0 hx; have ⟨H_hy, H_hl, H_ht, H_hls, H_lq, H_lm, H_lq', H_lm'⟩ := hid8 hy hl ht hls lq lm lq' lm'; clear hy hl ht hls lq lm lq' lm'; have ⟨H_hF, H_hN, H_n40, H_m40, H_hv⟩ := hid5 hF hN n40 m40 hv; clear hF hN n40 m40 hv
      go_enter Tryd.func10, Tryd.ntmps10
      go_wp2_with fail
      rw [H_hw0.out]
      go_wp2_with fail
      (with_reducible refine (H_q1.out).mono ?_)
      rintro e w1 ⟨rfl, b1⟩
      have c1 : Below w0.heap.size w0 w1 := Below.trans belt (b1.mono omh)
      have s1 := c1.size
      have bb1 := H_bb0.out.trans (c1.mono H_bb0.out.size)
      have t1 := H_t0.out.below c1
      have k1 := H_k0.out.below c1
      have ⟨H_b1, H_c1, H_bb1, H_t1, H_k1⟩ := hid5 b1 c1 bb1 t1 k1; clear b1 c1 bb1 t1 k1
      obtain ⟨y0, y1, y2, y3, y4, y5, y6, y7, y8, y9, y10, y11⟩ := at12_of H_k1.out
      go_wp2_with fail
      (with_reducible refine (H_q2.out _).mono ?_)
      rintro e w2 ⟨rfl, b2⟩
      have c2 : Below w1.heap.size w1 w2 := Below.trans belt (b2.mono omh)
      have s2 := c2.size
      have bb2 := H_bb1.out.trans (c2.mono H_bb1.out.size)
      have k2 := H_k1.out.below c2
      have ⟨H_b2, H_c2, H_bb2, H_k2⟩ := hid4 b2 c2 bb2 k2; clear b2 c2 bb2 k2
      clear y0 y1 y2 y3 y4 y5 y6 y7 y8 y9 y10 y11
      obtain ⟨y0, y1, y2, y3, y4, y5, y6, y7, y8, y9, y10, y11⟩ := at12_of H_k2.out
      go_wp2_with fail
      (with_reducible refine (H_q3.out _ ?_).mono ?_)
      · exact H_bb2.out.trans ((show Below w2.heap.size w2 _ from belt).mono H_bb2.out.size)
      rintro e w3 ⟨rfl, b3⟩
      have c3 : Below w2.heap.size w2 w3 := Below.trans belt (b3.mono omh)
      have s3 := c3.size
      have bb3 := H_bb2.out.trans (c3.mono H_bb2.out.size)
      have ⟨H_b3, H_c3, H_bb3⟩ := hid3 b3 c3 bb3; clear b3 c3 bb3
      clear y0 y1 y2 y3 y4 y5 y6 y7 y8 y9 y10 y11
      go_wp2_with fail
      go_ret
      exact ⟨rfl, H_bb3.out⟩
    | true =>
      rw [hv] at q3
      by_cases hN12 : 12 < N
      · have i1 : (12 : Int) < (N : Int) := by omega
        have i2 : decide ((12 : Int) < (N : Int)) = true := decide_eq_true i1
        unfold Lk.cells at k0 hw0 q2 q3 ⊢
        have ⟨H_bb0, H_k0, H_hw0, H_q1, H_q2, H_q3, H_t0, H_hx⟩ := hid8 bb0 k0 hw0 q1 q2 q3 t0 hx; clear bb0 k0 hw0 q1 q2 q3 t0 hx; have ⟨H_hy, H_hl, H_ht, H_hls, H_lq, H_lm, H_lq', H_lm'⟩ := hid8 hy hl ht hls lq lm lq' lm'; clear hy hl ht hls lq lm lq' lm'; have ⟨H_hF, H_hN, H_n40, H_m40, H_hv⟩ := hid5 hF hN n40 m40 hv; clear hF hN n40 m40 hv
        go_enter Tryd.func10, Tryd.ntmps10
        go_wp2_with fail
        rw [H_hw0.out]
        go_wp2_with fail
        (with_reducible refine (H_q1.out).mono ?_)
        rintro e w1 ⟨rfl, b1⟩
        have c1 : Below w0.heap.size w0 w1 := Below.trans belt (b1.mono omh)
        have s1 := c1.size
        have bb1 := H_bb0.out.trans (c1.mono H_bb0.out.size)
        have t1 := H_t0.out.below c1
        have k1 := H_k0.out.below c1
        have ⟨H_b1, H_c1, H_bb1, H_t1, H_k1⟩ := hid5 b1 c1 bb1 t1 k1; clear b1 c1 bb1 t1 k1
        obtain ⟨y0, y1, y2, y3, y4, y5, y6, y7, y8, y9, y10, y11⟩ := at12_of H_k1.out
        go_wp2_with fail
        (with_reducible refine (H_q2.out _).mono ?_)
        rintro e w2 ⟨rfl, b2⟩
        have c2 : Below w1.heap.size w1 w2 := Below.trans belt (b2.mono omh)
        have s2 := c2.size
        have bb2 := H_bb1.out.trans (c2.mono H_bb1.out.size)
        have k2 := H_k1.out.below c2
        have ⟨H_b2, H_c2, H_bb2, H_k2⟩ := hid4 b2 c2 bb2 k2; clear b2 c2 bb2 k2
        clear y0 y1 y2 y3 y4 y5 y6 y7 y8 y9 y10 y11
        obtain ⟨y0, y1, y2, y3, y4, y5, y6, y7, y8, y9, y10, y11⟩ := at12_of H_k2.out
        go_wp2_with fail
        (with_reducible refine (H_q3.out _ ?_).mono ?_)
        · exact H_bb2.out.trans ((show Below w2.heap.size w2 _ from belt).mono H_bb2.out.size)
        rintro e w3 ⟨rfl, b3⟩
        have c3 : Below w2.heap.size w2 w3 := Below.trans belt (b3.mono omh)
        have s3 := c3.size
        have bb3 := H_bb2.out.trans (c3.mono H_bb2.out.size)
        have ⟨H_b3, H_c3, H_bb3⟩ := hid3 b3 c3 bb3; clear b3 c3 bb3
        clear y0 y1 y2 y3 y4 y5 y6 y7 y8 y9 y10 y11
        go_wp2_with fail
        go_ret
        exact ⟨rfl, H_bb3.out⟩
      have i1 : ¬ (12 : Int) < (N : Int) := by omega
      have i2 : decide ((12 : Int) < (N : Int)) = false := decide_eq_false i1
      have sf := hx.sfit n40
      have sg := hy.sfit m40
      have oA := off_old hx.ints
      have oB := off_old hy.ints
      have ia := hx.ints
      have ib := hy.ints
      have en := hx.len
      have em := hy.len
      clear lq lm lq' lm' hF n40 m40 hx hy
      subst en em
      unfold Lk.cells at k0 hw0 q2 q3 ⊢
      have ⟨H_bb0, H_k0, H_hw0, H_q1, H_q2, H_q3, H_t0, H_hl⟩ := hid8 bb0 k0 hw0 q1 q2 q3 t0 hl; clear bb0 k0 hw0 q1 q2 q3 t0 hl; have ⟨H_ht, H_hls, H_hN, H_hv, H_sf, H_sg, H_oA, H_oB⟩ := hid8 ht hls hN hv sf sg oA oB; clear ht hls hN hv sf sg oA oB; have ⟨H_ia, H_ib⟩ := hid2 ia ib; clear ia ib
      go_enter Tryd.func10, Tryd.ntmps10
      go_wp2_with fail
      rw [H_hw0.out]
      go_wp2_with fail
      (with_reducible refine (H_q1.out).mono ?_)
      rintro e w1 ⟨rfl, b1⟩
      have c1 : Below w0.heap.size w0 w1 := Below.trans belt (b1.mono omh)
      have s1 := c1.size
      have bb1 := H_bb0.out.trans (c1.mono H_bb0.out.size)
      have t1 := H_t0.out.below c1
      have k1 := H_k0.out.below c1
      have ⟨H_b1, H_c1, H_bb1, H_t1, H_k1⟩ := hid5 b1 c1 bb1 t1 k1; clear b1 c1 bb1 t1 k1
      obtain ⟨y0, y1, y2, y3, y4, y5, y6, y7, y8, y9, y10, y11⟩ := at12_of H_k1.out
      go_wp2_with fail
      (with_reducible refine (H_q2.out _).mono ?_)
      rintro e w2 ⟨rfl, b2⟩
      have c2 : Below w1.heap.size w1 w2 := Below.trans belt (b2.mono omh)
      have s2 := c2.size
      have bb2 := H_bb1.out.trans (c2.mono H_bb1.out.size)
      have k2 := H_k1.out.below c2
      have ⟨H_b2, H_c2, H_bb2, H_k2⟩ := hid4 b2 c2 bb2 k2; clear b2 c2 bb2 k2
      clear y0 y1 y2 y3 y4 y5 y6 y7 y8 y9 y10 y11
      obtain ⟨y0, y1, y2, y3, y4, y5, y6, y7, y8, y9, y10, y11⟩ := at12_of H_k2.out
      go_wp2_with fail
      (with_reducible refine (H_q3.out _ ?_).mono ?_)
      · exact H_bb2.out.trans ((show Below w2.heap.size w2 _ from belt).mono H_bb2.out.size)
      rintro e w3 ⟨rfl, b3⟩
      have c3 : Below w2.heap.size w2 w3 := Below.trans belt (b3.mono omh)
      have s3 := c3.size
      have bb3 := H_bb2.out.trans (c3.mono H_bb2.out.size)
      have k3 := H_k2.out.below c3
      have ⟨H_b3, H_c3, H_bb3, H_k3⟩ := hid4 b3 c3 bb3 k3; clear b3 c3 bb3 k3
      clear y0 y1 y2 y3 y4 y5 y6 y7 y8 y9 y10 y11
      have st3 : CSt w N (.int .i64 0) w3 := ⟨0, l, A, p, B, q, by omega, rfl, H_bb3.out, ⟨H_k3.out, H_ia.out.below H_bb3.out, H_ib.out.below H_bb3.out, H_oA.out, H_oB.out, H_sf.out, H_sg.out, H_hv.out⟩⟩
      have H_st3 := Lib.hid st3; clear st3
      go_wp2_with fail
      go_loopw [5, 37] (fun u i wr => u = .bool true ∧ CSt w N i wr) (fun _ i _ => N - (intOf i).toNat)
      case atStart => exact ⟨rfl, H_st3.out⟩
      case round =>
        obtain ⟨rfl, k, L, A5, p5, B5, r5, hk5, rfl, hbw, hat⟩ := hrel
        have hsz := hbw.size
        have lt5 := (hat.blk 0 _ rfl).lt
        have tw := H_ht.out.below hbw
        have rw5 := H_hls.out.below hbw
        have kr := hat.blk
        unfold Lk.cells at kr
        by_cases hlt : k < N
        · have g1 : (k : Int) < (N : Int) := by omega
          have g0 : (0 : Int) ≤ (k : Int) := by omega
          obtain ⟨x, hx5⟩ : ∃ x, ls[k]? = some x := ⟨_, List.getElem?_eq_getElem (by rw [H_hN.out]; exact hlt)⟩
          obtain ⟨b, off, rfl, hbl, ⟨hf, hft, hfa⟩, e0, e1, e2, e3, e4, e5, e6, e7, e8, e9, e10, e11⟩ := rw5.at hx5
          have pw := pw_of hat.v true
          obtain ⟨K, hK⟩ : ∃ K, (if x.b = true then pwR L true else L) = K := ⟨_, rfl⟩
          have fK : SFit K.x ∧ SFit K.y := by
            rw [← hK]
            split
            · rw [pw.1]; exact ⟨hat.fx, hat.fy⟩
            · exact ⟨hat.fx, hat.fy⟩
          have vK : lvB K = true := by
            rw [← hK]
            split
            · rw [pw.1]; exact hat.v
            · exact hat.v
          have q4 := fun W (h1 : IntsAt W A5 .i64 L.x.l) (h2 : IntsAt W B5 .i64 L.y.l) (h3 : Tab W) => lpower_any L true A5 L.x.l.length p5 B5 L.y.l.length r5 W (hat.fx.is h1) (hat.fy.is h2) h3
          rw [pw.2, pw.1] at q4
          unfold LockErr Lk.cells at q4
          dsimp only at q4
          have oxr := hat
          have bw5 := hbw
          have ⟨H_q4, H_pw, H_hK, H_fK, H_vK, H_hbw, H_hat, H_tw⟩ := hid8 q4 pw hK fK vK hbw hat tw; clear q4 pw hK fK vK hbw hat tw; have ⟨H_rw5, H_kr, H_hx5, H_hf, H_hft, H_hfa, H_oxr, H_bw5⟩ := hid8 rw5 kr hx5 hf hft hfa oxr bw5; clear rw5 kr hx5 hf hft hfa oxr bw5
          go_upto_if 42 with (fail)
          clear e0 e1 e2 e3 e4 e5 e6 e7 e8 e9 e10 e11
          obtain ⟨w5, hw5⟩ : ∃ W, wr.alloc (.cells #[.int .i64 x.c.i, .int .i64 x.c.k, .int .i64 x.c.d, .int .i64 x.c.n, .int .i64 x.c.f, .int .i64 x.c.u, .int .i64 x.c.l, .int .i64 x.c.e, .int .i64 x.c.s, .int .i64 x.t, .int .i64 x.a, .bool x.b] 69) = W := ⟨_, rfl⟩
          rw [hw5]
          have c5 : Below wr.heap.size wr w5 := by rw [← hw5]; exact (Below.refl _ _).alloc (Nat.le_refl _) _
          have x5 : Blk w5 wr.heap.size #[.int .i64 x.c.i, .int .i64 x.c.k, .int .i64 x.c.d, .int .i64 x.c.n, .int .i64 x.c.f, .int .i64 x.c.u, .int .i64 x.c.l, .int .i64 x.c.e, .int .i64 x.c.s, .int .i64 x.t, .int .i64 x.a, .bool x.b] := by rw [← hw5]; exact blk_new rfl
          have z5 : wr.heap.size < w5.heap.size := by rw [← hw5]; simp
          have k5 := H_kr.out.below c5
          have a5 := H_oxr.out.a.below c5
          have b5' := H_oxr.out.b.below c5
          have t5 := H_tw.out.below c5
          have bb5 := H_bw5.out.trans (c5.mono H_bw5.out.size)
          have ⟨H_hw5, H_c5, H_x5, H_k5, H_a5, H_b5', H_t5, H_bb5⟩ := hid8 hw5 c5 x5 k5 a5 b5' t5 bb5; clear hw5 c5 x5 k5 a5 b5' t5 bb5
          go_cut [8, 9] from 40 to 55 (fun _ _ wx => ∃ (A6 : Option Addr) (p6 : Nat) (B6 : Option Addr) (r6 : Nat), LkAt w.heap.size wx K A6 p6 B6 r6 ∧ Below w.heap.size w wx ∧ Blk wx wr.heap.size #[.int .i64 x.c.i, .int .i64 x.c.k, .int .i64 x.c.d, .int .i64 x.c.n, .int .i64 x.c.f, .int .i64 x.c.u, .int .i64 x.c.l, .int .i64 x.c.e, .int .i64 x.c.s, .int .i64 x.t, .int .i64 x.a, .bool x.b] ∧ wr.heap.size < wx.heap.size)
          case first =>
            cases hxb : x.b with
            | false =>
              have hK2 : L = K := by have h := H_hK.out; rw [hxb, if_neg (by decide)] at h; exact h
              have lk5 : LkAt w.heap.size w5 K A5 p5 B5 r5 := by rw [← hK2]; exact ⟨H_oxr.out.blk.below H_c5.out, H_oxr.out.a.below H_c5.out, H_oxr.out.b.below H_c5.out, H_oxr.out.oa, H_oxr.out.ob, H_oxr.out.fx, H_oxr.out.fy, H_oxr.out.v⟩
              have ⟨H_hK2, H_lk5, H_hxb⟩ := hid3 hK2 lk5 hxb; clear hK2 lk5 hxb
              go_wp2_with fail
              go_meet
              case rel => exact ⟨A5, p5, B5, r5, H_lk5.out, H_bb5.out, H_x5.out, z5⟩
            | true =>
              have hK2 : { L with up := true } = K := by have h := H_hK.out; rw [hxb, if_pos rfl, H_pw.out.1] at h; exact h
              have ⟨H_hK2, H_hxb⟩ := hid2 hK2 hxb; clear hK2 hxb
              obtain ⟨y0, y1, y2, y3, y4, y5, y6, y7, y8, y9, y10, y11⟩ := at12_of H_k5.out
              have ly := (H_k5.out 0 _ rfl).lt
              go_wp2_with fail
              (with_reducible refine (H_q4.out _ ?_ ?_ ?_).mono ?_)
              · exact H_a5.out.below (show Below w5.heap.size w5 _ from belt)
              · exact H_b5'.out.below (show Below w5.heap.size w5 _ from belt)
              · exact H_t5.out.below (show Below w5.heap.size w5 _ from belt)
              rintro e w6 ⟨A6, p6, B6, r6, rfl, pa6, pb6, b6⟩
              have c6 : Below w5.heap.size w5 w6 := Below.trans belt (b6.mono omh)
              have s6 := c6.size
              have bb6 := H_bb5.out.trans (c6.mono H_bb5.out.size)
              have k6 := H_k5.out.below c6
              have t6 := H_t5.out.below c6
              have x6 := H_x5.out.below c6
              have ⟨H_b6, H_c6, H_bb6, H_k6, H_t6, H_x6⟩ := hid6 b6 c6 bb6 k6 t6 x6; clear b6 c6 bb6 k6 t6 x6
              clear ly
              clear y0 y1 y2 y3 y4 y5 y6 y7 y8 y9 y10 y11
              have s5 := H_c5.out.size
              have s6 := H_c6.out.size
              have oa6 := pa6.off H_oxr.out.oa (by first | omega | (simp; omega))
              have ob6 := pb6.off H_oxr.out.ob (by first | omega | (simp; omega))
              obtain ⟨w7, hw7⟩ : ∃ W, (putL w6 w.heap.size 0 [.int .i64 L.d, .int .i64 L.k, .int .i64 L.r, .int .i64 L.x.s, .int .i64 L.x.c, .slice A6 L.x.l.length p6, .int .u64 L.x.u, .int .i64 L.y.s, .int .i64 L.y.c, .slice B6 L.y.l.length r6, .int .u64 L.y.u, .bool true]).alloc (.cells #[.int .i64 L.d, .int .i64 L.k, .int .i64 L.r, .int .i64 L.x.s, .int .i64 L.x.c, .slice A6 L.x.l.length p6, .int .u64 L.x.u, .int .i64 L.y.s, .int .i64 L.y.c, .slice B6 L.y.l.length r6, .int .u64 L.y.u, .bool true] 55) = W := ⟨_, rfl⟩
              have k7 : Blk w7 w.heap.size #[.int .i64 L.d, .int .i64 L.k, .int .i64 L.r, .int .i64 L.x.s, .int .i64 L.x.c, .slice A6 L.x.l.length p6, .int .u64 L.x.u, .int .i64 L.y.s, .int .i64 L.y.c, .slice B6 L.y.l.length r6, .int .u64 L.y.u, .bool true] := by rw [← hw7]; exact (putL_blk H_k6.out _ (by simp)).alloc _
              have a7 : IntsAt w7 A6 .i64 L.x.l := by rw [← hw7]; exact ints_alloc (putL_ints oa6 _ _ _ pa6.1) _
              have b7 : IntsAt w7 B6 .i64 L.y.l := by rw [← hw7]; exact ints_alloc (putL_ints ob6 _ _ _ pb6.1) _
              have x7 := H_x6.out
              have x7 : Blk w7 wr.heap.size #[.int .i64 x.c.i, .int .i64 x.c.k, .int .i64 x.c.d, .int .i64 x.c.n, .int .i64 x.c.f, .int .i64 x.c.u, .int .i64 x.c.l, .int .i64 x.c.e, .int .i64 x.c.s, .int .i64 x.t, .int .i64 x.a, .bool x.b] := by rw [← hw7]; exact (putL_far x7 (by omega) _ _).alloc _
              have bb7 : Below w.heap.size w w7 := by rw [← hw7]; exact (putL_below (Nat.le_refl _) _ _ _ H_bb6.out).alloc (by rw [putL_size]; exact H_bb6.out.size) _
              have z7 : wr.heap.size < w7.heap.size := by rw [← hw7]; simp [putL_size]; omega
              have lk7 : LkAt w.heap.size w7 K A6 p6 B6 r6 := by rw [← H_hK2.out]; exact ⟨k7, a7, b7, oa6, ob6, H_oxr.out.fx, H_oxr.out.fy, H_oxr.out.v⟩
              simp only [putL, Nat.reduceAdd] at hw7
              clear pa6 pb6 k7 a7 b7 oa6 ob6
              obtain ⟨f0, f1, f2, f3, f4, f5, f6, f7, f8, f9, f10, f11⟩ := free12_of H_k6.out
              obtain ⟨y0, y1, y2, y3, y4, y5, y6, y7, y8, y9, y10, y11⟩ := at12_of H_k6.out
              have ly := (H_k6.out 0 _ rfl).lt
              have ⟨H_x7, H_bb7, H_lk7⟩ := hid3 x7 bb7 lk7; clear x7 bb7 lk7
              go_wp2_with fail
              have H_hw7 := Lib.hid hw7; clear hw7
              go_meet
              case rel => exact ⟨A6, p6, B6, r6, H_lk7.out, H_bb7.out, H_x7.out, z7⟩
          case rest =>
            obtain ⟨A6, p6, B6, r6, hat6, hb6, hx6, hs6⟩ := hcut
            obtain ⟨w6, hw6⟩ : ∃ W, wc = W := ⟨_, rfl⟩
            rw [hw6] at hat6 hb6 hx6 hs6 ⊢
            have k6 := hat6.blk
            unfold Lk.cells at k6
            have lt6 := (hat6.blk 0 _ rfl).lt
            have a6 := hat6.a
            have d6 := hat6.b
            have oa6 := hat6.oa
            have ob6 := hat6.ob
            have t6 := H_ht.out.below hb6
            have x6 := hx6
            have bb6 := hb6
            have q5 := fun W (h1 : IntsAt W A6 .i64 K.x.l) (h2 : IntsAt W B6 .i64 K.y.l) (h3 : Tab W) => show_any K x.c x.t x.a A6 K.x.l.length p6 B6 K.y.l.length r6 W (H_fK.out.1.is h1) (H_fK.out.2.is h2) h3 H_hf.out
            have fZ := sh_fit (l := K) (c := x.c) (t := x.t) (a := x.a) H_hf.out H_fK.out.1 H_fK.out.2
            by_cases hE : shE K x.c x.t x.a = 0
            rotate_left
            · have j1 : (shE K x.c x.t x.a != 0) = true := by simp [hE]
              have j2 : (shE K x.c x.t x.a == 0) = false := by simp [hE]
              generalize shE K x.c x.t x.a = E5 at *
              generalize shR K x.c x.t x.a = Z at *
              generalize shO K x.c x.t x.a = OZ at *
              unfold ShowPost Lk.cells Crd.cells at q5
              have ⟨H_q5, H_fZ, H_hE, H_hat6, H_hb6, H_hx6, H_k6, H_a6⟩ := hid8 q5 fZ hE hat6 hb6 hx6 k6 a6; clear q5 fZ hE hat6 hb6 hx6 k6 a6; have ⟨H_d6, H_oa6, H_ob6, H_t6, H_x6, H_bb6, H_hw6⟩ := hid7 d6 oa6 ob6 t6 x6 bb6 hw6; clear d6 oa6 ob6 t6 x6 bb6 hw6
              obtain ⟨y0, y1, y2, y3, y4, y5, y6, y7, y8, y9, y10, y11⟩ := at12_of H_k6.out
              obtain ⟨z0, z1, z2, z3, z4, z5, z6, z7, z8, z9, z10, z11⟩ := at12_of H_x6.out
              have ly := (H_k6.out 0 _ rfl).lt
              have lz := (H_x6.out 0 _ rfl).lt
              go_wp2_with fail
              (with_reducible refine (H_q5.out _ ?_ ?_ ?_).mono ?_)
              · exact H_a6.out.below (show Below w6.heap.size w6 _ from belt)
              · exact H_d6.out.below (show Below w6.heap.size w6 _ from belt)
              · exact H_t6.out.below (show Below w6.heap.size w6 _ from belt)
              rintro e w7 ⟨A7, p7, B7, r7, rfl, _, _, b7⟩
              have c7 : Below w6.heap.size w6 w7 := Below.trans belt (b7.mono omh)
              have s7 := c7.size
              have bb7 := H_bb6.out.trans (c7.mono H_bb6.out.size)
              have k7 := H_k6.out.below c7
              have ⟨H_b7, H_c7, H_bb7, H_k7⟩ := hid4 b7 c7 bb7 k7; clear b7 c7 bb7 k7
              clear ly lz
              clear y0 y1 y2 y3 y4 y5 y6 y7 y8 y9 y10 y11
              clear z0 z1 z2 z3 z4 z5 z6 z7 z8 z9 z10 z11
              have cA : Below w6.heap.size w6 (w7.alloc (.cells #[.int .i64 Z.d, .int .i64 Z.k, .int .i64 Z.r, .int .i64 Z.x.s, .int .i64 Z.x.c, .slice A7 Z.x.l.length p7, .int .u64 Z.x.u, .int .i64 Z.y.s, .int .i64 Z.y.c, .slice B7 Z.y.l.length r7, .int .u64 Z.y.u, .bool Z.up] 55)) := H_c7.out.alloc H_c7.out.size _
              have lkA : LkAt w.heap.size (w7.alloc (.cells #[.int .i64 Z.d, .int .i64 Z.k, .int .i64 Z.r, .int .i64 Z.x.s, .int .i64 Z.x.c, .slice A7 Z.x.l.length p7, .int .u64 Z.x.u, .int .i64 Z.y.s, .int .i64 Z.y.c, .slice B7 Z.y.l.length r7, .int .u64 Z.y.u, .bool Z.up] 55)) K A6 p6 B6 r6 := ⟨H_hat6.out.blk.below cA, H_hat6.out.a.below cA, H_hat6.out.b.below cA, H_hat6.out.oa, H_hat6.out.ob, H_hat6.out.fx, H_hat6.out.fy, H_hat6.out.v⟩
              have cB := H_bb6.out.trans (cA.mono H_bb6.out.size)
              have ⟨H_cA, H_lkA, H_cB⟩ := hid3 cA lkA cB; clear cA lkA cB
              go_wp2_with fail
              go_roundw
              case rel => exact ⟨rfl, k + 1, K, A6, p6, B6, r6, by omega, by go_num, H_cB.out, H_lkA.out⟩
              case measure => simp [intOf]; omega
            have hL := left_of hE
            have vZ := hL.v
            have cZ := count_stays hE
            have mZ : ∀ y, y ∈ (keepS K).l → y ∈ (keepS (shR K x.c x.t x.a)).l := fun y hy => lost_stays hE hy
            rw [hE] at q5
            clear hL hE
            generalize shR K x.c x.t x.a = Z at *
            generalize shO K x.c x.t x.a = OZ at *
            have q6 := fun W A p B r (h1 : SlotIs W A Z.x.l.length Z.x) (h2 : SlotIs W B Z.y.l.length Z.y) => rlvalid_any Z A _ p B _ r W h1 h2
            have q7 := fun W A p B r (h1 : SlotIs W A Z.x.l.length Z.x) (h2 : SlotIs W B Z.y.l.length Z.y) (h3 : Tab W) => lvalid_any Z A _ p B _ r W h1 h2 h3
            rw [vZ] at q6 q7
            have hkK : SFit (keepS K) := by unfold keepS; split; exact H_fK.out.2; exact H_fK.out.1
            have hkZ : SFit (keepS Z) := by unfold keepS; split; exact fZ.2; exact fZ.1
            have qkK := fun w A p B r (h1 : SlotIs w A K.x.l.length K.x) (h2 : SlotIs w B K.y.l.length K.y) => rlkeeps_as K A _ p B _ r w h1 h2
            have qkZ := fun w A p B r (h1 : SlotIs w A Z.x.l.length Z.x) (h2 : SlotIs w B Z.y.l.length Z.y) => rlkeeps_as Z A _ p B _ r w h1 h2
            unfold ShowPost Lk.cells Crd.cells at q5
            unfold Lk.cells at q6 q7 qkK qkZ
            generalize hsK : keepS K = sK at *
            generalize hsZ : keepS Z = sZ at *
            have ⟨H_q5, H_q6, H_q7, H_qkK, H_qkZ, H_fZ, H_vZ, H_cZ⟩ := hid8 q5 q6 q7 qkK qkZ fZ vZ cZ; clear q5 q6 q7 qkK qkZ fZ vZ cZ; have ⟨H_mZ, H_hkK, H_hkZ, H_hsK, H_hsZ, H_hat6, H_hb6, H_hx6⟩ := hid8 mZ hkK hkZ hsK hsZ hat6 hb6 hx6; clear mZ hkK hkZ hsK hsZ hat6 hb6 hx6; have ⟨H_k6, H_a6, H_d6, H_oa6, H_ob6, H_t6, H_x6, H_bb6⟩ := hid8 k6 a6 d6 oa6 ob6 t6 x6 bb6; clear k6 a6 d6 oa6 ob6 t6 x6 bb6; have H_hw6 := Lib.hid hw6; clear hw6
            obtain ⟨y0, y1, y2, y3, y4, y5, y6, y7, y8, y9, y10, y11⟩ := at12_of H_k6.out
            obtain ⟨z0, z1, z2, z3, z4, z5, z6, z7, z8, z9, z10, z11⟩ := at12_of H_x6.out
            have ly := (H_k6.out 0 _ rfl).lt
            have lz := (H_x6.out 0 _ rfl).lt
            go_wp2_with fail
            (with_reducible refine (H_q5.out _ ?_ ?_ ?_).mono ?_)
            · exact H_a6.out.below (show Below w6.heap.size w6 _ from belt)
            · exact H_d6.out.below (show Below w6.heap.size w6 _ from belt)
            · exact H_t6.out.below (show Below w6.heap.size w6 _ from belt)
            rintro e w7 ⟨A7, p7, B7, r7, rfl, pa7, pb7, b7⟩
            have c7 : Below w6.heap.size w6 w7 := Below.trans belt (b7.mono omh)
            have s7 := c7.size
            have bb7 := H_bb6.out.trans (c7.mono H_bb6.out.size)
            have k7 := H_k6.out.below c7
            have t7 := H_t6.out.below c7
            have a7 := H_a6.out.below c7
            have d7 := H_d6.out.below c7
            have ⟨H_b7, H_c7, H_bb7, H_k7, H_t7, H_a7, H_d7⟩ := hid7 b7 c7 bb7 k7 t7 a7 d7; clear b7 c7 bb7 k7 t7 a7 d7
            clear ly lz
            clear y0 y1 y2 y3 y4 y5 y6 y7 y8 y9 y10 y11
            clear z0 z1 z2 z3 z4 z5 z6 z7 z8 z9 z10 z11
            have e7 := H_fZ.out.1.is pa7.1
            have f7 := H_fZ.out.2.is pb7.1
            have oz7 := pa7.off H_oa6.out (by first | omega | (simp; omega))
            have qz7 := pb7.off H_ob6.out (by first | omega | (simp; omega))
            clear pa7 pb7
            have ⟨H_e7, H_f7, H_oz7, H_qz7⟩ := hid4 e7 f7 oz7 qz7; clear e7 f7 oz7 qz7
            go_wp2_with fail
            (with_reducible refine (H_q6.out _ A7 p7 B7 r7 ?_ ?_).mono ?_)
            · exact H_e7.out.below (show Below w7.heap.size w7 _ from belt)
            · exact H_f7.out.below (show Below w7.heap.size w7 _ from belt)
            rintro e w8 ⟨rfl, b8⟩
            have c8 : Below w7.heap.size w7 w8 := Below.trans belt (b8.mono omh)
            have s8 := c8.size
            have bb8 := H_bb7.out.trans (c8.mono H_bb7.out.size)
            have k8 := H_k7.out.below c8
            have t8 := H_t7.out.below c8
            have a8 := H_a7.out.below c8
            have d8 := H_d7.out.below c8
            have e8 := H_e7.out.below c8
            have f8 := H_f7.out.below c8
            have ⟨H_b8, H_c8, H_bb8, H_k8, H_t8, H_a8, H_d8, H_e8⟩ := hid8 b8 c8 bb8 k8 t8 a8 d8 e8; clear b8 c8 bb8 k8 t8 a8 d8 e8; have H_f8 := Lib.hid f8; clear f8
            have m8 : Blk w8 w7.heap.size #[.int .i64 Z.d, .int .i64 Z.k, .int .i64 Z.r, .int .i64 Z.x.s, .int .i64 Z.x.c, .slice A7 Z.x.l.length p7, .int .u64 Z.x.u, .int .i64 Z.y.s, .int .i64 Z.y.c, .slice B7 Z.y.l.length r7, .int .u64 Z.y.u, .bool Z.up] := (blk_new rfl).below H_b8.out
            have H_m8 := Lib.hid m8; clear m8
            obtain ⟨v0, v1, v2, v3, v4, v5, v6, v7, v8, v9, v10, v11⟩ := at12_of H_m8.out
            go_wp2_with fail
            (with_reducible refine (H_q7.out _ A7 p7 B7 r7 ?_ ?_ ?_).mono ?_)
            · exact H_e8.out.below (show Below w8.heap.size w8 _ from belt)
            · exact H_f8.out.below (show Below w8.heap.size w8 _ from belt)
            · exact H_t8.out.below (show Below w8.heap.size w8 _ from belt)
            rintro e w9 ⟨rfl, b9⟩
            have c9 : Below w8.heap.size w8 w9 := Below.trans belt (b9.mono omh)
            have s9 := c9.size
            have bb9 := H_bb8.out.trans (c9.mono H_bb8.out.size)
            have k9 := H_k8.out.below c9
            have t9 := H_t8.out.below c9
            have m9 := H_m8.out.below c9
            have a9 := H_a8.out.below c9
            have d9 := H_d8.out.below c9
            have e9 := H_e8.out.below c9
            have f9 := H_f8.out.below c9
            have ⟨H_b9, H_c9, H_bb9, H_k9, H_t9, H_m9, H_a9, H_d9⟩ := hid8 b9 c9 bb9 k9 t9 m9 a9 d9; clear b9 c9 bb9 k9 t9 m9 a9 d9; have ⟨H_e9, H_f9⟩ := hid2 e9 f9; clear e9 f9
            clear v0 v1 v2 v3 v4 v5 v6 v7 v8 v9 v10 v11
            obtain ⟨K1, t1, u9, q10⟩ := H_qkK.out w9 A6 p6 B6 r6 (H_fK.out.1.is H_a9.out) (H_fK.out.2.is H_d9.out)
            obtain ⟨K2, t2, v9, q11⟩ := H_qkZ.out w9 A7 p7 B7 r7 H_e9.out H_f9.out
            have ⟨H_u9, H_v9, H_q10, H_q11⟩ := hid4 u9 v9 q10 q11; clear u9 v9 q10 q11
            go_upto_region 16 with (fail)
            obtain ⟨y0, y1, y2, y3, y4, y5, y6, y7, y8, y9, y10, y11⟩ := at12_of H_k9.out
            obtain ⟨v0, v1, v2, v3, v4, v5, v6, v7, v8, v9, v10, v11⟩ := at12_of H_m9.out
            have ly := (H_k9.out 0 _ rfl).lt
            have lv := (H_m9.out 0 _ rfl).lt
            go_cut [13, 14] from 78 to 81 (fun c13 c14 wx => ∃ g h : Nat, c13 = .pointer (some ⟨g, 0, none⟩) ∧ c14 = .pointer (some ⟨h, 0, none⟩) ∧ Two w9 wx g h #[.int .i64 sK.s, .int .i64 sK.c, .slice K1 sK.l.length t1, .int .u64 sK.u] #[.int .i64 sZ.s, .int .i64 sZ.c, .slice K2 sZ.l.length t2, .int .u64 sZ.u])
            case first =>
              refine wp_region_held_drew (S := (fun W => (∀ b o, b < w9.heap.size → W.cell? ⟨b, o, none⟩ = w9.cell? ⟨b, o, none⟩) ∧ Below w9.heap.size w9 W)) (by kernel_rfl) ?_ (fun hHeld => ?_)
              · (try dsimp only); (first | (refine ext_mk ?_; exact belt))
              refine take_at (i := 0) (some 78) rfl rfl (by kernel_rfl) (fun _ _ _ h => h) (by rfl) (v := ?_) ?_ (by assumption) ?_
              rotate_left
              · intro W hSw; (try dsimp only at hSw); go_simp; (try with_reducible rfl)
              (try simp only [Act.put, List.setIfInBounds_toArray, List.set_cons_zero, List.set_cons_succ])
              refine take_at (i := 2) (some 80) rfl rfl (by kernel_rfl) (fun _ _ _ h => h) (by rfl) (v := ?_) ?_ (by assumption) ?_
              rotate_left
              · intro W hSw; (try dsimp only at hSw); go_simp; (try with_reducible rfl)
              (try simp only [Act.put, List.setIfInBounds_toArray, List.set_cons_zero, List.set_cons_succ])
              refine wpAnyH_ready (rs := [1, 4, 5]) (by kernel_rfl) (by simp) ?_
              refine AllReadyH.cons rfl (fun K hK => ?_) (AllReadyH.cons rfl (fun K hK => ?_) (AllReadyH.cons rfl (fun K hK => ?_) AllReadyH.nil))
              · go_simp
                ((first | (go_at_call 30; (with_reducible refine (H_q10.out _ ?_).mono ?_); (focus (exact (And.right (by assumption : _ ∧ Below w9.heap.size w9 _)))); rintro e w10 ⟨rfl, hbw10⟩; have gw10 := Below.trans (And.right (by assumption : _ ∧ Below w9.heap.size w9 _)) (hbw10.mono (Below.size (And.right (by assumption : _ ∧ Below w9.heap.size w9 _)))); have gsw10 := gw10.size; have hcf := bcell hbw10; have hcw10 := hcf.1; have hfw10 := hcf.2; have hsw10 := hbw10.size; (try simp only [World.size_alloc, World.heap_drewN, heap_drew] at hsw10); have H_hbw10 := Lib.hid hbw10; clear hbw10 hcf; (try have hzw10 : w9.heap.size < w10.heap.size := by omega)) | (go_at_call 30; (with_reducible refine (H_q11.out _ ?_).mono ?_); (focus (exact (And.right (by assumption : _ ∧ Below w9.heap.size w9 _)))); rintro e w11 ⟨rfl, hbw11⟩; have gw11 := Below.trans (And.right (by assumption : _ ∧ Below w9.heap.size w9 _)) (hbw11.mono (Below.size (And.right (by assumption : _ ∧ Below w9.heap.size w9 _)))); have gsw11 := gw11.size; have hcf := bcell hbw11; have hcw11 := hcf.1; have hfw11 := hcf.2; have hsw11 := hbw11.size; (try simp only [World.size_alloc, World.heap_drewN, heap_drew] at hsw11); have H_hbw11 := Lib.hid hbw11; clear hbw11 hcf; (try have hzw11 : w9.heap.size < w11.heap.size := by omega))); (try have hzA : w10.heap.size < w11.heap.size := by omega); (try have hzB : w9.heap.size + 1 < w10.heap.size := by omega); (try have hzC : w9.heap.size + 1 < w11.heap.size := by omega); (try have hzD : w10.heap.size + 1 < w11.heap.size := by omega))
                refine hK.out _ _ ?_ (fun hHeld => ?_)
                · (try dsimp only); (first | (refine ext_mk ?_; exact belt))
                clear hK K
                (try simp only [Act.put, List.setIfInBounds_toArray, List.set_cons_zero, List.set_cons_succ])
                refine wpAnyH_ready (rs := [3, 4, 5]) (by kernel_rfl) (by simp) ?_
                refine AllReadyH.cons rfl (fun K hK => ?_) (AllReadyH.cons rfl (fun K hK => ?_) (AllReadyH.cons rfl (fun K hK => ?_) AllReadyH.nil))
                · go_simp
                  ((first | (go_at_call 30; (with_reducible refine (H_q10.out _ ?_).mono ?_); (focus (exact (And.right (by assumption : _ ∧ Below w9.heap.size w9 _)))); rintro e w10 ⟨rfl, hbw10⟩; have gw10 := Below.trans (And.right (by assumption : _ ∧ Below w9.heap.size w9 _)) (hbw10.mono (Below.size (And.right (by assumption : _ ∧ Below w9.heap.size w9 _)))); have gsw10 := gw10.size; have hcf := bcell hbw10; have hcw10 := hcf.1; have hfw10 := hcf.2; have hsw10 := hbw10.size; (try simp only [World.size_alloc, World.heap_drewN, heap_drew] at hsw10); have H_hbw10 := Lib.hid hbw10; clear hbw10 hcf; (try have hzw10 : w9.heap.size < w10.heap.size := by omega)) | (go_at_call 30; (with_reducible refine (H_q11.out _ ?_).mono ?_); (focus (exact (And.right (by assumption : _ ∧ Below w9.heap.size w9 _)))); rintro e w11 ⟨rfl, hbw11⟩; have gw11 := Below.trans (And.right (by assumption : _ ∧ Below w9.heap.size w9 _)) (hbw11.mono (Below.size (And.right (by assumption : _ ∧ Below w9.heap.size w9 _)))); have gsw11 := gw11.size; have hcf := bcell hbw11; have hcw11 := hcf.1; have hfw11 := hcf.2; have hsw11 := hbw11.size; (try simp only [World.size_alloc, World.heap_drewN, heap_drew] at hsw11); have H_hbw11 := Lib.hid hbw11; clear hbw11 hcf; (try have hzw11 : w9.heap.size < w11.heap.size := by omega))); (try have hzA : w10.heap.size < w11.heap.size := by omega); (try have hzB : w9.heap.size + 1 < w10.heap.size := by omega); (try have hzC : w9.heap.size + 1 < w11.heap.size := by omega); (try have hzD : w10.heap.size + 1 < w11.heap.size := by omega))
                  refine hK.out _ _ ?_ (fun hHeld => ?_)
                  · (try dsimp only); (first | (refine ext_mk ?_; exact belt))
                  clear hK K
                  (try simp only [Act.put, List.setIfInBounds_toArray, List.set_cons_zero, List.set_cons_succ])
                  refine wpAnyH_ready (rs := [4, 5]) (by kernel_rfl) (by simp) ?_
                  refine AllReadyH.cons rfl (fun K hK => ?_) (AllReadyH.cons rfl (fun K hK => ?_) AllReadyH.nil)
                  · go_simp
                    refine hK.out _ _ ?_ (fun hHeld => ?_)
                    · (try dsimp only); (first | (refine ext_mk ?_; exact belt))
                    clear hK K
                    (try simp only [Act.put, List.setIfInBounds_toArray, List.set_cons_zero, List.set_cons_succ])
                    refine wpAnyH_ready (rs := [5]) (by kernel_rfl) (by simp) ?_
                    refine AllReadyH.cons rfl (fun K hK => ?_) AllReadyH.nil
                    · go_simp
                      refine hK.out _ _ ?_ (fun hHeld => ?_)
                      · (try dsimp only); (first | (refine ext_mk ?_; exact belt))
                      clear hK K
                      (try simp only [Act.put, List.setIfInBounds_toArray, List.set_cons_zero, List.set_cons_succ])
                      refine wpAnyH_ready (rs := [6]) (by kernel_rfl) (by simp) ?_
                      refine AllReadyH.cons rfl (fun K hK => ?_) AllReadyH.nil
                      · go_simp
                        refine hK.out _ _ ?_ (fun hHeld => ?_)
                        · (try dsimp only); (first | (refine ext_mk ?_; exact belt))
                        clear hK K
                        (try simp only [Act.put, List.setIfInBounds_toArray, List.set_cons_zero, List.set_cons_succ])
                        refine wpAnyH_ready (rs := [7]) (by kernel_rfl) (by simp) ?_
                        refine AllReadyH.cons rfl (fun K hK => ?_) AllReadyH.nil
                        · go_simp
                          refine hK.out _ _ ?_ (fun hHeld => ?_)
                          · (try dsimp only); (first | (refine ext_mk ?_; exact belt))
                          clear hK K
                          (try simp only [Act.put, List.setIfInBounds_toArray, List.set_cons_zero, List.set_cons_succ])
                          refine wpAnyH_done (by kernel_rfl) ?_ _
                          (go_wp2_with fail; go_meet; (case rel => exact ⟨_, _, rfl, rfl, by first | with_reducible exact two_nn gw11 | with_reducible exact (two_nn gw11).drew⟩))
                  · go_simp
                    refine hK.out _ _ ?_ (fun hHeld => ?_)
                    · (try dsimp only); (first | (refine ext_mk ?_; exact belt))
                    clear hK K
                    (try simp only [Act.put, List.setIfInBounds_toArray, List.set_cons_zero, List.set_cons_succ])
                    refine wpAnyH_ready (rs := [4]) (by kernel_rfl) (by simp) ?_
                    refine AllReadyH.cons rfl (fun K hK => ?_) AllReadyH.nil
                    · go_simp
                      refine hK.out _ _ ?_ (fun hHeld => ?_)
                      · (try dsimp only); (first | (refine ext_mk ?_; exact belt))
                      clear hK K
                      (try simp only [Act.put, List.setIfInBounds_toArray, List.set_cons_zero, List.set_cons_succ])
                      refine wpAnyH_ready (rs := [6]) (by kernel_rfl) (by simp) ?_
                      refine AllReadyH.cons rfl (fun K hK => ?_) AllReadyH.nil
                      · go_simp
                        refine hK.out _ _ ?_ (fun hHeld => ?_)
                        · (try dsimp only); (first | (refine ext_mk ?_; exact belt))
                        clear hK K
                        (try simp only [Act.put, List.setIfInBounds_toArray, List.set_cons_zero, List.set_cons_succ])
                        refine wpAnyH_ready (rs := [7]) (by kernel_rfl) (by simp) ?_
                        refine AllReadyH.cons rfl (fun K hK => ?_) AllReadyH.nil
                        · go_simp
                          refine hK.out _ _ ?_ (fun hHeld => ?_)
                          · (try dsimp only); (first | (refine ext_mk ?_; exact belt))
                          clear hK K
                          (try simp only [Act.put, List.setIfInBounds_toArray, List.set_cons_zero, List.set_cons_succ])
                          refine wpAnyH_done (by kernel_rfl) ?_ _
                          (go_wp2_with fail; go_meet; (case rel => exact ⟨_, _, rfl, rfl, by first | with_reducible exact two_nn' gw11 | with_reducible exact (two_nn' gw11).drew⟩))
                · go_simp
                  refine hK.out _ _ ?_ (fun hHeld => ?_)
                  · (try dsimp only); (first | (refine ext_mk ?_; exact belt))
                  clear hK K
                  (try simp only [Act.put, List.setIfInBounds_toArray, List.set_cons_zero, List.set_cons_succ])
                  refine wpAnyH_ready (rs := [3, 5]) (by kernel_rfl) (by simp) ?_
                  refine AllReadyH.cons rfl (fun K hK => ?_) (AllReadyH.cons rfl (fun K hK => ?_) AllReadyH.nil)
                  · go_simp
                    ((first | (go_at_call 30; (with_reducible refine (H_q10.out _ ?_).mono ?_); (focus (exact (And.right (by assumption : _ ∧ Below w9.heap.size w9 _)))); rintro e w10 ⟨rfl, hbw10⟩; have gw10 := Below.trans (And.right (by assumption : _ ∧ Below w9.heap.size w9 _)) (hbw10.mono (Below.size (And.right (by assumption : _ ∧ Below w9.heap.size w9 _)))); have gsw10 := gw10.size; have hcf := bcell hbw10; have hcw10 := hcf.1; have hfw10 := hcf.2; have hsw10 := hbw10.size; (try simp only [World.size_alloc, World.heap_drewN, heap_drew] at hsw10); have H_hbw10 := Lib.hid hbw10; clear hbw10 hcf; (try have hzw10 : w9.heap.size < w10.heap.size := by omega)) | (go_at_call 30; (with_reducible refine (H_q11.out _ ?_).mono ?_); (focus (exact (And.right (by assumption : _ ∧ Below w9.heap.size w9 _)))); rintro e w11 ⟨rfl, hbw11⟩; have gw11 := Below.trans (And.right (by assumption : _ ∧ Below w9.heap.size w9 _)) (hbw11.mono (Below.size (And.right (by assumption : _ ∧ Below w9.heap.size w9 _)))); have gsw11 := gw11.size; have hcf := bcell hbw11; have hcw11 := hcf.1; have hfw11 := hcf.2; have hsw11 := hbw11.size; (try simp only [World.size_alloc, World.heap_drewN, heap_drew] at hsw11); have H_hbw11 := Lib.hid hbw11; clear hbw11 hcf; (try have hzw11 : w9.heap.size < w11.heap.size := by omega))); (try have hzA : w10.heap.size < w11.heap.size := by omega); (try have hzB : w9.heap.size + 1 < w10.heap.size := by omega); (try have hzC : w9.heap.size + 1 < w11.heap.size := by omega); (try have hzD : w10.heap.size + 1 < w11.heap.size := by omega))
                    refine hK.out _ _ ?_ (fun hHeld => ?_)
                    · (try dsimp only); (first | (refine ext_mk ?_; exact belt))
                    clear hK K
                    (try simp only [Act.put, List.setIfInBounds_toArray, List.set_cons_zero, List.set_cons_succ])
                    refine wpAnyH_ready (rs := [5]) (by kernel_rfl) (by simp) ?_
                    refine AllReadyH.cons rfl (fun K hK => ?_) AllReadyH.nil
                    · go_simp
                      refine hK.out _ _ ?_ (fun hHeld => ?_)
                      · (try dsimp only); (first | (refine ext_mk ?_; exact belt))
                      clear hK K
                      (try simp only [Act.put, List.setIfInBounds_toArray, List.set_cons_zero, List.set_cons_succ])
                      refine wpAnyH_ready (rs := [6]) (by kernel_rfl) (by simp) ?_
                      refine AllReadyH.cons rfl (fun K hK => ?_) AllReadyH.nil
                      · go_simp
                        refine hK.out _ _ ?_ (fun hHeld => ?_)
                        · (try dsimp only); (first | (refine ext_mk ?_; exact belt))
                        clear hK K
                        (try simp only [Act.put, List.setIfInBounds_toArray, List.set_cons_zero, List.set_cons_succ])
                        refine wpAnyH_ready (rs := [7]) (by kernel_rfl) (by simp) ?_
                        refine AllReadyH.cons rfl (fun K hK => ?_) AllReadyH.nil
                        · go_simp
                          refine hK.out _ _ ?_ (fun hHeld => ?_)
                          · (try dsimp only); (first | (refine ext_mk ?_; exact belt))
                          clear hK K
                          (try simp only [Act.put, List.setIfInBounds_toArray, List.set_cons_zero, List.set_cons_succ])
                          refine wpAnyH_done (by kernel_rfl) ?_ _
                          (go_wp2_with fail; go_meet; (case rel => exact ⟨_, _, rfl, rfl, by first | with_reducible exact two_on ((blk_new rfl).below H_hbw11.out) (by first | omega | (simp; omega)) gw11 | with_reducible exact (two_on ((blk_new rfl).below H_hbw11.out) (by first | omega | (simp; omega)) gw11).drew⟩))
                  · go_simp
                    refine hK.out _ _ ?_ (fun hHeld => ?_)
                    · (try dsimp only); (first | (refine ext_mk ?_; exact belt))
                    clear hK K
                    (try simp only [Act.put, List.setIfInBounds_toArray, List.set_cons_zero, List.set_cons_succ])
                    refine wpAnyH_ready (rs := [3]) (by kernel_rfl) (by simp) ?_
                    refine AllReadyH.cons rfl (fun K hK => ?_) AllReadyH.nil
                    · go_simp
                      ((first | (go_at_call 30; (with_reducible refine (H_q10.out _ ?_).mono ?_); (focus (exact (And.right (by assumption : _ ∧ Below w9.heap.size w9 _)))); rintro e w10 ⟨rfl, hbw10⟩; have gw10 := Below.trans (And.right (by assumption : _ ∧ Below w9.heap.size w9 _)) (hbw10.mono (Below.size (And.right (by assumption : _ ∧ Below w9.heap.size w9 _)))); have gsw10 := gw10.size; have hcf := bcell hbw10; have hcw10 := hcf.1; have hfw10 := hcf.2; have hsw10 := hbw10.size; (try simp only [World.size_alloc, World.heap_drewN, heap_drew] at hsw10); have H_hbw10 := Lib.hid hbw10; clear hbw10 hcf; (try have hzw10 : w9.heap.size < w10.heap.size := by omega)) | (go_at_call 30; (with_reducible refine (H_q11.out _ ?_).mono ?_); (focus (exact (And.right (by assumption : _ ∧ Below w9.heap.size w9 _)))); rintro e w11 ⟨rfl, hbw11⟩; have gw11 := Below.trans (And.right (by assumption : _ ∧ Below w9.heap.size w9 _)) (hbw11.mono (Below.size (And.right (by assumption : _ ∧ Below w9.heap.size w9 _)))); have gsw11 := gw11.size; have hcf := bcell hbw11; have hcw11 := hcf.1; have hfw11 := hcf.2; have hsw11 := hbw11.size; (try simp only [World.size_alloc, World.heap_drewN, heap_drew] at hsw11); have H_hbw11 := Lib.hid hbw11; clear hbw11 hcf; (try have hzw11 : w9.heap.size < w11.heap.size := by omega))); (try have hzA : w10.heap.size < w11.heap.size := by omega); (try have hzB : w9.heap.size + 1 < w10.heap.size := by omega); (try have hzC : w9.heap.size + 1 < w11.heap.size := by omega); (try have hzD : w10.heap.size + 1 < w11.heap.size := by omega))
                      refine hK.out _ _ ?_ (fun hHeld => ?_)
                      · (try dsimp only); (first | (refine ext_mk ?_; exact belt))
                      clear hK K
                      (try simp only [Act.put, List.setIfInBounds_toArray, List.set_cons_zero, List.set_cons_succ])
                      refine wpAnyH_ready (rs := [6]) (by kernel_rfl) (by simp) ?_
                      refine AllReadyH.cons rfl (fun K hK => ?_) AllReadyH.nil
                      · go_simp
                        refine hK.out _ _ ?_ (fun hHeld => ?_)
                        · (try dsimp only); (first | (refine ext_mk ?_; exact belt))
                        clear hK K
                        (try simp only [Act.put, List.setIfInBounds_toArray, List.set_cons_zero, List.set_cons_succ])
                        refine wpAnyH_ready (rs := [7]) (by kernel_rfl) (by simp) ?_
                        refine AllReadyH.cons rfl (fun K hK => ?_) AllReadyH.nil
                        · go_simp
                          refine hK.out _ _ ?_ (fun hHeld => ?_)
                          · (try dsimp only); (first | (refine ext_mk ?_; exact belt))
                          clear hK K
                          (try simp only [Act.put, List.setIfInBounds_toArray, List.set_cons_zero, List.set_cons_succ])
                          refine wpAnyH_done (by kernel_rfl) ?_ _
                          (go_wp2_with fail; go_meet; (case rel => exact ⟨_, _, rfl, rfl, by first | with_reducible exact two_oo (((blk_new rfl).alloc _).below H_hbw11.out) ((blk_new (by simp)).below H_hbw11.out) (by first | omega | (simp; omega)) (by first | omega | (simp; omega)) (by first | omega | (simp; omega)) gw11 | with_reducible exact (two_oo (((blk_new rfl).alloc _).below H_hbw11.out) ((blk_new (by simp)).below H_hbw11.out) (by first | omega | (simp; omega)) (by first | omega | (simp; omega)) (by first | omega | (simp; omega)) gw11).drew⟩))
                · go_simp
                  refine hK.out _ _ ?_ (fun hHeld => ?_)
                  · (try dsimp only); (first | (refine ext_mk ?_; exact belt))
                  clear hK K
                  (try simp only [Act.put, List.setIfInBounds_toArray, List.set_cons_zero, List.set_cons_succ])
                  refine wpAnyH_ready (rs := [3, 4]) (by kernel_rfl) (by simp) ?_
                  refine AllReadyH.cons rfl (fun K hK => ?_) (AllReadyH.cons rfl (fun K hK => ?_) AllReadyH.nil)
                  · go_simp
                    ((first | (go_at_call 30; (with_reducible refine (H_q10.out _ ?_).mono ?_); (focus (exact (And.right (by assumption : _ ∧ Below w9.heap.size w9 _)))); rintro e w10 ⟨rfl, hbw10⟩; have gw10 := Below.trans (And.right (by assumption : _ ∧ Below w9.heap.size w9 _)) (hbw10.mono (Below.size (And.right (by assumption : _ ∧ Below w9.heap.size w9 _)))); have gsw10 := gw10.size; have hcf := bcell hbw10; have hcw10 := hcf.1; have hfw10 := hcf.2; have hsw10 := hbw10.size; (try simp only [World.size_alloc, World.heap_drewN, heap_drew] at hsw10); have H_hbw10 := Lib.hid hbw10; clear hbw10 hcf; (try have hzw10 : w9.heap.size < w10.heap.size := by omega)) | (go_at_call 30; (with_reducible refine (H_q11.out _ ?_).mono ?_); (focus (exact (And.right (by assumption : _ ∧ Below w9.heap.size w9 _)))); rintro e w11 ⟨rfl, hbw11⟩; have gw11 := Below.trans (And.right (by assumption : _ ∧ Below w9.heap.size w9 _)) (hbw11.mono (Below.size (And.right (by assumption : _ ∧ Below w9.heap.size w9 _)))); have gsw11 := gw11.size; have hcf := bcell hbw11; have hcw11 := hcf.1; have hfw11 := hcf.2; have hsw11 := hbw11.size; (try simp only [World.size_alloc, World.heap_drewN, heap_drew] at hsw11); have H_hbw11 := Lib.hid hbw11; clear hbw11 hcf; (try have hzw11 : w9.heap.size < w11.heap.size := by omega))); (try have hzA : w10.heap.size < w11.heap.size := by omega); (try have hzB : w9.heap.size + 1 < w10.heap.size := by omega); (try have hzC : w9.heap.size + 1 < w11.heap.size := by omega); (try have hzD : w10.heap.size + 1 < w11.heap.size := by omega))
                    refine hK.out _ _ ?_ (fun hHeld => ?_)
                    · (try dsimp only); (first | (refine ext_mk ?_; exact belt))
                    clear hK K
                    (try simp only [Act.put, List.setIfInBounds_toArray, List.set_cons_zero, List.set_cons_succ])
                    refine wpAnyH_ready (rs := [4]) (by kernel_rfl) (by simp) ?_
                    refine AllReadyH.cons rfl (fun K hK => ?_) AllReadyH.nil
                    · go_simp
                      refine hK.out _ _ ?_ (fun hHeld => ?_)
                      · (try dsimp only); (first | (refine ext_mk ?_; exact belt))
                      clear hK K
                      (try simp only [Act.put, List.setIfInBounds_toArray, List.set_cons_zero, List.set_cons_succ])
                      refine wpAnyH_ready (rs := [6]) (by kernel_rfl) (by simp) ?_
                      refine AllReadyH.cons rfl (fun K hK => ?_) AllReadyH.nil
                      · go_simp
                        refine hK.out _ _ ?_ (fun hHeld => ?_)
                        · (try dsimp only); (first | (refine ext_mk ?_; exact belt))
                        clear hK K
                        (try simp only [Act.put, List.setIfInBounds_toArray, List.set_cons_zero, List.set_cons_succ])
                        refine wpAnyH_ready (rs := [7]) (by kernel_rfl) (by simp) ?_
                        refine AllReadyH.cons rfl (fun K hK => ?_) AllReadyH.nil
                        · go_simp
                          refine hK.out _ _ ?_ (fun hHeld => ?_)
                          · (try dsimp only); (first | (refine ext_mk ?_; exact belt))
                          clear hK K
                          (try simp only [Act.put, List.setIfInBounds_toArray, List.set_cons_zero, List.set_cons_succ])
                          refine wpAnyH_done (by kernel_rfl) ?_ _
                          (go_wp2_with fail; go_meet; (case rel => exact ⟨_, _, rfl, rfl, by first | with_reducible exact two_no ((blk_new rfl).below H_hbw11.out) (by first | omega | (simp; omega)) gw11 | with_reducible exact (two_no ((blk_new rfl).below H_hbw11.out) (by first | omega | (simp; omega)) gw11).drew⟩))
                  · go_simp
                    refine hK.out _ _ ?_ (fun hHeld => ?_)
                    · (try dsimp only); (first | (refine ext_mk ?_; exact belt))
                    clear hK K
                    (try simp only [Act.put, List.setIfInBounds_toArray, List.set_cons_zero, List.set_cons_succ])
                    refine wpAnyH_ready (rs := [3]) (by kernel_rfl) (by simp) ?_
                    refine AllReadyH.cons rfl (fun K hK => ?_) AllReadyH.nil
                    · go_simp
                      ((first | (go_at_call 30; (with_reducible refine (H_q10.out _ ?_).mono ?_); (focus (exact (And.right (by assumption : _ ∧ Below w9.heap.size w9 _)))); rintro e w10 ⟨rfl, hbw10⟩; have gw10 := Below.trans (And.right (by assumption : _ ∧ Below w9.heap.size w9 _)) (hbw10.mono (Below.size (And.right (by assumption : _ ∧ Below w9.heap.size w9 _)))); have gsw10 := gw10.size; have hcf := bcell hbw10; have hcw10 := hcf.1; have hfw10 := hcf.2; have hsw10 := hbw10.size; (try simp only [World.size_alloc, World.heap_drewN, heap_drew] at hsw10); have H_hbw10 := Lib.hid hbw10; clear hbw10 hcf; (try have hzw10 : w9.heap.size < w10.heap.size := by omega)) | (go_at_call 30; (with_reducible refine (H_q11.out _ ?_).mono ?_); (focus (exact (And.right (by assumption : _ ∧ Below w9.heap.size w9 _)))); rintro e w11 ⟨rfl, hbw11⟩; have gw11 := Below.trans (And.right (by assumption : _ ∧ Below w9.heap.size w9 _)) (hbw11.mono (Below.size (And.right (by assumption : _ ∧ Below w9.heap.size w9 _)))); have gsw11 := gw11.size; have hcf := bcell hbw11; have hcw11 := hcf.1; have hfw11 := hcf.2; have hsw11 := hbw11.size; (try simp only [World.size_alloc, World.heap_drewN, heap_drew] at hsw11); have H_hbw11 := Lib.hid hbw11; clear hbw11 hcf; (try have hzw11 : w9.heap.size < w11.heap.size := by omega))); (try have hzA : w10.heap.size < w11.heap.size := by omega); (try have hzB : w9.heap.size + 1 < w10.heap.size := by omega); (try have hzC : w9.heap.size + 1 < w11.heap.size := by omega); (try have hzD : w10.heap.size + 1 < w11.heap.size := by omega))
                      refine hK.out _ _ ?_ (fun hHeld => ?_)
                      · (try dsimp only); (first | (refine ext_mk ?_; exact belt))
                      clear hK K
                      (try simp only [Act.put, List.setIfInBounds_toArray, List.set_cons_zero, List.set_cons_succ])
                      refine wpAnyH_ready (rs := [6]) (by kernel_rfl) (by simp) ?_
                      refine AllReadyH.cons rfl (fun K hK => ?_) AllReadyH.nil
                      · go_simp
                        refine hK.out _ _ ?_ (fun hHeld => ?_)
                        · (try dsimp only); (first | (refine ext_mk ?_; exact belt))
                        clear hK K
                        (try simp only [Act.put, List.setIfInBounds_toArray, List.set_cons_zero, List.set_cons_succ])
                        refine wpAnyH_ready (rs := [7]) (by kernel_rfl) (by simp) ?_
                        refine AllReadyH.cons rfl (fun K hK => ?_) AllReadyH.nil
                        · go_simp
                          refine hK.out _ _ ?_ (fun hHeld => ?_)
                          · (try dsimp only); (first | (refine ext_mk ?_; exact belt))
                          clear hK K
                          (try simp only [Act.put, List.setIfInBounds_toArray, List.set_cons_zero, List.set_cons_succ])
                          refine wpAnyH_done (by kernel_rfl) ?_ _
                          (go_wp2_with fail; go_meet; (case rel => exact ⟨_, _, rfl, rfl, by first | with_reducible exact two_oo ((blk_new (by simp)).below H_hbw11.out) (((blk_new rfl).alloc _).below H_hbw11.out) (by first | omega | (simp; omega)) (by first | omega | (simp; omega)) (by first | omega | (simp; omega)) gw11 | with_reducible exact (two_oo ((blk_new (by simp)).below H_hbw11.out) (((blk_new rfl).alloc _).below H_hbw11.out) (by first | omega | (simp; omega)) (by first | omega | (simp; omega)) (by first | omega | (simp; omega)) gw11).drew⟩))
              · go_simp
                refine hK.out _ _ ?_ (fun hHeld => ?_)
                · (try dsimp only); (first | (refine ext_mk ?_; exact belt))
                clear hK K
                (try simp only [Act.put, List.setIfInBounds_toArray, List.set_cons_zero, List.set_cons_succ])
                refine wpAnyH_ready (rs := [1, 5]) (by kernel_rfl) (by simp) ?_
                refine AllReadyH.cons rfl (fun K hK => ?_) (AllReadyH.cons rfl (fun K hK => ?_) AllReadyH.nil)
                · go_simp
                  ((first | (go_at_call 30; (with_reducible refine (H_q10.out _ ?_).mono ?_); (focus (exact (And.right (by assumption : _ ∧ Below w9.heap.size w9 _)))); rintro e w10 ⟨rfl, hbw10⟩; have gw10 := Below.trans (And.right (by assumption : _ ∧ Below w9.heap.size w9 _)) (hbw10.mono (Below.size (And.right (by assumption : _ ∧ Below w9.heap.size w9 _)))); have gsw10 := gw10.size; have hcf := bcell hbw10; have hcw10 := hcf.1; have hfw10 := hcf.2; have hsw10 := hbw10.size; (try simp only [World.size_alloc, World.heap_drewN, heap_drew] at hsw10); have H_hbw10 := Lib.hid hbw10; clear hbw10 hcf; (try have hzw10 : w9.heap.size < w10.heap.size := by omega)) | (go_at_call 30; (with_reducible refine (H_q11.out _ ?_).mono ?_); (focus (exact (And.right (by assumption : _ ∧ Below w9.heap.size w9 _)))); rintro e w11 ⟨rfl, hbw11⟩; have gw11 := Below.trans (And.right (by assumption : _ ∧ Below w9.heap.size w9 _)) (hbw11.mono (Below.size (And.right (by assumption : _ ∧ Below w9.heap.size w9 _)))); have gsw11 := gw11.size; have hcf := bcell hbw11; have hcw11 := hcf.1; have hfw11 := hcf.2; have hsw11 := hbw11.size; (try simp only [World.size_alloc, World.heap_drewN, heap_drew] at hsw11); have H_hbw11 := Lib.hid hbw11; clear hbw11 hcf; (try have hzw11 : w9.heap.size < w11.heap.size := by omega))); (try have hzA : w10.heap.size < w11.heap.size := by omega); (try have hzB : w9.heap.size + 1 < w10.heap.size := by omega); (try have hzC : w9.heap.size + 1 < w11.heap.size := by omega); (try have hzD : w10.heap.size + 1 < w11.heap.size := by omega))
                  refine hK.out _ _ ?_ (fun hHeld => ?_)
                  · (try dsimp only); (first | (refine ext_mk ?_; exact belt))
                  clear hK K
                  (try simp only [Act.put, List.setIfInBounds_toArray, List.set_cons_zero, List.set_cons_succ])
                  refine wpAnyH_ready (rs := [3, 5]) (by kernel_rfl) (by simp) ?_
                  refine AllReadyH.cons rfl (fun K hK => ?_) (AllReadyH.cons rfl (fun K hK => ?_) AllReadyH.nil)
                  · go_simp
                    ((first | (go_at_call 30; (with_reducible refine (H_q10.out _ ?_).mono ?_); (focus (exact (And.right (by assumption : _ ∧ Below w9.heap.size w9 _)))); rintro e w10 ⟨rfl, hbw10⟩; have gw10 := Below.trans (And.right (by assumption : _ ∧ Below w9.heap.size w9 _)) (hbw10.mono (Below.size (And.right (by assumption : _ ∧ Below w9.heap.size w9 _)))); have gsw10 := gw10.size; have hcf := bcell hbw10; have hcw10 := hcf.1; have hfw10 := hcf.2; have hsw10 := hbw10.size; (try simp only [World.size_alloc, World.heap_drewN, heap_drew] at hsw10); have H_hbw10 := Lib.hid hbw10; clear hbw10 hcf; (try have hzw10 : w9.heap.size < w10.heap.size := by omega)) | (go_at_call 30; (with_reducible refine (H_q11.out _ ?_).mono ?_); (focus (exact (And.right (by assumption : _ ∧ Below w9.heap.size w9 _)))); rintro e w11 ⟨rfl, hbw11⟩; have gw11 := Below.trans (And.right (by assumption : _ ∧ Below w9.heap.size w9 _)) (hbw11.mono (Below.size (And.right (by assumption : _ ∧ Below w9.heap.size w9 _)))); have gsw11 := gw11.size; have hcf := bcell hbw11; have hcw11 := hcf.1; have hfw11 := hcf.2; have hsw11 := hbw11.size; (try simp only [World.size_alloc, World.heap_drewN, heap_drew] at hsw11); have H_hbw11 := Lib.hid hbw11; clear hbw11 hcf; (try have hzw11 : w9.heap.size < w11.heap.size := by omega))); (try have hzA : w10.heap.size < w11.heap.size := by omega); (try have hzB : w9.heap.size + 1 < w10.heap.size := by omega); (try have hzC : w9.heap.size + 1 < w11.heap.size := by omega); (try have hzD : w10.heap.size + 1 < w11.heap.size := by omega))
                    refine hK.out _ _ ?_ (fun hHeld => ?_)
                    · (try dsimp only); (first | (refine ext_mk ?_; exact belt))
                    clear hK K
                    (try simp only [Act.put, List.setIfInBounds_toArray, List.set_cons_zero, List.set_cons_succ])
                    refine wpAnyH_ready (rs := [5]) (by kernel_rfl) (by simp) ?_
                    refine AllReadyH.cons rfl (fun K hK => ?_) AllReadyH.nil
                    · go_simp
                      refine hK.out _ _ ?_ (fun hHeld => ?_)
                      · (try dsimp only); (first | (refine ext_mk ?_; exact belt))
                      clear hK K
                      (try simp only [Act.put, List.setIfInBounds_toArray, List.set_cons_zero, List.set_cons_succ])
                      refine wpAnyH_ready (rs := [6]) (by kernel_rfl) (by simp) ?_
                      refine AllReadyH.cons rfl (fun K hK => ?_) AllReadyH.nil
                      · go_simp
                        refine hK.out _ _ ?_ (fun hHeld => ?_)
                        · (try dsimp only); (first | (refine ext_mk ?_; exact belt))
                        clear hK K
                        (try simp only [Act.put, List.setIfInBounds_toArray, List.set_cons_zero, List.set_cons_succ])
                        refine wpAnyH_ready (rs := [7]) (by kernel_rfl) (by simp) ?_
                        refine AllReadyH.cons rfl (fun K hK => ?_) AllReadyH.nil
                        · go_simp
                          refine hK.out _ _ ?_ (fun hHeld => ?_)
                          · (try dsimp only); (first | (refine ext_mk ?_; exact belt))
                          clear hK K
                          (try simp only [Act.put, List.setIfInBounds_toArray, List.set_cons_zero, List.set_cons_succ])
                          refine wpAnyH_done (by kernel_rfl) ?_ _
                          (go_wp2_with fail; go_meet; (case rel => exact ⟨_, _, rfl, rfl, by first | with_reducible exact two_on ((((blk_new rfl).below (Below.refl _ _).drew).below H_hbw10.out).below H_hbw11.out) (by first | omega | (simp; omega)) gw11 | with_reducible exact (two_on ((((blk_new rfl).below (Below.refl _ _).drew).below H_hbw10.out).below H_hbw11.out) (by first | omega | (simp; omega)) gw11).drew⟩))
                  · go_simp
                    refine hK.out _ _ ?_ (fun hHeld => ?_)
                    · (try dsimp only); (first | (refine ext_mk ?_; exact belt))
                    clear hK K
                    (try simp only [Act.put, List.setIfInBounds_toArray, List.set_cons_zero, List.set_cons_succ])
                    refine wpAnyH_ready (rs := [3]) (by kernel_rfl) (by simp) ?_
                    refine AllReadyH.cons rfl (fun K hK => ?_) AllReadyH.nil
                    · go_simp
                      ((first | (go_at_call 30; (with_reducible refine (H_q10.out _ ?_).mono ?_); (focus (exact (And.right (by assumption : _ ∧ Below w9.heap.size w9 _)))); rintro e w10 ⟨rfl, hbw10⟩; have gw10 := Below.trans (And.right (by assumption : _ ∧ Below w9.heap.size w9 _)) (hbw10.mono (Below.size (And.right (by assumption : _ ∧ Below w9.heap.size w9 _)))); have gsw10 := gw10.size; have hcf := bcell hbw10; have hcw10 := hcf.1; have hfw10 := hcf.2; have hsw10 := hbw10.size; (try simp only [World.size_alloc, World.heap_drewN, heap_drew] at hsw10); have H_hbw10 := Lib.hid hbw10; clear hbw10 hcf; (try have hzw10 : w9.heap.size < w10.heap.size := by omega)) | (go_at_call 30; (with_reducible refine (H_q11.out _ ?_).mono ?_); (focus (exact (And.right (by assumption : _ ∧ Below w9.heap.size w9 _)))); rintro e w11 ⟨rfl, hbw11⟩; have gw11 := Below.trans (And.right (by assumption : _ ∧ Below w9.heap.size w9 _)) (hbw11.mono (Below.size (And.right (by assumption : _ ∧ Below w9.heap.size w9 _)))); have gsw11 := gw11.size; have hcf := bcell hbw11; have hcw11 := hcf.1; have hfw11 := hcf.2; have hsw11 := hbw11.size; (try simp only [World.size_alloc, World.heap_drewN, heap_drew] at hsw11); have H_hbw11 := Lib.hid hbw11; clear hbw11 hcf; (try have hzw11 : w9.heap.size < w11.heap.size := by omega))); (try have hzA : w10.heap.size < w11.heap.size := by omega); (try have hzB : w9.heap.size + 1 < w10.heap.size := by omega); (try have hzC : w9.heap.size + 1 < w11.heap.size := by omega); (try have hzD : w10.heap.size + 1 < w11.heap.size := by omega))
                      refine hK.out _ _ ?_ (fun hHeld => ?_)
                      · (try dsimp only); (first | (refine ext_mk ?_; exact belt))
                      clear hK K
                      (try simp only [Act.put, List.setIfInBounds_toArray, List.set_cons_zero, List.set_cons_succ])
                      refine wpAnyH_ready (rs := [6]) (by kernel_rfl) (by simp) ?_
                      refine AllReadyH.cons rfl (fun K hK => ?_) AllReadyH.nil
                      · go_simp
                        refine hK.out _ _ ?_ (fun hHeld => ?_)
                        · (try dsimp only); (first | (refine ext_mk ?_; exact belt))
                        clear hK K
                        (try simp only [Act.put, List.setIfInBounds_toArray, List.set_cons_zero, List.set_cons_succ])
                        refine wpAnyH_ready (rs := [7]) (by kernel_rfl) (by simp) ?_
                        refine AllReadyH.cons rfl (fun K hK => ?_) AllReadyH.nil
                        · go_simp
                          refine hK.out _ _ ?_ (fun hHeld => ?_)
                          · (try dsimp only); (first | (refine ext_mk ?_; exact belt))
                          clear hK K
                          (try simp only [Act.put, List.setIfInBounds_toArray, List.set_cons_zero, List.set_cons_succ])
                          refine wpAnyH_done (by kernel_rfl) ?_ _
                          (go_wp2_with fail; go_meet; (case rel => exact ⟨_, _, rfl, rfl, by first | with_reducible exact two_oo (((((blk_new rfl).below (Below.refl _ _).drew).below H_hbw10.out).alloc _).below H_hbw11.out) ((blk_new rfl).below H_hbw11.out) (by first | omega | (simp; omega)) (by first | omega | (simp; omega)) (by first | omega | (simp; omega)) gw11 | with_reducible exact (two_oo (((((blk_new rfl).below (Below.refl _ _).drew).below H_hbw10.out).alloc _).below H_hbw11.out) ((blk_new rfl).below H_hbw11.out) (by first | omega | (simp; omega)) (by first | omega | (simp; omega)) (by first | omega | (simp; omega)) gw11).drew⟩))
                · go_simp
                  refine hK.out _ _ ?_ (fun hHeld => ?_)
                  · (try dsimp only); (first | (refine ext_mk ?_; exact belt))
                  clear hK K
                  (try simp only [Act.put, List.setIfInBounds_toArray, List.set_cons_zero, List.set_cons_succ])
                  refine wpAnyH_ready (rs := [1]) (by kernel_rfl) (by simp) ?_
                  refine AllReadyH.cons rfl (fun K hK => ?_) AllReadyH.nil
                  · go_simp
                    ((first | (go_at_call 30; (with_reducible refine (H_q10.out _ ?_).mono ?_); (focus (exact (And.right (by assumption : _ ∧ Below w9.heap.size w9 _)))); rintro e w10 ⟨rfl, hbw10⟩; have gw10 := Below.trans (And.right (by assumption : _ ∧ Below w9.heap.size w9 _)) (hbw10.mono (Below.size (And.right (by assumption : _ ∧ Below w9.heap.size w9 _)))); have gsw10 := gw10.size; have hcf := bcell hbw10; have hcw10 := hcf.1; have hfw10 := hcf.2; have hsw10 := hbw10.size; (try simp only [World.size_alloc, World.heap_drewN, heap_drew] at hsw10); have H_hbw10 := Lib.hid hbw10; clear hbw10 hcf; (try have hzw10 : w9.heap.size < w10.heap.size := by omega)) | (go_at_call 30; (with_reducible refine (H_q11.out _ ?_).mono ?_); (focus (exact (And.right (by assumption : _ ∧ Below w9.heap.size w9 _)))); rintro e w11 ⟨rfl, hbw11⟩; have gw11 := Below.trans (And.right (by assumption : _ ∧ Below w9.heap.size w9 _)) (hbw11.mono (Below.size (And.right (by assumption : _ ∧ Below w9.heap.size w9 _)))); have gsw11 := gw11.size; have hcf := bcell hbw11; have hcw11 := hcf.1; have hfw11 := hcf.2; have hsw11 := hbw11.size; (try simp only [World.size_alloc, World.heap_drewN, heap_drew] at hsw11); have H_hbw11 := Lib.hid hbw11; clear hbw11 hcf; (try have hzw11 : w9.heap.size < w11.heap.size := by omega))); (try have hzA : w10.heap.size < w11.heap.size := by omega); (try have hzB : w9.heap.size + 1 < w10.heap.size := by omega); (try have hzC : w9.heap.size + 1 < w11.heap.size := by omega); (try have hzD : w10.heap.size + 1 < w11.heap.size := by omega))
                    refine hK.out _ _ ?_ (fun hHeld => ?_)
                    · (try dsimp only); (first | (refine ext_mk ?_; exact belt))
                    clear hK K
                    (try simp only [Act.put, List.setIfInBounds_toArray, List.set_cons_zero, List.set_cons_succ])
                    refine wpAnyH_ready (rs := [3]) (by kernel_rfl) (by simp) ?_
                    refine AllReadyH.cons rfl (fun K hK => ?_) AllReadyH.nil
                    · go_simp
                      ((first | (go_at_call 30; (with_reducible refine (H_q10.out _ ?_).mono ?_); (focus (exact (And.right (by assumption : _ ∧ Below w9.heap.size w9 _)))); rintro e w10 ⟨rfl, hbw10⟩; have gw10 := Below.trans (And.right (by assumption : _ ∧ Below w9.heap.size w9 _)) (hbw10.mono (Below.size (And.right (by assumption : _ ∧ Below w9.heap.size w9 _)))); have gsw10 := gw10.size; have hcf := bcell hbw10; have hcw10 := hcf.1; have hfw10 := hcf.2; have hsw10 := hbw10.size; (try simp only [World.size_alloc, World.heap_drewN, heap_drew] at hsw10); have H_hbw10 := Lib.hid hbw10; clear hbw10 hcf; (try have hzw10 : w9.heap.size < w10.heap.size := by omega)) | (go_at_call 30; (with_reducible refine (H_q11.out _ ?_).mono ?_); (focus (exact (And.right (by assumption : _ ∧ Below w9.heap.size w9 _)))); rintro e w11 ⟨rfl, hbw11⟩; have gw11 := Below.trans (And.right (by assumption : _ ∧ Below w9.heap.size w9 _)) (hbw11.mono (Below.size (And.right (by assumption : _ ∧ Below w9.heap.size w9 _)))); have gsw11 := gw11.size; have hcf := bcell hbw11; have hcw11 := hcf.1; have hfw11 := hcf.2; have hsw11 := hbw11.size; (try simp only [World.size_alloc, World.heap_drewN, heap_drew] at hsw11); have H_hbw11 := Lib.hid hbw11; clear hbw11 hcf; (try have hzw11 : w9.heap.size < w11.heap.size := by omega))); (try have hzA : w10.heap.size < w11.heap.size := by omega); (try have hzB : w9.heap.size + 1 < w10.heap.size := by omega); (try have hzC : w9.heap.size + 1 < w11.heap.size := by omega); (try have hzD : w10.heap.size + 1 < w11.heap.size := by omega))
                      refine hK.out _ _ ?_ (fun hHeld => ?_)
                      · (try dsimp only); (first | (refine ext_mk ?_; exact belt))
                      clear hK K
                      (try simp only [Act.put, List.setIfInBounds_toArray, List.set_cons_zero, List.set_cons_succ])
                      refine wpAnyH_ready (rs := [6]) (by kernel_rfl) (by simp) ?_
                      refine AllReadyH.cons rfl (fun K hK => ?_) AllReadyH.nil
                      · go_simp
                        refine hK.out _ _ ?_ (fun hHeld => ?_)
                        · (try dsimp only); (first | (refine ext_mk ?_; exact belt))
                        clear hK K
                        (try simp only [Act.put, List.setIfInBounds_toArray, List.set_cons_zero, List.set_cons_succ])
                        refine wpAnyH_ready (rs := [7]) (by kernel_rfl) (by simp) ?_
                        refine AllReadyH.cons rfl (fun K hK => ?_) AllReadyH.nil
                        · go_simp
                          refine hK.out _ _ ?_ (fun hHeld => ?_)
                          · (try dsimp only); (first | (refine ext_mk ?_; exact belt))
                          clear hK K
                          (try simp only [Act.put, List.setIfInBounds_toArray, List.set_cons_zero, List.set_cons_succ])
                          refine wpAnyH_done (by kernel_rfl) ?_ _
                          (go_wp2_with fail; go_meet; (case rel => exact ⟨_, _, rfl, rfl, by first | with_reducible exact two_oo (((((blk_new rfl).alloc _).below (Below.refl _ _).drew).below H_hbw10.out).below H_hbw11.out) ((((blk_new (by simp)).below (Below.refl _ _).drew).below H_hbw10.out).below H_hbw11.out) (by first | omega | (simp; omega)) (by first | omega | (simp; omega)) (by first | omega | (simp; omega)) gw11 | with_reducible exact (two_oo (((((blk_new rfl).alloc _).below (Below.refl _ _).drew).below H_hbw10.out).below H_hbw11.out) ((((blk_new (by simp)).below (Below.refl _ _).drew).below H_hbw10.out).below H_hbw11.out) (by first | omega | (simp; omega)) (by first | omega | (simp; omega)) (by first | omega | (simp; omega)) gw11).drew⟩))
              · go_simp
                refine hK.out _ _ ?_ (fun hHeld => ?_)
                · (try dsimp only); (first | (refine ext_mk ?_; exact belt))
                clear hK K
                (try simp only [Act.put, List.setIfInBounds_toArray, List.set_cons_zero, List.set_cons_succ])
                refine wpAnyH_ready (rs := [1, 4]) (by kernel_rfl) (by simp) ?_
                refine AllReadyH.cons rfl (fun K hK => ?_) (AllReadyH.cons rfl (fun K hK => ?_) AllReadyH.nil)
                · go_simp
                  ((first | (go_at_call 30; (with_reducible refine (H_q10.out _ ?_).mono ?_); (focus (exact (And.right (by assumption : _ ∧ Below w9.heap.size w9 _)))); rintro e w10 ⟨rfl, hbw10⟩; have gw10 := Below.trans (And.right (by assumption : _ ∧ Below w9.heap.size w9 _)) (hbw10.mono (Below.size (And.right (by assumption : _ ∧ Below w9.heap.size w9 _)))); have gsw10 := gw10.size; have hcf := bcell hbw10; have hcw10 := hcf.1; have hfw10 := hcf.2; have hsw10 := hbw10.size; (try simp only [World.size_alloc, World.heap_drewN, heap_drew] at hsw10); have H_hbw10 := Lib.hid hbw10; clear hbw10 hcf; (try have hzw10 : w9.heap.size < w10.heap.size := by omega)) | (go_at_call 30; (with_reducible refine (H_q11.out _ ?_).mono ?_); (focus (exact (And.right (by assumption : _ ∧ Below w9.heap.size w9 _)))); rintro e w11 ⟨rfl, hbw11⟩; have gw11 := Below.trans (And.right (by assumption : _ ∧ Below w9.heap.size w9 _)) (hbw11.mono (Below.size (And.right (by assumption : _ ∧ Below w9.heap.size w9 _)))); have gsw11 := gw11.size; have hcf := bcell hbw11; have hcw11 := hcf.1; have hfw11 := hcf.2; have hsw11 := hbw11.size; (try simp only [World.size_alloc, World.heap_drewN, heap_drew] at hsw11); have H_hbw11 := Lib.hid hbw11; clear hbw11 hcf; (try have hzw11 : w9.heap.size < w11.heap.size := by omega))); (try have hzA : w10.heap.size < w11.heap.size := by omega); (try have hzB : w9.heap.size + 1 < w10.heap.size := by omega); (try have hzC : w9.heap.size + 1 < w11.heap.size := by omega); (try have hzD : w10.heap.size + 1 < w11.heap.size := by omega))
                  refine hK.out _ _ ?_ (fun hHeld => ?_)
                  · (try dsimp only); (first | (refine ext_mk ?_; exact belt))
                  clear hK K
                  (try simp only [Act.put, List.setIfInBounds_toArray, List.set_cons_zero, List.set_cons_succ])
                  refine wpAnyH_ready (rs := [3, 4]) (by kernel_rfl) (by simp) ?_
                  refine AllReadyH.cons rfl (fun K hK => ?_) (AllReadyH.cons rfl (fun K hK => ?_) AllReadyH.nil)
                  · go_simp
                    ((first | (go_at_call 30; (with_reducible refine (H_q10.out _ ?_).mono ?_); (focus (exact (And.right (by assumption : _ ∧ Below w9.heap.size w9 _)))); rintro e w10 ⟨rfl, hbw10⟩; have gw10 := Below.trans (And.right (by assumption : _ ∧ Below w9.heap.size w9 _)) (hbw10.mono (Below.size (And.right (by assumption : _ ∧ Below w9.heap.size w9 _)))); have gsw10 := gw10.size; have hcf := bcell hbw10; have hcw10 := hcf.1; have hfw10 := hcf.2; have hsw10 := hbw10.size; (try simp only [World.size_alloc, World.heap_drewN, heap_drew] at hsw10); have H_hbw10 := Lib.hid hbw10; clear hbw10 hcf; (try have hzw10 : w9.heap.size < w10.heap.size := by omega)) | (go_at_call 30; (with_reducible refine (H_q11.out _ ?_).mono ?_); (focus (exact (And.right (by assumption : _ ∧ Below w9.heap.size w9 _)))); rintro e w11 ⟨rfl, hbw11⟩; have gw11 := Below.trans (And.right (by assumption : _ ∧ Below w9.heap.size w9 _)) (hbw11.mono (Below.size (And.right (by assumption : _ ∧ Below w9.heap.size w9 _)))); have gsw11 := gw11.size; have hcf := bcell hbw11; have hcw11 := hcf.1; have hfw11 := hcf.2; have hsw11 := hbw11.size; (try simp only [World.size_alloc, World.heap_drewN, heap_drew] at hsw11); have H_hbw11 := Lib.hid hbw11; clear hbw11 hcf; (try have hzw11 : w9.heap.size < w11.heap.size := by omega))); (try have hzA : w10.heap.size < w11.heap.size := by omega); (try have hzB : w9.heap.size + 1 < w10.heap.size := by omega); (try have hzC : w9.heap.size + 1 < w11.heap.size := by omega); (try have hzD : w10.heap.size + 1 < w11.heap.size := by omega))
                    refine hK.out _ _ ?_ (fun hHeld => ?_)
                    · (try dsimp only); (first | (refine ext_mk ?_; exact belt))
                    clear hK K
                    (try simp only [Act.put, List.setIfInBounds_toArray, List.set_cons_zero, List.set_cons_succ])
                    refine wpAnyH_ready (rs := [4]) (by kernel_rfl) (by simp) ?_
                    refine AllReadyH.cons rfl (fun K hK => ?_) AllReadyH.nil
                    · go_simp
                      refine hK.out _ _ ?_ (fun hHeld => ?_)
                      · (try dsimp only); (first | (refine ext_mk ?_; exact belt))
                      clear hK K
                      (try simp only [Act.put, List.setIfInBounds_toArray, List.set_cons_zero, List.set_cons_succ])
                      refine wpAnyH_ready (rs := [6]) (by kernel_rfl) (by simp) ?_
                      refine AllReadyH.cons rfl (fun K hK => ?_) AllReadyH.nil
                      · go_simp
                        refine hK.out _ _ ?_ (fun hHeld => ?_)
                        · (try dsimp only); (first | (refine ext_mk ?_; exact belt))
                        clear hK K
                        (try simp only [Act.put, List.setIfInBounds_toArray, List.set_cons_zero, List.set_cons_succ])
                        refine wpAnyH_ready (rs := [7]) (by kernel_rfl) (by simp) ?_
                        refine AllReadyH.cons rfl (fun K hK => ?_) AllReadyH.nil
                        · go_simp
                          refine hK.out _ _ ?_ (fun hHeld => ?_)
                          · (try dsimp only); (first | (refine ext_mk ?_; exact belt))
                          clear hK K
                          (try simp only [Act.put, List.setIfInBounds_toArray, List.set_cons_zero, List.set_cons_succ])
                          refine wpAnyH_done (by kernel_rfl) ?_ _
                          (go_wp2_with fail; go_meet; (case rel => exact ⟨_, _, rfl, rfl, by first | with_reducible exact two_no ((((blk_new rfl).below (Below.refl _ _).drew).below H_hbw10.out).below H_hbw11.out) (by first | omega | (simp; omega)) gw11 | with_reducible exact (two_no ((((blk_new rfl).below (Below.refl _ _).drew).below H_hbw10.out).below H_hbw11.out) (by first | omega | (simp; omega)) gw11).drew⟩))
                  · go_simp
                    refine hK.out _ _ ?_ (fun hHeld => ?_)
                    · (try dsimp only); (first | (refine ext_mk ?_; exact belt))
                    clear hK K
                    (try simp only [Act.put, List.setIfInBounds_toArray, List.set_cons_zero, List.set_cons_succ])
                    refine wpAnyH_ready (rs := [3]) (by kernel_rfl) (by simp) ?_
                    refine AllReadyH.cons rfl (fun K hK => ?_) AllReadyH.nil
                    · go_simp
                      ((first | (go_at_call 30; (with_reducible refine (H_q10.out _ ?_).mono ?_); (focus (exact (And.right (by assumption : _ ∧ Below w9.heap.size w9 _)))); rintro e w10 ⟨rfl, hbw10⟩; have gw10 := Below.trans (And.right (by assumption : _ ∧ Below w9.heap.size w9 _)) (hbw10.mono (Below.size (And.right (by assumption : _ ∧ Below w9.heap.size w9 _)))); have gsw10 := gw10.size; have hcf := bcell hbw10; have hcw10 := hcf.1; have hfw10 := hcf.2; have hsw10 := hbw10.size; (try simp only [World.size_alloc, World.heap_drewN, heap_drew] at hsw10); have H_hbw10 := Lib.hid hbw10; clear hbw10 hcf; (try have hzw10 : w9.heap.size < w10.heap.size := by omega)) | (go_at_call 30; (with_reducible refine (H_q11.out _ ?_).mono ?_); (focus (exact (And.right (by assumption : _ ∧ Below w9.heap.size w9 _)))); rintro e w11 ⟨rfl, hbw11⟩; have gw11 := Below.trans (And.right (by assumption : _ ∧ Below w9.heap.size w9 _)) (hbw11.mono (Below.size (And.right (by assumption : _ ∧ Below w9.heap.size w9 _)))); have gsw11 := gw11.size; have hcf := bcell hbw11; have hcw11 := hcf.1; have hfw11 := hcf.2; have hsw11 := hbw11.size; (try simp only [World.size_alloc, World.heap_drewN, heap_drew] at hsw11); have H_hbw11 := Lib.hid hbw11; clear hbw11 hcf; (try have hzw11 : w9.heap.size < w11.heap.size := by omega))); (try have hzA : w10.heap.size < w11.heap.size := by omega); (try have hzB : w9.heap.size + 1 < w10.heap.size := by omega); (try have hzC : w9.heap.size + 1 < w11.heap.size := by omega); (try have hzD : w10.heap.size + 1 < w11.heap.size := by omega))
                      refine hK.out _ _ ?_ (fun hHeld => ?_)
                      · (try dsimp only); (first | (refine ext_mk ?_; exact belt))
                      clear hK K
                      (try simp only [Act.put, List.setIfInBounds_toArray, List.set_cons_zero, List.set_cons_succ])
                      refine wpAnyH_ready (rs := [6]) (by kernel_rfl) (by simp) ?_
                      refine AllReadyH.cons rfl (fun K hK => ?_) AllReadyH.nil
                      · go_simp
                        refine hK.out _ _ ?_ (fun hHeld => ?_)
                        · (try dsimp only); (first | (refine ext_mk ?_; exact belt))
                        clear hK K
                        (try simp only [Act.put, List.setIfInBounds_toArray, List.set_cons_zero, List.set_cons_succ])
                        refine wpAnyH_ready (rs := [7]) (by kernel_rfl) (by simp) ?_
                        refine AllReadyH.cons rfl (fun K hK => ?_) AllReadyH.nil
                        · go_simp
                          refine hK.out _ _ ?_ (fun hHeld => ?_)
                          · (try dsimp only); (first | (refine ext_mk ?_; exact belt))
                          clear hK K
                          (try simp only [Act.put, List.setIfInBounds_toArray, List.set_cons_zero, List.set_cons_succ])
                          refine wpAnyH_done (by kernel_rfl) ?_ _
                          (go_wp2_with fail; go_meet; (case rel => exact ⟨_, _, rfl, rfl, by first | with_reducible exact two_oo ((blk_new rfl).below H_hbw11.out) (((((blk_new rfl).below (Below.refl _ _).drew).below H_hbw10.out).alloc _).below H_hbw11.out) (by first | omega | (simp; omega)) (by first | omega | (simp; omega)) (by first | omega | (simp; omega)) gw11 | with_reducible exact (two_oo ((blk_new rfl).below H_hbw11.out) (((((blk_new rfl).below (Below.refl _ _).drew).below H_hbw10.out).alloc _).below H_hbw11.out) (by first | omega | (simp; omega)) (by first | omega | (simp; omega)) (by first | omega | (simp; omega)) gw11).drew⟩))
                · go_simp
                  refine hK.out _ _ ?_ (fun hHeld => ?_)
                  · (try dsimp only); (first | (refine ext_mk ?_; exact belt))
                  clear hK K
                  (try simp only [Act.put, List.setIfInBounds_toArray, List.set_cons_zero, List.set_cons_succ])
                  refine wpAnyH_ready (rs := [1]) (by kernel_rfl) (by simp) ?_
                  refine AllReadyH.cons rfl (fun K hK => ?_) AllReadyH.nil
                  · go_simp
                    ((first | (go_at_call 30; (with_reducible refine (H_q10.out _ ?_).mono ?_); (focus (exact (And.right (by assumption : _ ∧ Below w9.heap.size w9 _)))); rintro e w10 ⟨rfl, hbw10⟩; have gw10 := Below.trans (And.right (by assumption : _ ∧ Below w9.heap.size w9 _)) (hbw10.mono (Below.size (And.right (by assumption : _ ∧ Below w9.heap.size w9 _)))); have gsw10 := gw10.size; have hcf := bcell hbw10; have hcw10 := hcf.1; have hfw10 := hcf.2; have hsw10 := hbw10.size; (try simp only [World.size_alloc, World.heap_drewN, heap_drew] at hsw10); have H_hbw10 := Lib.hid hbw10; clear hbw10 hcf; (try have hzw10 : w9.heap.size < w10.heap.size := by omega)) | (go_at_call 30; (with_reducible refine (H_q11.out _ ?_).mono ?_); (focus (exact (And.right (by assumption : _ ∧ Below w9.heap.size w9 _)))); rintro e w11 ⟨rfl, hbw11⟩; have gw11 := Below.trans (And.right (by assumption : _ ∧ Below w9.heap.size w9 _)) (hbw11.mono (Below.size (And.right (by assumption : _ ∧ Below w9.heap.size w9 _)))); have gsw11 := gw11.size; have hcf := bcell hbw11; have hcw11 := hcf.1; have hfw11 := hcf.2; have hsw11 := hbw11.size; (try simp only [World.size_alloc, World.heap_drewN, heap_drew] at hsw11); have H_hbw11 := Lib.hid hbw11; clear hbw11 hcf; (try have hzw11 : w9.heap.size < w11.heap.size := by omega))); (try have hzA : w10.heap.size < w11.heap.size := by omega); (try have hzB : w9.heap.size + 1 < w10.heap.size := by omega); (try have hzC : w9.heap.size + 1 < w11.heap.size := by omega); (try have hzD : w10.heap.size + 1 < w11.heap.size := by omega))
                    refine hK.out _ _ ?_ (fun hHeld => ?_)
                    · (try dsimp only); (first | (refine ext_mk ?_; exact belt))
                    clear hK K
                    (try simp only [Act.put, List.setIfInBounds_toArray, List.set_cons_zero, List.set_cons_succ])
                    refine wpAnyH_ready (rs := [3]) (by kernel_rfl) (by simp) ?_
                    refine AllReadyH.cons rfl (fun K hK => ?_) AllReadyH.nil
                    · go_simp
                      ((first | (go_at_call 30; (with_reducible refine (H_q10.out _ ?_).mono ?_); (focus (exact (And.right (by assumption : _ ∧ Below w9.heap.size w9 _)))); rintro e w10 ⟨rfl, hbw10⟩; have gw10 := Below.trans (And.right (by assumption : _ ∧ Below w9.heap.size w9 _)) (hbw10.mono (Below.size (And.right (by assumption : _ ∧ Below w9.heap.size w9 _)))); have gsw10 := gw10.size; have hcf := bcell hbw10; have hcw10 := hcf.1; have hfw10 := hcf.2; have hsw10 := hbw10.size; (try simp only [World.size_alloc, World.heap_drewN, heap_drew] at hsw10); have H_hbw10 := Lib.hid hbw10; clear hbw10 hcf; (try have hzw10 : w9.heap.size < w10.heap.size := by omega)) | (go_at_call 30; (with_reducible refine (H_q11.out _ ?_).mono ?_); (focus (exact (And.right (by assumption : _ ∧ Below w9.heap.size w9 _)))); rintro e w11 ⟨rfl, hbw11⟩; have gw11 := Below.trans (And.right (by assumption : _ ∧ Below w9.heap.size w9 _)) (hbw11.mono (Below.size (And.right (by assumption : _ ∧ Below w9.heap.size w9 _)))); have gsw11 := gw11.size; have hcf := bcell hbw11; have hcw11 := hcf.1; have hfw11 := hcf.2; have hsw11 := hbw11.size; (try simp only [World.size_alloc, World.heap_drewN, heap_drew] at hsw11); have H_hbw11 := Lib.hid hbw11; clear hbw11 hcf; (try have hzw11 : w9.heap.size < w11.heap.size := by omega))); (try have hzA : w10.heap.size < w11.heap.size := by omega); (try have hzB : w9.heap.size + 1 < w10.heap.size := by omega); (try have hzC : w9.heap.size + 1 < w11.heap.size := by omega); (try have hzD : w10.heap.size + 1 < w11.heap.size := by omega))
                      refine hK.out _ _ ?_ (fun hHeld => ?_)
                      · (try dsimp only); (first | (refine ext_mk ?_; exact belt))
                      clear hK K
                      (try simp only [Act.put, List.setIfInBounds_toArray, List.set_cons_zero, List.set_cons_succ])
                      refine wpAnyH_ready (rs := [6]) (by kernel_rfl) (by simp) ?_
                      refine AllReadyH.cons rfl (fun K hK => ?_) AllReadyH.nil
                      · go_simp
                        refine hK.out _ _ ?_ (fun hHeld => ?_)
                        · (try dsimp only); (first | (refine ext_mk ?_; exact belt))
                        clear hK K
                        (try simp only [Act.put, List.setIfInBounds_toArray, List.set_cons_zero, List.set_cons_succ])
                        refine wpAnyH_ready (rs := [7]) (by kernel_rfl) (by simp) ?_
                        refine AllReadyH.cons rfl (fun K hK => ?_) AllReadyH.nil
                        · go_simp
                          refine hK.out _ _ ?_ (fun hHeld => ?_)
                          · (try dsimp only); (first | (refine ext_mk ?_; exact belt))
                          clear hK K
                          (try simp only [Act.put, List.setIfInBounds_toArray, List.set_cons_zero, List.set_cons_succ])
                          refine wpAnyH_done (by kernel_rfl) ?_ _
                          (go_wp2_with fail; go_meet; (case rel => exact ⟨_, _, rfl, rfl, by first | with_reducible exact two_oo ((((blk_new (by simp)).below (Below.refl _ _).drew).below H_hbw10.out).below H_hbw11.out) (((((blk_new rfl).alloc _).below (Below.refl _ _).drew).below H_hbw10.out).below H_hbw11.out) (by first | omega | (simp; omega)) (by first | omega | (simp; omega)) (by first | omega | (simp; omega)) gw11 | with_reducible exact (two_oo ((((blk_new (by simp)).below (Below.refl _ _).drew).below H_hbw10.out).below H_hbw11.out) (((((blk_new rfl).alloc _).below (Below.refl _ _).drew).below H_hbw10.out).below H_hbw11.out) (by first | omega | (simp; omega)) (by first | omega | (simp; omega)) (by first | omega | (simp; omega)) gw11).drew⟩))
            case rest =>
              obtain ⟨g, h, rfl, rfl, ⟨hg9, hh9, hgh⟩, g12, h12, c12⟩ := hcut
              obtain ⟨w12, hw12⟩ : ∃ W, wc = W := ⟨_, rfl⟩
              rw [hw12] at g12 h12 c12 ⊢
              have s12 := c12.size
              have bb12 := H_bb9.out.trans (c12.mono H_bb9.out.size)
              clear ly lv
              clear y0 y1 y2 y3 y4 y5 y6 y7 y8 y9 y10 y11
              clear v0 v1 v2 v3 v4 v5 v6 v7 v8 v9 v10 v11
              have k12 := H_k9.out.below c12
              have m12 := H_m9.out.below c12
              have a12 := H_e9.out.ints.below c12
              have d12 := H_f9.out.ints.below c12
              have u12 := H_u9.out.ints.below c12
              have v12 := H_v9.out.ints.below c12
              have lg12 := (g12 0 _ rfl).lt
              have lh12 := (h12 0 _ rfl).lt
              have lk12 := (k12 0 _ rfl).lt
              have lm12 := (m12 0 _ rfl).lt
              have ⟨H_hw12, H_g12, H_h12, H_c12, H_bb12, H_k12, H_m12, H_a12⟩ := hid8 hw12 g12 h12 c12 bb12 k12 m12 a12; clear hw12 g12 h12 c12 bb12 k12 m12 a12; have ⟨H_d12, H_u12, H_v12⟩ := hid3 d12 u12 v12; clear d12 u12 v12
              obtain ⟨v0, v1, v2, v3⟩ := at4_of H_h12.out
              have hmm := @run_makeMap Tryd.prog
              have ht15 : Tryd.prog.underlying 70 = some (.map 3 4) := Tryd.underlying70
              have Kd : Keyed Tryd.prog 3 := int_keyed Tryd.underlying3
              have mp13 := MapAt.made w12 Tryd.prog 3 rfl
              have c13 : Below w12.heap.size w12 (w12.alloc (.map #[] 0)) := (Below.refl _ _).alloc (Nat.le_refl _) _
              have sd13 := setD_nil
              have ⟨H_mp13, H_c13, H_sd13, H_Kd, H_ht15⟩ := hid5 mp13 c13 sd13 Kd ht15; clear mp13 c13 sd13 Kd ht15
              go_wp2_with fail
              clear hmm
              go_loopw [86] (fun i wy => ∃ (j : Nat) (D : DataW Value), j ≤ sZ.l.length ∧ i = .int .i64 j ∧ MapAt wy Tryd.prog 3 w12.heap.size j D ∧ SetD D (sZ.l.take j) ∧ Below w12.heap.size w12 wy) (fun i _ => sZ.l.length - (intOf i).toNat)
              case atStart => exact ⟨0, _, by omega, rfl, H_mp13.out, by rw [List.take_zero]; exact H_sd13.out, H_c13.out⟩
              case round =>
                obtain ⟨j, D, hj, rfl, mpj, sdj, cj⟩ := hrel
                have few := H_hkZ.out.few
                by_cases hjl : j < sZ.l.length
                · have gg1 : (j : Int) < (sZ.l.length : Int) := by omega
                  have gg0 : (0 : Int) ≤ (j : Int) := by omega
                  have vj := H_v12.out.below cj
                  obtain ⟨b2, off2, rfl, hbl2, ec⟩ := vj j hjl
                  have fitj := H_hkZ.out.fit _ (getD_in hjl)
                  have sdn := sdj.snoc (World.ownsMap.isMap mpj) (sZ.l.getD j 0)
                  rw [← take_int hjl] at sdn
                  have hky : keyOf Tryd.prog 3 (.int .i64 (sZ.l.getD j 0)) = some (.int .i64 (sZ.l.getD j 0)) := keyOf_int_mk Tryd.underlying3 (WalkArith.wf_i64 (by first | exact fitj | omega))
                  generalize sZ.l.getD j 0 = vv at *
                  have ⟨H_vj, H_sdn, H_hky, H_mpj, H_sdj, H_cj, H_fitj⟩ := hid7 vj sdn hky mpj sdj cj fitj; clear vj sdn hky mpj sdj cj fitj
                  go_wp2_with (refine wp_update_any _ (by rfl) (.tmp 90) _ _ _ (by rfl) 3 4 H_Kd.out H_ht15.out w12.heap.size j D (by rfl) H_mpj.out (by unfold maxLen; omega) (.int .i64 vv) (.bool true) (.int .i64 vv) (by rfl) (by rfl) H_hky.out ?_)
                  intro wz mz gz
                  have cz : Below w12.heap.size w12 wz := H_cj.out.trans (below_of_grown gz H_cj.out.size (Nat.le_refl _))
                  have ⟨H_mz, H_gz, H_cz⟩ := hid3 mz gz cz; clear mz gz cz
                  go_wp2_with fail
                  go_roundw
                  case rel => exact ⟨j + 1, _, by omega, by go_num, H_mz.out, H_sdn.out, H_cz.out⟩
                  case measure => simp [intOf]; omega
                · have gg1 : ¬ (j : Int) < (sZ.l.length : Int) := by omega
                  rw [List.take_of_length_le (by omega)] at sdj
                  obtain ⟨w13, rfl⟩ : ∃ W, W = wr := ⟨_, rfl⟩
                  have s13 := cj.size
                  have g13 := H_g12.out.below cj
                  have h13 := H_h12.out.below cj
                  have u13 := H_u12.out.below cj
                  have k13 := H_k12.out.below cj
                  have m13 := H_m12.out.below cj
                  have a13 := H_a12.out.below cj
                  have d13 := H_d12.out.below cj
                  have bb13 := H_bb12.out.trans (cj.mono H_bb12.out.size)
                  have zb : ∀ W, (zeroValue 4).run Tryd.prog W = .ok (.bool false) W := fun W => by kernel_rfl
                  have ⟨H_sdj, H_mpj, H_cj, H_g13, H_h13, H_u13, H_k13, H_m13⟩ := hid8 sdj mpj cj g13 h13 u13 k13 m13; clear sdj mpj cj g13 h13 u13 k13 m13; have ⟨H_a13, H_d13, H_bb13, H_zb⟩ := hid4 a13 d13 bb13 zb; clear a13 d13 bb13 zb
                  clear v0 v1 v2 v3
                  obtain ⟨y0, y1, y2, y3⟩ := at4_of H_g13.out
                  go_wp2_with fail
                  go_loopw [5, 96] (fun u i wy => u = .bool true ∧ (∃ j : Nat, j ≤ sK.l.length ∧ i = .int .i64 j) ∧ w13 = wy) (fun _ i _ => sK.l.length - (intOf i).toNat)
                  case atStart => exact ⟨rfl, ⟨0, by omega, rfl⟩, rfl⟩
                  case round =>
                    obtain ⟨rfl, ⟨j2, hj2, rfl⟩, rfl⟩ := hrel
                    have few2 := H_hkK.out.few
                    by_cases hjl2 : j2 < sK.l.length
                    · have gg2 : (j2 : Int) < (sK.l.length : Int) := by omega
                      have gg3 : (0 : Int) ≤ (j2 : Int) := by omega
                      have uj := H_u13.out
                      obtain ⟨b3, off3, rfl, hbl3, ec3⟩ := uj j2 hjl2
                      have hin := H_mZ.out _ (getD_in hjl2)
                      have fitj := H_hkK.out.fit _ (getD_in hjl2)
                      have hat3 := H_sdj.out (sK.l.getD j2 0)
                      rw [decide_eq_true hin] at hat3
                      have hky : keyOf Tryd.prog 3 (.int .i64 (sK.l.getD j2 0)) = some (.int .i64 (sK.l.getD j2 0)) := keyOf_int_mk Tryd.underlying3 (WalkArith.wf_i64 (by first | exact fitj | omega))
                      generalize sK.l.getD j2 0 = vv at *
                      have hlk := H_mpj.out.look H_Kd.out H_ht15.out (H_zb.out _) hky hat3
                      have ⟨H_uj, H_hin, H_fitj, H_hat3, H_hky⟩ := hid5 uj hin fitj hat3 hky; clear uj hin fitj hat3 hky
                      go_wp2_with fail
                      go_roundw
                      case rel => exact ⟨rfl, ⟨j2 + 1, by omega, by go_num⟩, by first | rfl | trivial⟩
                      case measure => simp [intOf]; omega
                    · have gg2 : ¬ (j2 : Int) < (sK.l.length : Int) := by omega
                      have f1 : ¬ sZ.c < sK.c := by have := H_cZ.out; omega
                      have f2 : decide (sZ.c < sK.c) = false := decide_eq_false f1
                      obtain ⟨v0, v1, v2, v3⟩ := at4_of H_h13.out
                      obtain ⟨z0, z1, z2, z3, z4, z5, z6, z7, z8, z9, z10, z11⟩ := at12_of H_m13.out
                      obtain ⟨w14, hw14⟩ : ∃ W, putL w13 w.heap.size 0 [.int .i64 Z.d, .int .i64 Z.k, .int .i64 Z.r, .int .i64 Z.x.s, .int .i64 Z.x.c, .slice A7 Z.x.l.length p7, .int .u64 Z.x.u, .int .i64 Z.y.s, .int .i64 Z.y.c, .slice B7 Z.y.l.length r7, .int .u64 Z.y.u, .bool Z.up] = W := ⟨_, rfl⟩
                      have k14 : Blk w14 w.heap.size #[.int .i64 Z.d, .int .i64 Z.k, .int .i64 Z.r, .int .i64 Z.x.s, .int .i64 Z.x.c, .slice A7 Z.x.l.length p7, .int .u64 Z.x.u, .int .i64 Z.y.s, .int .i64 Z.y.c, .slice B7 Z.y.l.length r7, .int .u64 Z.y.u, .bool Z.up] := by rw [← hw14]; exact putL_blk H_k13.out _ (by simp)
                      have a14 : IntsAt w14 A7 .i64 Z.x.l := by rw [← hw14]; exact putL_ints H_oz7.out _ _ _ H_a13.out
                      have d14 : IntsAt w14 B7 .i64 Z.y.l := by rw [← hw14]; exact putL_ints H_qz7.out _ _ _ H_d13.out
                      have bb14 : Below w.heap.size w w14 := by rw [← hw14]; exact putL_below (Nat.le_refl _) _ _ _ H_bb13.out
                      simp only [putL, Nat.reduceAdd] at hw14
                      obtain ⟨f0, f1, f2, f3, f4, f5, f6, f7, f8, f9, f10, f11⟩ := free12_of H_k13.out
                      obtain ⟨x0, x1, x2, x3, x4, x5, x6, x7, x8, x9, x10, x11⟩ := at12_of H_k13.out
                      have lx := (H_k13.out 0 _ rfl).lt
                      have ⟨H_k14, H_a14, H_d14, H_bb14⟩ := hid4 k14 a14 d14 bb14; clear k14 a14 d14 bb14
                      go_upto_region 31 with (fail)
                      have H_hw14 := Lib.hid hw14; clear hw14
                      go_wp2_with fail
                      go_roundw
                      case rel => exact ⟨rfl, k + 1, Z, A7, p7, B7, r7, by omega, by go_num, H_bb14.out, ⟨H_k14.out, H_a14.out, H_d14.out, H_oz7.out, H_qz7.out, H_fZ.out.1, H_fZ.out.2, H_vZ.out⟩⟩
                      case measure => simp [intOf]; omega
        · have g1 : ¬ (k : Int) < (N : Int) := by omega
          have ⟨H_hbw, H_hat, H_tw, H_rw5, H_kr⟩ := hid5 hbw hat tw rw5 kr; clear hbw hat tw rw5 kr
          go_wp2_with fail
          go_ret
          exact ⟨rfl, H_hbw.out⟩
end Go.Proofs.YtoehobaigfmnpaaDoor

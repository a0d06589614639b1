/- The walk of LockRevokes. -/
import Derived.Deep.CutRange
import Derived.Test.YtoehobaigfmnpaaDoorMr47
import Derived.Test.YtoehobaigfmnpaaDoorMr48
namespace Go.Proofs.YtoehobaigfmnpaaDoor
set_option linter.unusedSimpArgs false
set_option linter.unusedVariables false
set_option maxRecDepth 100000
open Go.RowKit
/-- a list that does not lie in a block -/
def Off (A : Option Addr) (l : List Int) (g : Nat) : Prop := ∀ b off, l ≠ [] → A = some ⟨b, off, none⟩ → b ≠ g
theorem off_old {w : World} {A : Option Addr} {l : List Int} (h : IntsAt w A .i64 l) : Off A l w.heap.size := fun b off hl hA => by
  have hlen : 0 < l.length := by
    cases l with
    | nil => exact absurd rfl hl
    | cons x r => simp
  obtain ⟨b2, o2, e, h5, _⟩ := h 0 hlen
  rw [hA] at e
  injection e with e
  injection e with e1 _
  omega
theorem Prov.off {w w' : World} {A0 A : Option Addr} {l0 l : List Int} {g : Nat} (h : Prov w w' A0 l0 A l) (h0 : Off A0 l0 g) (hg : g < w.heap.size) : Off A l g := fun b off hl hA => by
  rcases h.2 with h3 | ⟨h3, h4⟩ | h3
  · exact absurd h3 hl
  · subst h3 h4; exact h0 b off hl hA
  · have := h3 b off hA
    omega
/-- a lock in a block that is written again and again -/
structure LkAt (g : Nat) (wr : World) (L : Lk) (A : Option Addr) (p : Nat) (B : Option Addr) (r : Nat) : Prop where
  blk : Blk wr g (L.cells A L.x.l.length p B L.y.l.length r).toArray
  a : IntsAt wr A .i64 L.x.l
  b : IntsAt wr B .i64 L.y.l
  oa : Off A L.x.l g
  ob : Off B L.y.l g
  fx : SFit L.x
  fy : SFit L.y
  v : lvB L = true
/-- what holds at the head of each round -/
def RSt (w4 : World) (N : Nat) (x : Int) (i : Value) (wr : World) : Prop :=
  ∃ (k : Nat) (L : Lk) (A : Option Addr) (p : Nat) (B : Option Addr) (r : Nat), k ≤ N ∧ i = .int .i64 k ∧ Below w4.heap.size w4 wr ∧ LkAt w4.heap.size wr L A p B r ∧ L.up = true ∧ x ∈ (keepS L).l
set_option maxHeartbeats 16000000 in
theorem lockRevokes_walk (l : Lk) (A : Option Addr) (n p : Nat) (B : Option Addr) (m q : Nat) (c d : Crd) (X : Option Addr) (cp : Nat) (ls : List Crd) (t : Int) (w : World) (hx : SlotArg w A n p l.x) (hy : SlotArg w B m q l.y) (hl : LFit l) (hc : CFit c) (hd : CFit d) (hls : Cards w X ls) (hlc : ls.length ≤ cp) (hcm : cp ≤ maxLen) (hti : (Lit.int .i64 t).wf = true) (ht : Tab w) :
    Calls Tryd.prog 9 #[.agg (l.cells A n p B m q).toArray, .agg c.cells.toArray, .agg d.cells.toArray, .slice X ls.length cp, .int .i64 t] w fun e w' => e = .returned (.bool true) ∧ Below w.heap.size w w' := by
  unfold maxLen at hcm
  generalize hN : ls.length = N at *
  obtain ⟨w0, hw0⟩ : ∃ W, ((w.alloc (.cells (l.cells A n p B m q).toArray 55)).alloc (.cells c.cells.toArray 31)).alloc (.cells d.cells.toArray 31) = W := ⟨_, rfl⟩
  have bb0 : Below w.heap.size w w0 := by rw [← hw0]; exact (((Below.refl _ _).alloc (Nat.le_refl _) _).alloc (by simp) _).alloc (by simp; omega) _
  have k0 : Blk w0 w.heap.size (l.cells A n p B m q).toArray := by rw [← hw0]; exact ((blk_new rfl).alloc _).alloc _
  have g0 : Blk w0 (w.heap.size + 1) c.cells.toArray := by rw [← hw0]; exact (blk_new (by simp)).alloc _
  have d0 : Blk w0 (w.heap.size + 1 + 1) d.cells.toArray := by rw [← hw0]; exact blk_new (by simp)
  have t0 := ht.below bb0
  have r0 := hls.below bb0
  have q1 := head37_any w0 t0
  have lq := hx.room; have lm := hx.max; have lq' := hy.room; have lm' := hy.max
  have q2 := fun W (h : Below w.heap.size w W) => lright_any l c t A n p B m q W (by omega) (by omega) (fun h1 => (hx.below h).is h1) (fun h1 => (hy.below h).is h1) hc
  have q3 := fun W => rcvalid_any d hd W
  cases hR1 : rgtB l c t n m with
  | false =>
    rw [hR1] at q2
    unfold Lk.cells at k0 hw0 q2 ⊢
    unfold Crd.cells at g0 d0 hw0 q2 q3 ⊢
    have H_bb0 := Lib.hid bb0; clear bb0; have H_k0 := Lib.hid k0; clear k0; have H_g0 := Lib.hid g0; clear g0; have H_d0 := Lib.hid d0; clear d0; have H_r0 := Lib.hid r0; clear r0; have H_hw0 := Lib.hid hw0; clear hw0; have H_q1 := Lib.hid q1; clear q1; have H_q2 := Lib.hid q2; clear q2; have H_q3 := Lib.hid q3; clear q3; have H_t0 := Lib.hid t0; clear t0; have H_hx := Lib.hid hx; clear hx; have H_hy := Lib.hid hy; clear hy; have H_hl := Lib.hid hl; clear hl; have H_hc := Lib.hid hc; clear hc; have H_hd := Lib.hid hd; clear hd; have H_hti := Lib.hid hti; clear hti; have H_ht := Lib.hid ht; clear ht; have H_hls := Lib.hid hls; clear hls; have H_lq := Lib.hid lq; clear lq; have H_lm := Lib.hid lm; clear lm; have H_lq' := Lib.hid lq'; clear lq'; have H_lm' := Lib.hid lm'; clear lm'; have H_hR1 := Lib.hid hR1; clear hR1; have H_hN := Lib.hid hN; clear hN
    go_enter Tryd.func9, Tryd.ntmps9
    go_wp2_with fail
    rw [H_hw0.out]
    go_wp2_with fail
    (with_reducible refine (H_q1.out).mono ?_)
    rintro e w1 ⟨rfl, b1⟩
    have c1 : Below w0.heap.size w0 w1 := Below.trans belt (b1.mono omh)
    have s1 := c1.size
    have bb1 := H_bb0.out.trans (c1.mono H_bb0.out.size)
    have t1 := H_t0.out.below c1
    have k1 := H_k0.out.below c1
    have g1 := H_g0.out.below c1
    have d1 := H_d0.out.below c1
    have r1 := H_r0.out.below c1
    have H_b1 := Lib.hid b1; clear b1; have H_c1 := Lib.hid c1; clear c1; have H_bb1 := Lib.hid bb1; clear bb1; have H_t1 := Lib.hid t1; clear t1; have H_k1 := Lib.hid k1; clear k1; have H_g1 := Lib.hid g1; clear g1; have H_d1 := Lib.hid d1; clear d1; have H_r1 := Lib.hid r1; clear r1
    have y0 := (H_k1.out 0 _ rfl).at
    have y1 := (H_k1.out 1 _ rfl).at
    have y2 := (H_k1.out 2 _ rfl).at
    have y3 := (H_k1.out 3 _ rfl).at
    have y4 := (H_k1.out 4 _ rfl).at
    have y5 := (H_k1.out 5 _ rfl).at
    have y6 := (H_k1.out 6 _ rfl).at
    have y7 := (H_k1.out 7 _ rfl).at
    have y8 := (H_k1.out 8 _ rfl).at
    have y9 := (H_k1.out 9 _ rfl).at
    have y10 := (H_k1.out 10 _ rfl).at
    have y11 := (H_k1.out 11 _ rfl).at
    have z0 := (H_g1.out 0 _ rfl).at
    have z1 := (H_g1.out 1 _ rfl).at
    have z2 := (H_g1.out 2 _ rfl).at
    have z3 := (H_g1.out 3 _ rfl).at
    have z4 := (H_g1.out 4 _ rfl).at
    have z5 := (H_g1.out 5 _ rfl).at
    have z6 := (H_g1.out 6 _ rfl).at
    have z7 := (H_g1.out 7 _ rfl).at
    have z8 := (H_g1.out 8 _ rfl).at
    go_wp2_with fail
    (with_reducible refine (H_q2.out _ ?_).mono ?_)
    · exact H_bb1.out.trans ((show Below w1.heap.size w1 _ from belt).mono H_bb1.out.size)
    rintro e w2 ⟨rfl, b2⟩
    have c2 : Below w1.heap.size w1 w2 := Below.trans belt (b2.mono omh)
    have s2 := c2.size
    have bb2 := H_bb1.out.trans (c2.mono H_bb1.out.size)
    have t2 := H_t1.out.below c2
    have k2 := H_k1.out.below c2
    have g2 := H_g1.out.below c2
    have d2 := H_d1.out.below c2
    have r2 := H_r1.out.below c2
    have H_b2 := Lib.hid b2; clear b2; have H_c2 := Lib.hid c2; clear c2; have H_bb2 := Lib.hid bb2; clear bb2; have H_t2 := Lib.hid t2; clear t2; have H_k2 := Lib.hid k2; clear k2; have H_g2 := Lib.hid g2; clear g2; have H_d2 := Lib.hid d2; clear d2; have H_r2 := Lib.hid r2; clear r2
    clear y0 y1 y2 y3 y4 y5 y6 y7 y8 y9 y10 y11
    clear z0 z1 z2 z3 z4 z5 z6 z7 z8
    go_wp2_with fail
    go_ret
    exact ⟨rfl, H_bb2.out⟩
  | true =>
    rw [hR1] at q2
    have hR3 := hR1
    simp only [rgtB, Bool.and_eq_true, len40B, decide_eq_true_eq] at hR3
    obtain ⟨⟨⟨⟨n40, m40⟩, hv⟩, hcv⟩, htb⟩ := hR3
    cases hV : cvB d with
    | false =>
      rw [hV] at q3
      unfold Lk.cells at k0 hw0 q2 ⊢
      unfold Crd.cells at g0 d0 hw0 q2 q3 ⊢
      have H_bb0 := Lib.hid bb0; clear bb0; have H_k0 := Lib.hid k0; clear k0; have H_g0 := Lib.hid g0; clear g0; have H_d0 := Lib.hid d0; clear d0; have H_r0 := Lib.hid r0; clear r0; have H_hw0 := Lib.hid hw0; clear hw0; have H_q1 := Lib.hid q1; clear q1; have H_q2 := Lib.hid q2; clear q2; have H_q3 := Lib.hid q3; clear q3; have H_t0 := Lib.hid t0; clear t0; have H_hx := Lib.hid hx; clear hx; have H_hy := Lib.hid hy; clear hy; have H_hl := Lib.hid hl; clear hl; have H_hc := Lib.hid hc; clear hc; have H_hd := Lib.hid hd; clear hd; have H_hti := Lib.hid hti; clear hti; have H_ht := Lib.hid ht; clear ht; have H_hls := Lib.hid hls; clear hls; have H_lq := Lib.hid lq; clear lq; have H_lm := Lib.hid lm; clear lm; have H_lq' := Lib.hid lq'; clear lq'; have H_lm' := Lib.hid lm'; clear lm'; have H_hR1 := Lib.hid hR1; clear hR1; have H_n40 := Lib.hid n40; clear n40; have H_m40 := Lib.hid m40; clear m40; have H_hv := Lib.hid hv; clear hv; have H_hcv := Lib.hid hcv; clear hcv; have H_htb := Lib.hid htb; clear htb; have H_hV := Lib.hid hV; clear hV; have H_hN := Lib.hid hN; clear hN
      go_enter Tryd.func9, Tryd.ntmps9
      go_wp2_with fail
      rw [H_hw0.out]
      go_wp2_with fail
      (with_reducible refine (H_q1.out).mono ?_)
      rintro e w1 ⟨rfl, b1⟩
      have c1 : Below w0.heap.size w0 w1 := Below.trans belt (b1.mono omh)
      have s1 := c1.size
      have bb1 := H_bb0.out.trans (c1.mono H_bb0.out.size)
      have t1 := H_t0.out.below c1
      have k1 := H_k0.out.below c1
      have g1 := H_g0.out.below c1
      have d1 := H_d0.out.below c1
      have r1 := H_r0.out.below c1
      have H_b1 := Lib.hid b1; clear b1; have H_c1 := Lib.hid c1; clear c1; have H_bb1 := Lib.hid bb1; clear bb1; have H_t1 := Lib.hid t1; clear t1; have H_k1 := Lib.hid k1; clear k1; have H_g1 := Lib.hid g1; clear g1; have H_d1 := Lib.hid d1; clear d1; have H_r1 := Lib.hid r1; clear r1
      have y0 := (H_k1.out 0 _ rfl).at
      have y1 := (H_k1.out 1 _ rfl).at
      have y2 := (H_k1.out 2 _ rfl).at
      have y3 := (H_k1.out 3 _ rfl).at
      have y4 := (H_k1.out 4 _ rfl).at
      have y5 := (H_k1.out 5 _ rfl).at
      have y6 := (H_k1.out 6 _ rfl).at
      have y7 := (H_k1.out 7 _ rfl).at
      have y8 := (H_k1.out 8 _ rfl).at
      have y9 := (H_k1.out 9 _ rfl).at
      have y10 := (H_k1.out 10 _ rfl).at
      have y11 := (H_k1.out 11 _ rfl).at
      have z0 := (H_g1.out 0 _ rfl).at
      have z1 := (H_g1.out 1 _ rfl).at
      have z2 := (H_g1.out 2 _ rfl).at
      have z3 := (H_g1.out 3 _ rfl).at
      have z4 := (H_g1.out 4 _ rfl).at
      have z5 := (H_g1.out 5 _ rfl).at
      have z6 := (H_g1.out 6 _ rfl).at
      have z7 := (H_g1.out 7 _ rfl).at
      have z8 := (H_g1.out 8 _ rfl).at
      go_wp2_with fail
      (with_reducible refine (H_q2.out _ ?_).mono ?_)
      · exact H_bb1.out.trans ((show Below w1.heap.size w1 _ from belt).mono H_bb1.out.size)
      rintro e w2 ⟨rfl, b2⟩
      have c2 : Below w1.heap.size w1 w2 := Below.trans belt (b2.mono omh)
      have s2 := c2.size
      have bb2 := H_bb1.out.trans (c2.mono H_bb1.out.size)
      have t2 := H_t1.out.below c2
      have k2 := H_k1.out.below c2
      have g2 := H_g1.out.below c2
      have d2 := H_d1.out.below c2
      have r2 := H_r1.out.below c2
      have H_b2 := Lib.hid b2; clear b2; have H_c2 := Lib.hid c2; clear c2; have H_bb2 := Lib.hid bb2; clear bb2; have H_t2 := Lib.hid t2; clear t2; have H_k2 := Lib.hid k2; clear k2; have H_g2 := Lib.hid g2; clear g2; have H_d2 := Lib.hid d2; clear d2; have H_r2 := Lib.hid r2; clear r2
      clear y0 y1 y2 y3 y4 y5 y6 y7 y8 y9 y10 y11
      clear z0 z1 z2 z3 z4 z5 z6 z7 z8
      have z0 := (H_d2.out 0 _ rfl).at
      have z1 := (H_d2.out 1 _ rfl).at
      have z2 := (H_d2.out 2 _ rfl).at
      have z3 := (H_d2.out 3 _ rfl).at
      have z4 := (H_d2.out 4 _ rfl).at
      have z5 := (H_d2.out 5 _ rfl).at
      have z6 := (H_d2.out 6 _ rfl).at
      have z7 := (H_d2.out 7 _ rfl).at
      have z8 := (H_d2.out 8 _ rfl).at
      go_wp2_with fail
      (with_reducible refine (H_q3.out _).mono ?_)
      rintro e w3 ⟨rfl, b3⟩
      have c3 : Below w2.heap.size w2 w3 := Below.trans belt (b3.mono omh)
      have s3 := c3.size
      have bb3 := H_bb2.out.trans (c3.mono H_bb2.out.size)
      have t3 := H_t2.out.below c3
      have k3 := H_k2.out.below c3
      have g3 := H_g2.out.below c3
      have d3 := H_d2.out.below c3
      have r3 := H_r2.out.below c3
      have H_b3 := Lib.hid b3; clear b3; have H_c3 := Lib.hid c3; clear c3; have H_bb3 := Lib.hid bb3; clear bb3; have H_t3 := Lib.hid t3; clear t3; have H_k3 := Lib.hid k3; clear k3; have H_g3 := Lib.hid g3; clear g3; have H_d3 := Lib.hid d3; clear d3; have H_r3 := Lib.hid r3; clear r3
      clear z0 z1 z2 z3 z4 z5 z6 z7 z8
      go_wp2_with fail
      go_ret
      exact ⟨rfl, H_bb3.out⟩
    | true =>
      rw [hV] at q3
      by_cases hN6 : 6 < N
      · have i1 : (6 : Int) < (N : Int) := by omega
        have i2 : decide ((6 : Int) < (N : Int)) = true := decide_eq_true i1
        unfold Lk.cells at k0 hw0 q2 ⊢
        unfold Crd.cells at g0 d0 hw0 q2 q3 ⊢
        have H_bb0 := Lib.hid bb0; clear bb0; have H_k0 := Lib.hid k0; clear k0; have H_g0 := Lib.hid g0; clear g0; have H_d0 := Lib.hid d0; clear d0; have H_r0 := Lib.hid r0; clear r0; have H_hw0 := Lib.hid hw0; clear hw0; have H_q1 := Lib.hid q1; clear q1; have H_q2 := Lib.hid q2; clear q2; have H_q3 := Lib.hid q3; clear q3; have H_t0 := Lib.hid t0; clear t0; have H_hx := Lib.hid hx; clear hx; have H_hy := Lib.hid hy; clear hy; have H_hl := Lib.hid hl; clear hl; have H_hc := Lib.hid hc; clear hc; have H_hd := Lib.hid hd; clear hd; have H_hti := Lib.hid hti; clear hti; have H_ht := Lib.hid ht; clear ht; have H_hls := Lib.hid hls; clear hls; have H_lq := Lib.hid lq; clear lq; have H_lm := Lib.hid lm; clear lm; have H_lq' := Lib.hid lq'; clear lq'; have H_lm' := Lib.hid lm'; clear lm'; have H_hR1 := Lib.hid hR1; clear hR1; have H_n40 := Lib.hid n40; clear n40; have H_m40 := Lib.hid m40; clear m40; have H_hv := Lib.hid hv; clear hv; have H_hcv := Lib.hid hcv; clear hcv; have H_htb := Lib.hid htb; clear htb; have H_hV := Lib.hid hV; clear hV; have H_hN := Lib.hid hN; clear hN
        go_enter Tryd.func9, Tryd.ntmps9
        go_wp2_with fail
        rw [H_hw0.out]
        go_wp2_with fail
        (with_reducible refine (H_q1.out).mono ?_)
        rintro e w1 ⟨rfl, b1⟩
        have c1 : Below w0.heap.size w0 w1 := Below.trans belt (b1.mono omh)
        have s1 := c1.size
        have bb1 := H_bb0.out.trans (c1.mono H_bb0.out.size)
        have t1 := H_t0.out.below c1
        have k1 := H_k0.out.below c1
        have g1 := H_g0.out.below c1
        have d1 := H_d0.out.below c1
        have r1 := H_r0.out.below c1
        have H_b1 := Lib.hid b1; clear b1; have H_c1 := Lib.hid c1; clear c1; have H_bb1 := Lib.hid bb1; clear bb1; have H_t1 := Lib.hid t1; clear t1; have H_k1 := Lib.hid k1; clear k1; have H_g1 := Lib.hid g1; clear g1; have H_d1 := Lib.hid d1; clear d1; have H_r1 := Lib.hid r1; clear r1
        have y0 := (H_k1.out 0 _ rfl).at
        have y1 := (H_k1.out 1 _ rfl).at
        have y2 := (H_k1.out 2 _ rfl).at
        have y3 := (H_k1.out 3 _ rfl).at
        have y4 := (H_k1.out 4 _ rfl).at
        have y5 := (H_k1.out 5 _ rfl).at
        have y6 := (H_k1.out 6 _ rfl).at
        have y7 := (H_k1.out 7 _ rfl).at
        have y8 := (H_k1.out 8 _ rfl).at
        have y9 := (H_k1.out 9 _ rfl).at
        have y10 := (H_k1.out 10 _ rfl).at
        have y11 := (H_k1.out 11 _ rfl).at
        have z0 := (H_g1.out 0 _ rfl).at
        have z1 := (H_g1.out 1 _ rfl).at
        have z2 := (H_g1.out 2 _ rfl).at
        have z3 := (H_g1.out 3 _ rfl).at
        have z4 := (H_g1.out 4 _ rfl).at
        have z5 := (H_g1.out 5 _ rfl).at
        have z6 := (H_g1.out 6 _ rfl).at
        have z7 := (H_g1.out 7 _ rfl).at
        have z8 := (H_g1.out 8 _ rfl).at
        go_wp2_with fail
        (with_reducible refine (H_q2.out _ ?_).mono ?_)
        · exact H_bb1.out.trans ((show Below w1.heap.size w1 _ from belt).mono H_bb1.out.size)
        rintro e w2 ⟨rfl, b2⟩
        have c2 : Below w1.heap.size w1 w2 := Below.trans belt (b2.mono omh)
        have s2 := c2.size
        have bb2 := H_bb1.out.trans (c2.mono H_bb1.out.size)
        have t2 := H_t1.out.below c2
        have k2 := H_k1.out.below c2
        have g2 := H_g1.out.below c2
        have d2 := H_d1.out.below c2
        have r2 := H_r1.out.below c2
        have H_b2 := Lib.hid b2; clear b2; have H_c2 := Lib.hid c2; clear c2; have H_bb2 := Lib.hid bb2; clear bb2; have H_t2 := Lib.hid t2; clear t2; have H_k2 := Lib.hid k2; clear k2; have H_g2 := Lib.hid g2; clear g2; have H_d2 := Lib.hid d2; clear d2; have H_r2 := Lib.hid r2; clear r2
        clear y0 y1 y2 y3 y4 y5 y6 y7 y8 y9 y10 y11
        clear z0 z1 z2 z3 z4 z5 z6 z7 z8
        have z0 := (H_d2.out 0 _ rfl).at
        have z1 := (H_d2.out 1 _ rfl).at
        have z2 := (H_d2.out 2 _ rfl).at
        have z3 := (H_d2.out 3 _ rfl).at
        have z4 := (H_d2.out 4 _ rfl).at
        have z5 := (H_d2.out 5 _ rfl).at
        have z6 := (H_d2.out 6 _ rfl).at
        have z7 := (H_d2.out 7 _ rfl).at
        have z8 := (H_d2.out 8 _ rfl).at
        go_wp2_with fail
        (with_reducible refine (H_q3.out _).mono ?_)
        rintro e w3 ⟨rfl, b3⟩
        have c3 : Below w2.heap.size w2 w3 := Below.trans belt (b3.mono omh)
        have s3 := c3.size
        have bb3 := H_bb2.out.trans (c3.mono H_bb2.out.size)
        have t3 := H_t2.out.below c3
        have k3 := H_k2.out.below c3
        have g3 := H_g2.out.below c3
        have d3 := H_d2.out.below c3
        have r3 := H_r2.out.below c3
        have H_b3 := Lib.hid b3; clear b3; have H_c3 := Lib.hid c3; clear c3; have H_bb3 := Lib.hid bb3; clear bb3; have H_t3 := Lib.hid t3; clear t3; have H_k3 := Lib.hid k3; clear k3; have H_g3 := Lib.hid g3; clear g3; have H_d3 := Lib.hid d3; clear d3; have H_r3 := Lib.hid r3; clear r3
        clear z0 z1 z2 z3 z4 z5 z6 z7 z8
        go_wp2_with fail
        go_ret
        exact ⟨rfl, H_bb3.out⟩
      have i1 : ¬ (6 : Int) < (N : Int) := by omega
      have i2 : decide ((6 : Int) < (N : Int)) = false := decide_eq_false i1
      by_cases hk : c.k = 3
      rotate_left
      · have i3 : (c.k != 3) = true := by simp [hk]
        have i4 : (c.k == 3) = false := by simp [hk]
        unfold Lk.cells at k0 hw0 q2 ⊢
        unfold Crd.cells at g0 d0 hw0 q2 q3 ⊢
        have H_bb0 := Lib.hid bb0; clear bb0; have H_k0 := Lib.hid k0; clear k0; have H_g0 := Lib.hid g0; clear g0; have H_d0 := Lib.hid d0; clear d0; have H_r0 := Lib.hid r0; clear r0; have H_hw0 := Lib.hid hw0; clear hw0; have H_q1 := Lib.hid q1; clear q1; have H_q2 := Lib.hid q2; clear q2; have H_q3 := Lib.hid q3; clear q3; have H_t0 := Lib.hid t0; clear t0; have H_hx := Lib.hid hx; clear hx; have H_hy := Lib.hid hy; clear hy; have H_hl := Lib.hid hl; clear hl; have H_hc := Lib.hid hc; clear hc; have H_hd := Lib.hid hd; clear hd; have H_hti := Lib.hid hti; clear hti; have H_ht := Lib.hid ht; clear ht; have H_hls := Lib.hid hls; clear hls; have H_lq := Lib.hid lq; clear lq; have H_lm := Lib.hid lm; clear lm; have H_lq' := Lib.hid lq'; clear lq'; have H_lm' := Lib.hid lm'; clear lm'; have H_hR1 := Lib.hid hR1; clear hR1; have H_n40 := Lib.hid n40; clear n40; have H_m40 := Lib.hid m40; clear m40; have H_hv := Lib.hid hv; clear hv; have H_hcv := Lib.hid hcv; clear hcv; have H_htb := Lib.hid htb; clear htb; have H_hV := Lib.hid hV; clear hV; have H_hN := Lib.hid hN; clear hN
        go_enter Tryd.func9, Tryd.ntmps9
        go_wp2_with fail
        rw [H_hw0.out]
        go_wp2_with fail
        (with_reducible refine (H_q1.out).mono ?_)
        rintro e w1 ⟨rfl, b1⟩
        have c1 : Below w0.heap.size w0 w1 := Below.trans belt (b1.mono omh)
        have s1 := c1.size
        have bb1 := H_bb0.out.trans (c1.mono H_bb0.out.size)
        have t1 := H_t0.out.below c1
        have k1 := H_k0.out.below c1
        have g1 := H_g0.out.below c1
        have d1 := H_d0.out.below c1
        have r1 := H_r0.out.below c1
        have H_b1 := Lib.hid b1; clear b1; have H_c1 := Lib.hid c1; clear c1; have H_bb1 := Lib.hid bb1; clear bb1; have H_t1 := Lib.hid t1; clear t1; have H_k1 := Lib.hid k1; clear k1; have H_g1 := Lib.hid g1; clear g1; have H_d1 := Lib.hid d1; clear d1; have H_r1 := Lib.hid r1; clear r1
        have y0 := (H_k1.out 0 _ rfl).at
        have y1 := (H_k1.out 1 _ rfl).at
        have y2 := (H_k1.out 2 _ rfl).at
        have y3 := (H_k1.out 3 _ rfl).at
        have y4 := (H_k1.out 4 _ rfl).at
        have y5 := (H_k1.out 5 _ rfl).at
        have y6 := (H_k1.out 6 _ rfl).at
        have y7 := (H_k1.out 7 _ rfl).at
        have y8 := (H_k1.out 8 _ rfl).at
        have y9 := (H_k1.out 9 _ rfl).at
        have y10 := (H_k1.out 10 _ rfl).at
        have y11 := (H_k1.out 11 _ rfl).at
        have z0 := (H_g1.out 0 _ rfl).at
        have z1 := (H_g1.out 1 _ rfl).at
        have z2 := (H_g1.out 2 _ rfl).at
        have z3 := (H_g1.out 3 _ rfl).at
        have z4 := (H_g1.out 4 _ rfl).at
        have z5 := (H_g1.out 5 _ rfl).at
        have z6 := (H_g1.out 6 _ rfl).at
        have z7 := (H_g1.out 7 _ rfl).at
        have z8 := (H_g1.out 8 _ rfl).at
        go_wp2_with fail
        (with_reducible refine (H_q2.out _ ?_).mono ?_)
        · exact H_bb1.out.trans ((show Below w1.heap.size w1 _ from belt).mono H_bb1.out.size)
        rintro e w2 ⟨rfl, b2⟩
        have c2 : Below w1.heap.size w1 w2 := Below.trans belt (b2.mono omh)
        have s2 := c2.size
        have bb2 := H_bb1.out.trans (c2.mono H_bb1.out.size)
        have t2 := H_t1.out.below c2
        have k2 := H_k1.out.below c2
        have g2 := H_g1.out.below c2
        have d2 := H_d1.out.below c2
        have r2 := H_r1.out.below c2
        have H_b2 := Lib.hid b2; clear b2; have H_c2 := Lib.hid c2; clear c2; have H_bb2 := Lib.hid bb2; clear bb2; have H_t2 := Lib.hid t2; clear t2; have H_k2 := Lib.hid k2; clear k2; have H_g2 := Lib.hid g2; clear g2; have H_d2 := Lib.hid d2; clear d2; have H_r2 := Lib.hid r2; clear r2
        clear y0 y1 y2 y3 y4 y5 y6 y7 y8 y9 y10 y11
        clear z0 z1 z2 z3 z4 z5 z6 z7 z8
        have z0 := (H_d2.out 0 _ rfl).at
        have z1 := (H_d2.out 1 _ rfl).at
        have z2 := (H_d2.out 2 _ rfl).at
        have z3 := (H_d2.out 3 _ rfl).at
        have z4 := (H_d2.out 4 _ rfl).at
        have z5 := (H_d2.out 5 _ rfl).at
        have z6 := (H_d2.out 6 _ rfl).at
        have z7 := (H_d2.out 7 _ rfl).at
        have z8 := (H_d2.out 8 _ rfl).at
        go_wp2_with fail
        (with_reducible refine (H_q3.out _).mono ?_)
        rintro e w3 ⟨rfl, b3⟩
        have c3 : Below w2.heap.size w2 w3 := Below.trans belt (b3.mono omh)
        have s3 := c3.size
        have bb3 := H_bb2.out.trans (c3.mono H_bb2.out.size)
        have t3 := H_t2.out.below c3
        have k3 := H_k2.out.below c3
        have g3 := H_g2.out.below c3
        have d3 := H_d2.out.below c3
        have r3 := H_r2.out.below c3
        have H_b3 := Lib.hid b3; clear b3; have H_c3 := Lib.hid c3; clear c3; have H_bb3 := Lib.hid bb3; clear bb3; have H_t3 := Lib.hid t3; clear t3; have H_k3 := Lib.hid k3; clear k3; have H_g3 := Lib.hid g3; clear g3; have H_d3 := Lib.hid d3; clear d3; have H_r3 := Lib.hid r3; clear r3
        clear z0 z1 z2 z3 z4 z5 z6 z7 z8
        have z0 := (H_g3.out 0 _ rfl).at
        have z1 := (H_g3.out 1 _ rfl).at
        have z2 := (H_g3.out 2 _ rfl).at
        have z3 := (H_g3.out 3 _ rfl).at
        have z4 := (H_g3.out 4 _ rfl).at
        have z5 := (H_g3.out 5 _ rfl).at
        have z6 := (H_g3.out 6 _ rfl).at
        have z7 := (H_g3.out 7 _ rfl).at
        have z8 := (H_g3.out 8 _ rfl).at
        go_wp2_with fail
        go_ret
        exact ⟨rfl, H_bb3.out⟩
      have i3 : (c.k != 3) = false := by simp [hk]
      have i4 : (c.k == 3) = true := by simp [hk]
      by_cases hcl : c.l = d.i
      rotate_left
      · have i5 : (c.l != d.i) = true := by simp [hcl]
        have i6 : (c.l == d.i) = false := by simp [hcl]
        unfold Lk.cells at k0 hw0 q2 ⊢
        unfold Crd.cells at g0 d0 hw0 q2 q3 ⊢
        have H_bb0 := Lib.hid bb0; clear bb0; have H_k0 := Lib.hid k0; clear k0; have H_g0 := Lib.hid g0; clear g0; have H_d0 := Lib.hid d0; clear d0; have H_r0 := Lib.hid r0; clear r0; have H_hw0 := Lib.hid hw0; clear hw0; have H_q1 := Lib.hid q1; clear q1; have H_q2 := Lib.hid q2; clear q2; have H_q3 := Lib.hid q3; clear q3; have H_t0 := Lib.hid t0; clear t0; have H_hx := Lib.hid hx; clear hx; have H_hy := Lib.hid hy; clear hy; have H_hl := Lib.hid hl; clear hl; have H_hc := Lib.hid hc; clear hc; have H_hd := Lib.hid hd; clear hd; have H_hti := Lib.hid hti; clear hti; have H_ht := Lib.hid ht; clear ht; have H_hls := Lib.hid hls; clear hls; have H_lq := Lib.hid lq; clear lq; have H_lm := Lib.hid lm; clear lm; have H_lq' := Lib.hid lq'; clear lq'; have H_lm' := Lib.hid lm'; clear lm'; have H_hR1 := Lib.hid hR1; clear hR1; have H_n40 := Lib.hid n40; clear n40; have H_m40 := Lib.hid m40; clear m40; have H_hv := Lib.hid hv; clear hv; have H_hcv := Lib.hid hcv; clear hcv; have H_htb := Lib.hid htb; clear htb; have H_hV := Lib.hid hV; clear hV; have H_hN := Lib.hid hN; clear hN; have H_hk := Lib.hid hk; clear hk; have H_hcl := Lib.hid hcl; clear hcl
        go_enter Tryd.func9, Tryd.ntmps9
        go_wp2_with fail
        rw [H_hw0.out]
        go_wp2_with fail
        (with_reducible refine (H_q1.out).mono ?_)
        rintro e w1 ⟨rfl, b1⟩
        have c1 : Below w0.heap.size w0 w1 := Below.trans belt (b1.mono omh)
        have s1 := c1.size
        have bb1 := H_bb0.out.trans (c1.mono H_bb0.out.size)
        have t1 := H_t0.out.below c1
        have k1 := H_k0.out.below c1
        have g1 := H_g0.out.below c1
        have d1 := H_d0.out.below c1
        have r1 := H_r0.out.below c1
        have H_b1 := Lib.hid b1; clear b1; have H_c1 := Lib.hid c1; clear c1; have H_bb1 := Lib.hid bb1; clear bb1; have H_t1 := Lib.hid t1; clear t1; have H_k1 := Lib.hid k1; clear k1; have H_g1 := Lib.hid g1; clear g1; have H_d1 := Lib.hid d1; clear d1; have H_r1 := Lib.hid r1; clear r1
        have y0 := (H_k1.out 0 _ rfl).at
        have y1 := (H_k1.out 1 _ rfl).at
        have y2 := (H_k1.out 2 _ rfl).at
        have y3 := (H_k1.out 3 _ rfl).at
        have y4 := (H_k1.out 4 _ rfl).at
        have y5 := (H_k1.out 5 _ rfl).at
        have y6 := (H_k1.out 6 _ rfl).at
        have y7 := (H_k1.out 7 _ rfl).at
        have y8 := (H_k1.out 8 _ rfl).at
        have y9 := (H_k1.out 9 _ rfl).at
        have y10 := (H_k1.out 10 _ rfl).at
        have y11 := (H_k1.out 11 _ rfl).at
        have z0 := (H_g1.out 0 _ rfl).at
        have z1 := (H_g1.out 1 _ rfl).at
        have z2 := (H_g1.out 2 _ rfl).at
        have z3 := (H_g1.out 3 _ rfl).at
        have z4 := (H_g1.out 4 _ rfl).at
        have z5 := (H_g1.out 5 _ rfl).at
        have z6 := (H_g1.out 6 _ rfl).at
        have z7 := (H_g1.out 7 _ rfl).at
        have z8 := (H_g1.out 8 _ rfl).at
        go_wp2_with fail
        (with_reducible refine (H_q2.out _ ?_).mono ?_)
        · exact H_bb1.out.trans ((show Below w1.heap.size w1 _ from belt).mono H_bb1.out.size)
        rintro e w2 ⟨rfl, b2⟩
        have c2 : Below w1.heap.size w1 w2 := Below.trans belt (b2.mono omh)
        have s2 := c2.size
        have bb2 := H_bb1.out.trans (c2.mono H_bb1.out.size)
        have t2 := H_t1.out.below c2
        have k2 := H_k1.out.below c2
        have g2 := H_g1.out.below c2
        have d2 := H_d1.out.below c2
        have r2 := H_r1.out.below c2
        have H_b2 := Lib.hid b2; clear b2; have H_c2 := Lib.hid c2; clear c2; have H_bb2 := Lib.hid bb2; clear bb2; have H_t2 := Lib.hid t2; clear t2; have H_k2 := Lib.hid k2; clear k2; have H_g2 := Lib.hid g2; clear g2; have H_d2 := Lib.hid d2; clear d2; have H_r2 := Lib.hid r2; clear r2
        clear y0 y1 y2 y3 y4 y5 y6 y7 y8 y9 y10 y11
        clear z0 z1 z2 z3 z4 z5 z6 z7 z8
        have z0 := (H_d2.out 0 _ rfl).at
        have z1 := (H_d2.out 1 _ rfl).at
        have z2 := (H_d2.out 2 _ rfl).at
        have z3 := (H_d2.out 3 _ rfl).at
        have z4 := (H_d2.out 4 _ rfl).at
        have z5 := (H_d2.out 5 _ rfl).at
        have z6 := (H_d2.out 6 _ rfl).at
        have z7 := (H_d2.out 7 _ rfl).at
        have z8 := (H_d2.out 8 _ rfl).at
        go_wp2_with fail
        (with_reducible refine (H_q3.out _).mono ?_)
        rintro e w3 ⟨rfl, b3⟩
        have c3 : Below w2.heap.size w2 w3 := Below.trans belt (b3.mono omh)
        have s3 := c3.size
        have bb3 := H_bb2.out.trans (c3.mono H_bb2.out.size)
        have t3 := H_t2.out.below c3
        have k3 := H_k2.out.below c3
        have g3 := H_g2.out.below c3
        have d3 := H_d2.out.below c3
        have r3 := H_r2.out.below c3
        have H_b3 := Lib.hid b3; clear b3; have H_c3 := Lib.hid c3; clear c3; have H_bb3 := Lib.hid bb3; clear bb3; have H_t3 := Lib.hid t3; clear t3; have H_k3 := Lib.hid k3; clear k3; have H_g3 := Lib.hid g3; clear g3; have H_d3 := Lib.hid d3; clear d3; have H_r3 := Lib.hid r3; clear r3
        clear z0 z1 z2 z3 z4 z5 z6 z7 z8
        have z0 := (H_g3.out 0 _ rfl).at
        have z1 := (H_g3.out 1 _ rfl).at
        have z2 := (H_g3.out 2 _ rfl).at
        have z3 := (H_g3.out 3 _ rfl).at
        have z4 := (H_g3.out 4 _ rfl).at
        have z5 := (H_g3.out 5 _ rfl).at
        have z6 := (H_g3.out 6 _ rfl).at
        have z7 := (H_g3.out 7 _ rfl).at
        have z8 := (H_g3.out 8 _ rfl).at
        have v0 := (H_d3.out 0 _ rfl).at
        have v1 := (H_d3.out 1 _ rfl).at
        have v2 := (H_d3.out 2 _ rfl).at
        have v3 := (H_d3.out 3 _ rfl).at
        have v4 := (H_d3.out 4 _ rfl).at
        have v5 := (H_d3.out 5 _ rfl).at
        have v6 := (H_d3.out 6 _ rfl).at
        have v7 := (H_d3.out 7 _ rfl).at
        have v8 := (H_d3.out 8 _ rfl).at
        go_wp2_with fail
        go_ret
        exact ⟨rfl, H_bb3.out⟩
      have i5 : (c.l != d.i) = false := by simp [hcl]
      have i6 : (c.l == d.i) = true := by simp [hcl]
      have sf := hx.sfit n40
      have sg := hy.sfit m40
      have fM := sh_fit (l := l) (t := t) (a := 3) hc sf sg
      have q4 := fun W (h : Below w.heap.size w W) => show_any l c t 3 A n p B m q W ((hx.below h).is n40) ((hy.below h).is m40) (ht.below h) hc
      by_cases hE : shE l c t 3 = 0
      rotate_left
      · have i7 : (shE l c t 3 != 0) = true := by simp [hE]
        have i8 : (shE l c t 3 == 0) = false := by simp [hE]
        generalize shE l c t 3 = EE at *
        generalize shR l c t 3 = M at *
        generalize shO l c t 3 = OM at *
        unfold ShowPost at q4
        unfold Lk.cells at k0 hw0 q2 q4 ⊢
        unfold Crd.cells at g0 d0 hw0 q2 q3 q4 ⊢
        have H_bb0 := Lib.hid bb0; clear bb0; have H_k0 := Lib.hid k0; clear k0; have H_g0 := Lib.hid g0; clear g0; have H_d0 := Lib.hid d0; clear d0; have H_r0 := Lib.hid r0; clear r0; have H_hw0 := Lib.hid hw0; clear hw0; have H_q1 := Lib.hid q1; clear q1; have H_q2 := Lib.hid q2; clear q2; have H_q3 := Lib.hid q3; clear q3; have H_q4 := Lib.hid q4; clear q4; have H_t0 := Lib.hid t0; clear t0; have H_hx := Lib.hid hx; clear hx; have H_hy := Lib.hid hy; clear hy; have H_hl := Lib.hid hl; clear hl; have H_hc := Lib.hid hc; clear hc; have H_hd := Lib.hid hd; clear hd; have H_hti := Lib.hid hti; clear hti; have H_ht := Lib.hid ht; clear ht; have H_hls := Lib.hid hls; clear hls; have H_lq := Lib.hid lq; clear lq; have H_lm := Lib.hid lm; clear lm; have H_lq' := Lib.hid lq'; clear lq'; have H_lm' := Lib.hid lm'; clear lm'; have H_hR1 := Lib.hid hR1; clear hR1; have H_n40 := Lib.hid n40; clear n40; have H_m40 := Lib.hid m40; clear m40; have H_hv := Lib.hid hv; clear hv; have H_hcv := Lib.hid hcv; clear hcv; have H_htb := Lib.hid htb; clear htb; have H_hV := Lib.hid hV; clear hV; have H_hN := Lib.hid hN; clear hN; have H_hk := Lib.hid hk; clear hk; have H_hcl := Lib.hid hcl; clear hcl; have H_sf := Lib.hid sf; clear sf; have H_sg := Lib.hid sg; clear sg; have H_fM := Lib.hid fM; clear fM; have H_hE := Lib.hid hE; clear hE
        go_enter Tryd.func9, Tryd.ntmps9
        go_wp2_with fail
        rw [H_hw0.out]
        go_wp2_with fail
        (with_reducible refine (H_q1.out).mono ?_)
        rintro e w1 ⟨rfl, b1⟩
        have c1 : Below w0.heap.size w0 w1 := Below.trans belt (b1.mono omh)
        have s1 := c1.size
        have bb1 := H_bb0.out.trans (c1.mono H_bb0.out.size)
        have t1 := H_t0.out.below c1
        have k1 := H_k0.out.below c1
        have g1 := H_g0.out.below c1
        have d1 := H_d0.out.below c1
        have r1 := H_r0.out.below c1
        have H_b1 := Lib.hid b1; clear b1; have H_c1 := Lib.hid c1; clear c1; have H_bb1 := Lib.hid bb1; clear bb1; have H_t1 := Lib.hid t1; clear t1; have H_k1 := Lib.hid k1; clear k1; have H_g1 := Lib.hid g1; clear g1; have H_d1 := Lib.hid d1; clear d1; have H_r1 := Lib.hid r1; clear r1
        have y0 := (H_k1.out 0 _ rfl).at
        have y1 := (H_k1.out 1 _ rfl).at
        have y2 := (H_k1.out 2 _ rfl).at
        have y3 := (H_k1.out 3 _ rfl).at
        have y4 := (H_k1.out 4 _ rfl).at
        have y5 := (H_k1.out 5 _ rfl).at
        have y6 := (H_k1.out 6 _ rfl).at
        have y7 := (H_k1.out 7 _ rfl).at
        have y8 := (H_k1.out 8 _ rfl).at
        have y9 := (H_k1.out 9 _ rfl).at
        have y10 := (H_k1.out 10 _ rfl).at
        have y11 := (H_k1.out 11 _ rfl).at
        have z0 := (H_g1.out 0 _ rfl).at
        have z1 := (H_g1.out 1 _ rfl).at
        have z2 := (H_g1.out 2 _ rfl).at
        have z3 := (H_g1.out 3 _ rfl).at
        have z4 := (H_g1.out 4 _ rfl).at
        have z5 := (H_g1.out 5 _ rfl).at
        have z6 := (H_g1.out 6 _ rfl).at
        have z7 := (H_g1.out 7 _ rfl).at
        have z8 := (H_g1.out 8 _ rfl).at
        go_wp2_with fail
        (with_reducible refine (H_q2.out _ ?_).mono ?_)
        · exact H_bb1.out.trans ((show Below w1.heap.size w1 _ from belt).mono H_bb1.out.size)
        rintro e w2 ⟨rfl, b2⟩
        have c2 : Below w1.heap.size w1 w2 := Below.trans belt (b2.mono omh)
        have s2 := c2.size
        have bb2 := H_bb1.out.trans (c2.mono H_bb1.out.size)
        have t2 := H_t1.out.below c2
        have k2 := H_k1.out.below c2
        have g2 := H_g1.out.below c2
        have d2 := H_d1.out.below c2
        have r2 := H_r1.out.below c2
        have H_b2 := Lib.hid b2; clear b2; have H_c2 := Lib.hid c2; clear c2; have H_bb2 := Lib.hid bb2; clear bb2; have H_t2 := Lib.hid t2; clear t2; have H_k2 := Lib.hid k2; clear k2; have H_g2 := Lib.hid g2; clear g2; have H_d2 := Lib.hid d2; clear d2; have H_r2 := Lib.hid r2; clear r2
        clear y0 y1 y2 y3 y4 y5 y6 y7 y8 y9 y10 y11
        clear z0 z1 z2 z3 z4 z5 z6 z7 z8
        have z0 := (H_d2.out 0 _ rfl).at
        have z1 := (H_d2.out 1 _ rfl).at
        have z2 := (H_d2.out 2 _ rfl).at
        have z3 := (H_d2.out 3 _ rfl).at
        have z4 := (H_d2.out 4 _ rfl).at
        have z5 := (H_d2.out 5 _ rfl).at
        have z6 := (H_d2.out 6 _ rfl).at
        have z7 := (H_d2.out 7 _ rfl).at
        have z8 := (H_d2.out 8 _ rfl).at
        go_wp2_with fail
        (with_reducible refine (H_q3.out _).mono ?_)
        rintro e w3 ⟨rfl, b3⟩
        have c3 : Below w2.heap.size w2 w3 := Below.trans belt (b3.mono omh)
        have s3 := c3.size
        have bb3 := H_bb2.out.trans (c3.mono H_bb2.out.size)
        have t3 := H_t2.out.below c3
        have k3 := H_k2.out.below c3
        have g3 := H_g2.out.below c3
        have d3 := H_d2.out.below c3
        have r3 := H_r2.out.below c3
        have H_b3 := Lib.hid b3; clear b3; have H_c3 := Lib.hid c3; clear c3; have H_bb3 := Lib.hid bb3; clear bb3; have H_t3 := Lib.hid t3; clear t3; have H_k3 := Lib.hid k3; clear k3; have H_g3 := Lib.hid g3; clear g3; have H_d3 := Lib.hid d3; clear d3; have H_r3 := Lib.hid r3; clear r3
        clear z0 z1 z2 z3 z4 z5 z6 z7 z8
        have z0 := (H_g3.out 0 _ rfl).at
        have z1 := (H_g3.out 1 _ rfl).at
        have z2 := (H_g3.out 2 _ rfl).at
        have z3 := (H_g3.out 3 _ rfl).at
        have z4 := (H_g3.out 4 _ rfl).at
        have z5 := (H_g3.out 5 _ rfl).at
        have z6 := (H_g3.out 6 _ rfl).at
        have z7 := (H_g3.out 7 _ rfl).at
        have z8 := (H_g3.out 8 _ rfl).at
        have v0 := (H_d3.out 0 _ rfl).at
        have v1 := (H_d3.out 1 _ rfl).at
        have v2 := (H_d3.out 2 _ rfl).at
        have v3 := (H_d3.out 3 _ rfl).at
        have v4 := (H_d3.out 4 _ rfl).at
        have v5 := (H_d3.out 5 _ rfl).at
        have v6 := (H_d3.out 6 _ rfl).at
        have v7 := (H_d3.out 7 _ rfl).at
        have v8 := (H_d3.out 8 _ rfl).at
        have y0 := (H_k3.out 0 _ rfl).at
        have y1 := (H_k3.out 1 _ rfl).at
        have y2 := (H_k3.out 2 _ rfl).at
        have y3 := (H_k3.out 3 _ rfl).at
        have y4 := (H_k3.out 4 _ rfl).at
        have y5 := (H_k3.out 5 _ rfl).at
        have y6 := (H_k3.out 6 _ rfl).at
        have y7 := (H_k3.out 7 _ rfl).at
        have y8 := (H_k3.out 8 _ rfl).at
        have y9 := (H_k3.out 9 _ rfl).at
        have y10 := (H_k3.out 10 _ rfl).at
        have y11 := (H_k3.out 11 _ rfl).at
        go_wp2_with fail
        (with_reducible refine (H_q4.out _ ?_).mono ?_)
        · exact H_bb3.out.trans ((show Below w3.heap.size w3 _ from belt).mono H_bb3.out.size)
        rintro e w4 ⟨A4, p4, B4, r4, rfl, pa4, pb4, b4⟩
        have c4 : Below w3.heap.size w3 w4 := Below.trans belt (b4.mono omh)
        have s4 := c4.size
        have bb4 := H_bb3.out.trans (c4.mono H_bb3.out.size)
        have t4 := H_t3.out.below c4
        have d4 := H_d3.out.below c4
        have r4 := H_r3.out.below c4
        have H_b4 := Lib.hid b4; clear b4; have H_c4 := Lib.hid c4; clear c4; have H_bb4 := Lib.hid bb4; clear bb4; have H_t4 := Lib.hid t4; clear t4; have H_d4 := Lib.hid d4; clear d4; have H_r4 := Lib.hid r4; clear r4
        clear y0 y1 y2 y3 y4 y5 y6 y7 y8 y9 y10 y11
        clear z0 z1 z2 z3 z4 z5 z6 z7 z8
        clear v0 v1 v2 v3 v4 v5 v6 v7 v8
        go_wp2_with fail
        go_ret
        exact ⟨rfl, H_bb4.out.alloc H_bb4.out.size _⟩
      have hopn : shO l c t 3 = false := by
        have : decide (c.k = 3) = true := decide_eq_true hk
        rw [shO, if_pos hE, this]; rfl
      have hvM := (left_of hE).v
      have huM : (shR l c t 3).up = true := (left_of hE).up
      have hmM := lost_new hE (by omega) hk
      rw [hcl] at hmM
      rw [hE, hopn] at q4
      clear hE hopn
      generalize shR l c t 3 = M at *
      unfold ShowPost at q4
      unfold Lk.cells at k0 hw0 q2 q4 ⊢
      unfold Crd.cells at g0 d0 hw0 q2 q3 q4 ⊢
      have H_bb0 := Lib.hid bb0; clear bb0; have H_k0 := Lib.hid k0; clear k0; have H_g0 := Lib.hid g0; clear g0; have H_d0 := Lib.hid d0; clear d0; have H_r0 := Lib.hid r0; clear r0; have H_hw0 := Lib.hid hw0; clear hw0; have H_q1 := Lib.hid q1; clear q1; have H_q2 := Lib.hid q2; clear q2; have H_q3 := Lib.hid q3; clear q3; have H_q4 := Lib.hid q4; clear q4; have H_t0 := Lib.hid t0; clear t0; have H_hx := Lib.hid hx; clear hx; have H_hy := Lib.hid hy; clear hy; have H_hl := Lib.hid hl; clear hl; have H_hc := Lib.hid hc; clear hc; have H_hd := Lib.hid hd; clear hd; have H_hti := Lib.hid hti; clear hti; have H_ht := Lib.hid ht; clear ht; have H_hls := Lib.hid hls; clear hls; have H_lq := Lib.hid lq; clear lq; have H_lm := Lib.hid lm; clear lm; have H_lq' := Lib.hid lq'; clear lq'; have H_lm' := Lib.hid lm'; clear lm'; have H_hR1 := Lib.hid hR1; clear hR1; have H_n40 := Lib.hid n40; clear n40; have H_m40 := Lib.hid m40; clear m40; have H_hv := Lib.hid hv; clear hv; have H_hcv := Lib.hid hcv; clear hcv; have H_htb := Lib.hid htb; clear htb; have H_hV := Lib.hid hV; clear hV; have H_hN := Lib.hid hN; clear hN; have H_hk := Lib.hid hk; clear hk; have H_hcl := Lib.hid hcl; clear hcl; have H_sf := Lib.hid sf; clear sf; have H_sg := Lib.hid sg; clear sg; have H_fM := Lib.hid fM; clear fM; have H_hvM := Lib.hid hvM; clear hvM; have H_huM := Lib.hid huM; clear huM; have H_hmM := Lib.hid hmM; clear hmM
      go_enter Tryd.func9, Tryd.ntmps9
      go_wp2_with fail
      rw [H_hw0.out]
      go_wp2_with fail
      (with_reducible refine (H_q1.out).mono ?_)
      rintro e w1 ⟨rfl, b1⟩
      have c1 : Below w0.heap.size w0 w1 := Below.trans belt (b1.mono omh)
      have s1 := c1.size
      have bb1 := H_bb0.out.trans (c1.mono H_bb0.out.size)
      have t1 := H_t0.out.below c1
      have k1 := H_k0.out.below c1
      have g1 := H_g0.out.below c1
      have d1 := H_d0.out.below c1
      have r1 := H_r0.out.below c1
      have H_b1 := Lib.hid b1; clear b1; have H_c1 := Lib.hid c1; clear c1; have H_bb1 := Lib.hid bb1; clear bb1; have H_t1 := Lib.hid t1; clear t1; have H_k1 := Lib.hid k1; clear k1; have H_g1 := Lib.hid g1; clear g1; have H_d1 := Lib.hid d1; clear d1; have H_r1 := Lib.hid r1; clear r1
      have y0 := (H_k1.out 0 _ rfl).at
      have y1 := (H_k1.out 1 _ rfl).at
      have y2 := (H_k1.out 2 _ rfl).at
      have y3 := (H_k1.out 3 _ rfl).at
      have y4 := (H_k1.out 4 _ rfl).at
      have y5 := (H_k1.out 5 _ rfl).at
      have y6 := (H_k1.out 6 _ rfl).at
      have y7 := (H_k1.out 7 _ rfl).at
      have y8 := (H_k1.out 8 _ rfl).at
      have y9 := (H_k1.out 9 _ rfl).at
      have y10 := (H_k1.out 10 _ rfl).at
      have y11 := (H_k1.out 11 _ rfl).at
      have z0 := (H_g1.out 0 _ rfl).at
      have z1 := (H_g1.out 1 _ rfl).at
      have z2 := (H_g1.out 2 _ rfl).at
      have z3 := (H_g1.out 3 _ rfl).at
      have z4 := (H_g1.out 4 _ rfl).at
      have z5 := (H_g1.out 5 _ rfl).at
      have z6 := (H_g1.out 6 _ rfl).at
      have z7 := (H_g1.out 7 _ rfl).at
      have z8 := (H_g1.out 8 _ rfl).at
      go_wp2_with fail
      (with_reducible refine (H_q2.out _ ?_).mono ?_)
      · exact H_bb1.out.trans ((show Below w1.heap.size w1 _ from belt).mono H_bb1.out.size)
      rintro e w2 ⟨rfl, b2⟩
      have c2 : Below w1.heap.size w1 w2 := Below.trans belt (b2.mono omh)
      have s2 := c2.size
      have bb2 := H_bb1.out.trans (c2.mono H_bb1.out.size)
      have t2 := H_t1.out.below c2
      have k2 := H_k1.out.below c2
      have g2 := H_g1.out.below c2
      have d2 := H_d1.out.below c2
      have r2 := H_r1.out.below c2
      have H_b2 := Lib.hid b2; clear b2; have H_c2 := Lib.hid c2; clear c2; have H_bb2 := Lib.hid bb2; clear bb2; have H_t2 := Lib.hid t2; clear t2; have H_k2 := Lib.hid k2; clear k2; have H_g2 := Lib.hid g2; clear g2; have H_d2 := Lib.hid d2; clear d2; have H_r2 := Lib.hid r2; clear r2
      clear y0 y1 y2 y3 y4 y5 y6 y7 y8 y9 y10 y11
      clear z0 z1 z2 z3 z4 z5 z6 z7 z8
      have z0 := (H_d2.out 0 _ rfl).at
      have z1 := (H_d2.out 1 _ rfl).at
      have z2 := (H_d2.out 2 _ rfl).at
      have z3 := (H_d2.out 3 _ rfl).at
      have z4 := (H_d2.out 4 _ rfl).at
      have z5 := (H_d2.out 5 _ rfl).at
      have z6 := (H_d2.out 6 _ rfl).at
      have z7 := (H_d2.out 7 _ rfl).at
      have z8 := (H_d2.out 8 _ rfl).at
      go_wp2_with fail
      (with_reducible refine (H_q3.out _).mono ?_)
      rintro e w3 ⟨rfl, b3⟩
      have c3 : Below w2.heap.size w2 w3 := Below.trans belt (b3.mono omh)
      have s3 := c3.size
      have bb3 := H_bb2.out.trans (c3.mono H_bb2.out.size)
      have t3 := H_t2.out.below c3
      have k3 := H_k2.out.below c3
      have g3 := H_g2.out.below c3
      have d3 := H_d2.out.below c3
      have r3 := H_r2.out.below c3
      have H_b3 := Lib.hid b3; clear b3; have H_c3 := Lib.hid c3; clear c3; have H_bb3 := Lib.hid bb3; clear bb3; have H_t3 := Lib.hid t3; clear t3; have H_k3 := Lib.hid k3; clear k3; have H_g3 := Lib.hid g3; clear g3; have H_d3 := Lib.hid d3; clear d3; have H_r3 := Lib.hid r3; clear r3
      clear z0 z1 z2 z3 z4 z5 z6 z7 z8
      have z0 := (H_g3.out 0 _ rfl).at
      have z1 := (H_g3.out 1 _ rfl).at
      have z2 := (H_g3.out 2 _ rfl).at
      have z3 := (H_g3.out 3 _ rfl).at
      have z4 := (H_g3.out 4 _ rfl).at
      have z5 := (H_g3.out 5 _ rfl).at
      have z6 := (H_g3.out 6 _ rfl).at
      have z7 := (H_g3.out 7 _ rfl).at
      have z8 := (H_g3.out 8 _ rfl).at
      have v0 := (H_d3.out 0 _ rfl).at
      have v1 := (H_d3.out 1 _ rfl).at
      have v2 := (H_d3.out 2 _ rfl).at
      have v3 := (H_d3.out 3 _ rfl).at
      have v4 := (H_d3.out 4 _ rfl).at
      have v5 := (H_d3.out 5 _ rfl).at
      have v6 := (H_d3.out 6 _ rfl).at
      have v7 := (H_d3.out 7 _ rfl).at
      have v8 := (H_d3.out 8 _ rfl).at
      have y0 := (H_k3.out 0 _ rfl).at
      have y1 := (H_k3.out 1 _ rfl).at
      have y2 := (H_k3.out 2 _ rfl).at
      have y3 := (H_k3.out 3 _ rfl).at
      have y4 := (H_k3.out 4 _ rfl).at
      have y5 := (H_k3.out 5 _ rfl).at
      have y6 := (H_k3.out 6 _ rfl).at
      have y7 := (H_k3.out 7 _ rfl).at
      have y8 := (H_k3.out 8 _ rfl).at
      have y9 := (H_k3.out 9 _ rfl).at
      have y10 := (H_k3.out 10 _ rfl).at
      have y11 := (H_k3.out 11 _ rfl).at
      go_wp2_with fail
      (with_reducible refine (H_q4.out _ ?_).mono ?_)
      · exact H_bb3.out.trans ((show Below w3.heap.size w3 _ from belt).mono H_bb3.out.size)
      rintro e w4 ⟨A4, p4, B4, r4, rfl, pa4, pb4, b4⟩
      have c4 : Below w3.heap.size w3 w4 := Below.trans belt (b4.mono omh)
      have s4 := c4.size
      have bb4 := H_bb3.out.trans (c4.mono H_bb3.out.size)
      have t4 := H_t3.out.below c4
      have d4 := H_d3.out.below c4
      have r4 := H_r3.out.below c4
      have H_b4 := Lib.hid b4; clear b4; have H_c4 := Lib.hid c4; clear c4; have H_bb4 := Lib.hid bb4; clear bb4; have H_t4 := Lib.hid t4; clear t4; have H_d4 := Lib.hid d4; clear d4; have H_r4 := Lib.hid r4; clear r4
      clear y0 y1 y2 y3 y4 y5 y6 y7 y8 y9 y10 y11
      clear z0 z1 z2 z3 z4 z5 z6 z7 z8
      clear v0 v1 v2 v3 v4 v5 v6 v7 v8
      go_wp2_with fail
      obtain ⟨w5, hw5⟩ : ∃ W, w4.alloc (.cells #[.int .i64 M.d, .int .i64 M.k, .int .i64 M.r, .int .i64 M.x.s, .int .i64 M.x.c, .slice A4 M.x.l.length p4, .int .u64 M.x.u, .int .i64 M.y.s, .int .i64 M.y.c, .slice B4 M.y.l.length r4, .int .u64 M.y.u, .bool M.up] 55) = W := ⟨_, rfl⟩
      rw [hw5]
      have c5 : Below w4.heap.size w4 w5 := by rw [← hw5]; exact (Below.refl _ _).alloc (Nat.le_refl _) _
      have st5 : RSt w4 N d.i (.int .i64 0) w5 := ⟨0, M, A4, p4, B4, r4, by omega, rfl, c5, ⟨by rw [← hw5]; exact blk_new rfl, pa4.1.below c5, pb4.1.below c5, off_old pa4.1, off_old pb4.1, H_fM.out.1, H_fM.out.2, H_hvM.out⟩, H_huM.out, H_hmM.out⟩
      clear pa4 pb4
      have H_hw5 := Lib.hid hw5; clear hw5; have H_c5 := Lib.hid c5; clear c5; have H_st5 := Lib.hid st5; clear st5
      go_loopw [67] (fun i wr => RSt w4 N d.i i wr) (fun i _ => N - (intOf i).toNat)
      case atStart => exact H_st5.out
      case round =>
        obtain ⟨k, L, A5, p5, B5, r5, hk5, rfl, hbw, hat, hu5, hm5⟩ := hrel
        have hsz := hbw.size
        have lt5 := (hat.blk 0 _ rfl).lt
        have tw := H_t4.out.below hbw
        have rw5 := H_r4.out.below hbw
        have bbr := H_bb4.out.trans (hbw.mono H_bb4.out.size)
        have kr := hat.blk
        unfold Lk.cells at kr
        by_cases hlt : k < N
        · have g1 : (k : Int) < (N : Int) := by omega
          have g0 : (0 : Int) ≤ (k : Int) := by omega
          obtain ⟨x, hx5⟩ : ∃ x, ls[k]? = some x := ⟨_, List.getElem?_eq_getElem (by rw [H_hN.out]; exact hlt)⟩
          obtain ⟨b, off, rfl, hbl, hf, e0, e1, e2, e3, e4, e5, e6, e7, e8⟩ := rw5.at hx5
          obtain ⟨m2, hm2⟩ : ∃ m2, (k : Int) % 2 = m2 := ⟨_, rfl⟩
          have km : (k : Int).tmod 2 = m2 := by rw [← hm2]; exact Int.tmod_eq_emod_of_nonneg g0
          have m0 : 0 ≤ m2 := by omega
          have m1 : m2 ≤ 1 := by omega
          have k1 : IntKind.i64.wrap m2 = m2 := IntWalk.i64_in _ (by omega)
          have k2 : IntKind.i64.wrap (3 - m2) = 3 - m2 := IntWalk.i64_in _ (by omega)
          clear hm2
          have q5 := fun W (h1 : IntsAt W A5 .i64 L.x.l) (h2 : IntsAt W B5 .i64 L.y.l) (h3 : Tab W) => show_any L x t (3 - m2) A5 L.x.l.length p5 B5 L.y.l.length r5 W (hat.fx.is h1) (hat.fy.is h2) h3 hf
          have fZ := sh_fit (l := L) (c := x) (t := t) (a := 3 - m2) hf hat.fx hat.fy
          by_cases hE5 : shE L x t (3 - m2) = 0
          rotate_left
          · have j1 : (shE L x t (3 - m2) != 0) = true := by simp [hE5]
            have j2 : (shE L x t (3 - m2) == 0) = false := by simp [hE5]
            generalize shE L x t (3 - m2) = E5 at *
            generalize shR L x t (3 - m2) = Z at *
            generalize shO L x t (3 - m2) = OZ at *
            unfold ShowPost Lk.cells Crd.cells at q5
            have oxr := hat
            have bw5 := hbw
            have H_q5 := Lib.hid q5; clear q5; have H_fZ := Lib.hid fZ; clear fZ; have H_hE5 := Lib.hid hE5; clear hE5; have H_hbw := Lib.hid hbw; clear hbw; have H_hat := Lib.hid hat; clear hat; have H_hu5 := Lib.hid hu5; clear hu5; have H_hm5 := Lib.hid hm5; clear hm5; have H_tw := Lib.hid tw; clear tw; have H_rw5 := Lib.hid rw5; clear rw5; have H_bbr := Lib.hid bbr; clear bbr; have H_kr := Lib.hid kr; clear kr; have H_hx5 := Lib.hid hx5; clear hx5; have H_hf := Lib.hid hf; clear hf; have H_oxr := Lib.hid oxr; clear oxr; have H_bw5 := Lib.hid bw5; clear bw5
            go_upto_region 10 with (fail)
            clear e0 e1 e2 e3 e4 e5 e6 e7 e8
            obtain ⟨w6, hw6⟩ : ∃ W, wr.alloc (.cells #[.int .i64 x.i, .int .i64 x.k, .int .i64 x.d, .int .i64 x.n, .int .i64 x.f, .int .i64 x.u, .int .i64 x.l, .int .i64 x.e, .int .i64 x.s] 31) = W := ⟨_, rfl⟩
            rw [hw6]
            have c6 : Below wr.heap.size wr w6 := by rw [← hw6]; exact (Below.refl _ _).alloc (Nat.le_refl _) _
            have x6 : Blk w6 wr.heap.size #[.int .i64 x.i, .int .i64 x.k, .int .i64 x.d, .int .i64 x.n, .int .i64 x.f, .int .i64 x.u, .int .i64 x.l, .int .i64 x.e, .int .i64 x.s] := by rw [← hw6]; exact blk_new rfl
            have k6 := H_kr.out.below c6
            have a6 := H_hat.out.a.below c6
            have b6' := H_hat.out.b.below c6
            have t6 := H_tw.out.below c6
            have bb6 := H_bbr.out.trans (c6.mono H_bbr.out.size)
            have cc6 := H_hbw.out.trans (c6.mono H_hbw.out.size)
            have H_hw6 := Lib.hid hw6; clear hw6; have H_c6 := Lib.hid c6; clear c6; have H_x6 := Lib.hid x6; clear x6; have H_k6 := Lib.hid k6; clear k6; have H_a6 := Lib.hid a6; clear a6; have H_b6' := Lib.hid b6'; clear b6'; have H_t6 := Lib.hid t6; clear t6; have H_bb6 := Lib.hid bb6; clear bb6; have H_cc6 := Lib.hid cc6; clear cc6
            have y0 := (H_k6.out 0 _ rfl).at
            have y1 := (H_k6.out 1 _ rfl).at
            have y2 := (H_k6.out 2 _ rfl).at
            have y3 := (H_k6.out 3 _ rfl).at
            have y4 := (H_k6.out 4 _ rfl).at
            have y5 := (H_k6.out 5 _ rfl).at
            have y6 := (H_k6.out 6 _ rfl).at
            have y7 := (H_k6.out 7 _ rfl).at
            have y8 := (H_k6.out 8 _ rfl).at
            have y9 := (H_k6.out 9 _ rfl).at
            have y10 := (H_k6.out 10 _ rfl).at
            have y11 := (H_k6.out 11 _ rfl).at
            have z0 := (H_x6.out 0 _ rfl).at
            have z1 := (H_x6.out 1 _ rfl).at
            have z2 := (H_x6.out 2 _ rfl).at
            have z3 := (H_x6.out 3 _ rfl).at
            have z4 := (H_x6.out 4 _ rfl).at
            have z5 := (H_x6.out 5 _ rfl).at
            have z6 := (H_x6.out 6 _ rfl).at
            have z7 := (H_x6.out 7 _ rfl).at
            have z8 := (H_x6.out 8 _ rfl).at
            have ly := (H_k6.out 0 _ rfl).lt
            have lz := (H_x6.out 0 _ rfl).lt
            go_wp2_with fail
            (with_reducible refine (H_q5.out _ ?_ ?_ ?_).mono ?_)
            · exact H_a6.out.below (show Below w6.heap.size w6 _ from belt)
            · exact H_b6'.out.below (show Below w6.heap.size w6 _ from belt)
            · exact H_t6.out.below (show Below w6.heap.size w6 _ from belt)
            rintro e w7 ⟨A7, p7, B7, r7, rfl, _, _, b7⟩
            have c7 : Below w6.heap.size w6 w7 := Below.trans belt (b7.mono omh)
            have s7 := c7.size
            have bb7 := H_bb6.out.trans (c7.mono H_bb6.out.size)
            have H_b7 := Lib.hid b7; clear b7; have H_c7 := Lib.hid c7; clear c7; have H_bb7 := Lib.hid bb7; clear bb7
            clear ly lz
            clear y0 y1 y2 y3 y4 y5 y6 y7 y8 y9 y10 y11
            clear z0 z1 z2 z3 z4 z5 z6 z7 z8
            have cA : Below wr.heap.size wr (w7.alloc (.cells #[.int .i64 Z.d, .int .i64 Z.k, .int .i64 Z.r, .int .i64 Z.x.s, .int .i64 Z.x.c, .slice A7 Z.x.l.length p7, .int .u64 Z.x.u, .int .i64 Z.y.s, .int .i64 Z.y.c, .slice B7 Z.y.l.length r7, .int .u64 Z.y.u, .bool Z.up] 55)) := (H_c6.out.trans (H_c7.out.mono H_c6.out.size)).alloc (H_c6.out.trans (H_c7.out.mono H_c6.out.size)).size _
            have lkA : LkAt w4.heap.size (w7.alloc (.cells #[.int .i64 Z.d, .int .i64 Z.k, .int .i64 Z.r, .int .i64 Z.x.s, .int .i64 Z.x.c, .slice A7 Z.x.l.length p7, .int .u64 Z.x.u, .int .i64 Z.y.s, .int .i64 Z.y.c, .slice B7 Z.y.l.length r7, .int .u64 Z.y.u, .bool Z.up] 55)) L A5 p5 B5 r5 := ⟨H_oxr.out.blk.below cA, H_oxr.out.a.below cA, H_oxr.out.b.below cA, H_oxr.out.oa, H_oxr.out.ob, H_oxr.out.fx, H_oxr.out.fy, H_oxr.out.v⟩
            have cB := H_bw5.out.trans (cA.mono H_bw5.out.size)
            have H_cA := Lib.hid cA; clear cA; have H_lkA := Lib.hid lkA; clear lkA; have H_cB := Lib.hid cB; clear cB
            go_wp2_with fail
            go_roundw
            case rel => exact ⟨k + 1, L, A5, p5, B5, r5, by omega, by go_num, H_cB.out, H_lkA.out, H_hu5.out, H_hm5.out⟩
            case measure => simp [intOf]; omega
          have hL5 := left_of hE5
          have hvZ := hL5.v
          have hmZ := lost_stays hE5 hm5
          have hpZ := pw_of hvZ true
          have q6 := fun W A p B r (h1 : SlotIs W A (shR L x t (3 - m2)).x.l.length (shR L x t (3 - m2)).x) (h2 : SlotIs W B (shR L x t (3 - m2)).y.l.length (shR L x t (3 - m2)).y) (h3 : Tab W) => lpower_any (shR L x t (3 - m2)) true A _ p B _ r W h1 h2 h3
          rw [hpZ.2] at q6
          have fK : SFit (pwR (shR L x t (3 - m2)) true).x ∧ SFit (pwR (shR L x t (3 - m2)) true).y := by rw [hpZ.1]; exact fZ
          have vK : lvB (pwR (shR L x t (3 - m2)) true) = true := by rw [hpZ.1]; exact hvZ
          have uK : (pwR (shR L x t (3 - m2)) true).up = true := by rw [hpZ.1]
          have mK : d.i ∈ (keepS (pwR (shR L x t (3 - m2)) true)).l := by rw [hpZ.1]; exact hmZ
          rw [hE5] at q5
          clear hL5 hpZ hE5 hmZ hvZ
          generalize pwR (shR L x t (3 - m2)) true = K at *
          generalize shR L x t (3 - m2) = Z at *
          generalize shO L x t (3 - m2) = OZ at *
          unfold LockErr at q6
          unfold ShowPost at q5
          unfold Lk.cells at q5 q6
          unfold Crd.cells at q5
          have oxr := hat
          have bw5 := hbw
          have H_q5 := Lib.hid q5; clear q5; have H_q6 := Lib.hid q6; clear q6; have H_fZ := Lib.hid fZ; clear fZ; have H_fK := Lib.hid fK; clear fK; have H_vK := Lib.hid vK; clear vK; have H_uK := Lib.hid uK; clear uK; have H_mK := Lib.hid mK; clear mK; have H_hbw := Lib.hid hbw; clear hbw; have H_hat := Lib.hid hat; clear hat; have H_hu5 := Lib.hid hu5; clear hu5; have H_hm5 := Lib.hid hm5; clear hm5; have H_tw := Lib.hid tw; clear tw; have H_rw5 := Lib.hid rw5; clear rw5; have H_bbr := Lib.hid bbr; clear bbr; have H_kr := Lib.hid kr; clear kr; have H_hx5 := Lib.hid hx5; clear hx5; have H_hf := Lib.hid hf; clear hf; have H_oxr := Lib.hid oxr; clear oxr; have H_bw5 := Lib.hid bw5; clear bw5
          go_upto_region 10 with (fail)
          clear e0 e1 e2 e3 e4 e5 e6 e7 e8
          obtain ⟨w6, hw6⟩ : ∃ W, wr.alloc (.cells #[.int .i64 x.i, .int .i64 x.k, .int .i64 x.d, .int .i64 x.n, .int .i64 x.f, .int .i64 x.u, .int .i64 x.l, .int .i64 x.e, .int .i64 x.s] 31) = W := ⟨_, rfl⟩
          rw [hw6]
          have c6 : Below wr.heap.size wr w6 := by rw [← hw6]; exact (Below.refl _ _).alloc (Nat.le_refl _) _
          have x6 : Blk w6 wr.heap.size #[.int .i64 x.i, .int .i64 x.k, .int .i64 x.d, .int .i64 x.n, .int .i64 x.f, .int .i64 x.u, .int .i64 x.l, .int .i64 x.e, .int .i64 x.s] := by rw [← hw6]; exact blk_new rfl
          have k6 := H_kr.out.below c6
          have a6 := H_hat.out.a.below c6
          have b6' := H_hat.out.b.below c6
          have t6 := H_tw.out.below c6
          have bb6 := H_bbr.out.trans (c6.mono H_bbr.out.size)
          have cc6 := H_hbw.out.trans (c6.mono H_hbw.out.size)
          have s6 := c6.size
          have H_hw6 := Lib.hid hw6; clear hw6; have H_c6 := Lib.hid c6; clear c6; have H_x6 := Lib.hid x6; clear x6; have H_k6 := Lib.hid k6; clear k6; have H_a6 := Lib.hid a6; clear a6; have H_b6' := Lib.hid b6'; clear b6'; have H_t6 := Lib.hid t6; clear t6; have H_bb6 := Lib.hid bb6; clear bb6; have H_cc6 := Lib.hid cc6; clear cc6
          have y0 := (H_k6.out 0 _ rfl).at
          have y1 := (H_k6.out 1 _ rfl).at
          have y2 := (H_k6.out 2 _ rfl).at
          have y3 := (H_k6.out 3 _ rfl).at
          have y4 := (H_k6.out 4 _ rfl).at
          have y5 := (H_k6.out 5 _ rfl).at
          have y6 := (H_k6.out 6 _ rfl).at
          have y7 := (H_k6.out 7 _ rfl).at
          have y8 := (H_k6.out 8 _ rfl).at
          have y9 := (H_k6.out 9 _ rfl).at
          have y10 := (H_k6.out 10 _ rfl).at
          have y11 := (H_k6.out 11 _ rfl).at
          have z0 := (H_x6.out 0 _ rfl).at
          have z1 := (H_x6.out 1 _ rfl).at
          have z2 := (H_x6.out 2 _ rfl).at
          have z3 := (H_x6.out 3 _ rfl).at
          have z4 := (H_x6.out 4 _ rfl).at
          have z5 := (H_x6.out 5 _ rfl).at
          have z6 := (H_x6.out 6 _ rfl).at
          have z7 := (H_x6.out 7 _ rfl).at
          have z8 := (H_x6.out 8 _ rfl).at
          have ly := (H_k6.out 0 _ rfl).lt
          have lz := (H_x6.out 0 _ rfl).lt
          go_wp2_with fail
          (with_reducible refine (H_q5.out _ ?_ ?_ ?_).mono ?_)
          · exact H_a6.out.below (show Below w6.heap.size w6 _ from belt)
          · exact H_b6'.out.below (show Below w6.heap.size w6 _ from belt)
          · exact H_t6.out.below (show Below w6.heap.size w6 _ from belt)
          rintro e w7 ⟨A7, p7, B7, r7, rfl, pa7, pb7, b7⟩
          have c7 : Below w6.heap.size w6 w7 := Below.trans belt (b7.mono omh)
          have s7 := c7.size
          have bb7 := H_bb6.out.trans (c7.mono H_bb6.out.size)
          have k7 := H_k6.out.below c7
          have t7 := H_t6.out.below c7
          have H_b7 := Lib.hid b7; clear b7; have H_c7 := Lib.hid c7; clear c7; have H_bb7 := Lib.hid bb7; clear bb7; have H_k7 := Lib.hid k7; clear k7; have H_t7 := Lib.hid t7; clear t7
          clear ly lz
          clear y0 y1 y2 y3 y4 y5 y6 y7 y8 y9 y10 y11
          clear z0 z1 z2 z3 z4 z5 z6 z7 z8
          have xz7 := H_fZ.out.1.is pa7.1
          have yz7 := H_fZ.out.2.is pb7.1
          have oz7 := pa7.off H_oxr.out.oa (by omega)
          have qz7 := pb7.off H_oxr.out.ob (by omega)
          clear pa7 pb7
          have H_xz7 := Lib.hid xz7; clear xz7; have H_yz7 := Lib.hid yz7; clear yz7; have H_oz7 := Lib.hid oz7; clear oz7; have H_qz7 := Lib.hid qz7; clear qz7
          have s7 := H_b7.out.size
          go_wp2_with fail
          (with_reducible refine (H_q6.out _ A7 p7 B7 r7 ?_ ?_ ?_).mono ?_)
          · exact H_xz7.out.below (show Below w7.heap.size w7 _ from belt)
          · exact H_yz7.out.below (show Below w7.heap.size w7 _ from belt)
          · exact H_t7.out.below (show Below w7.heap.size w7 _ from belt)
          rintro e w8 ⟨A8, p8, B8, r8, rfl, pa8, pb8, b8⟩
          have c8 : Below w7.heap.size w7 w8 := Below.trans belt (b8.mono omh)
          have s8 := c8.size
          have bb8 := H_bb7.out.trans (c8.mono H_bb7.out.size)
          have k8 := H_k7.out.below c8
          have t8 := H_t7.out.below c8
          have H_b8 := Lib.hid b8; clear b8; have H_c8 := Lib.hid c8; clear c8; have H_bb8 := Lib.hid bb8; clear bb8; have H_k8 := Lib.hid k8; clear k8; have H_t8 := Lib.hid t8; clear t8
          have s8 := H_c8.out.size
          have oa8 := pa8.off H_oz7.out (by simp; omega)
          have ob8 := pb8.off H_qz7.out (by simp; omega)
          obtain ⟨w9, hw9⟩ : ∃ W, (putL w8 w4.heap.size 0 [.int .i64 K.d, .int .i64 K.k, .int .i64 K.r, .int .i64 K.x.s, .int .i64 K.x.c, .slice A8 K.x.l.length p8, .int .u64 K.x.u, .int .i64 K.y.s, .int .i64 K.y.c, .slice B8 K.y.l.length r8, .int .u64 K.y.u, .bool K.up]).alloc (.cells #[.int .i64 K.d, .int .i64 K.k, .int .i64 K.r, .int .i64 K.x.s, .int .i64 K.x.c, .slice A8 K.x.l.length p8, .int .u64 K.x.u, .int .i64 K.y.s, .int .i64 K.y.c, .slice B8 K.y.l.length r8, .int .u64 K.y.u, .bool K.up] 55) = W := ⟨_, rfl⟩
          have k9 : Blk w9 w4.heap.size #[.int .i64 K.d, .int .i64 K.k, .int .i64 K.r, .int .i64 K.x.s, .int .i64 K.x.c, .slice A8 K.x.l.length p8, .int .u64 K.x.u, .int .i64 K.y.s, .int .i64 K.y.c, .slice B8 K.y.l.length r8, .int .u64 K.y.u, .bool K.up] := by rw [← hw9]; exact (putL_blk H_k8.out _ (by simp)).alloc _
          have a9 : IntsAt w9 A8 .i64 K.x.l := by rw [← hw9]; exact ints_alloc (putL_ints oa8 _ _ _ pa8.1) _
          have b9 : IntsAt w9 B8 .i64 K.y.l := by rw [← hw9]; exact ints_alloc (putL_ints ob8 _ _ _ pb8.1) _
          have c9 : Below w4.heap.size w4 w9 := by rw [← hw9]; exact (putL_below (Nat.le_refl _) _ _ _ (H_cc6.out.trans ((H_c7.out.trans (H_c8.out.mono H_c7.out.size)).mono H_cc6.out.size))).alloc (by rw [putL_size]; exact ((H_cc6.out.trans ((H_c7.out.trans (H_c8.out.mono H_c7.out.size)).mono H_cc6.out.size))).size) _
          simp only [putL, Nat.reduceAdd] at hw9
          clear pa8 pb8
          have f0 := (H_k8.out 0 _ rfl).free
          have f1 := (H_k8.out 1 _ rfl).free
          have f2 := (H_k8.out 2 _ rfl).free
          have f3 := (H_k8.out 3 _ rfl).free
          have f4 := (H_k8.out 4 _ rfl).free
          have f5 := (H_k8.out 5 _ rfl).free
          have f6 := (H_k8.out 6 _ rfl).free
          have f7 := (H_k8.out 7 _ rfl).free
          have f8 := (H_k8.out 8 _ rfl).free
          have f9 := (H_k8.out 9 _ rfl).free
          have f10 := (H_k8.out 10 _ rfl).free
          have f11 := (H_k8.out 11 _ rfl).free
          have y0 := (H_k8.out 0 _ rfl).at
          have y1 := (H_k8.out 1 _ rfl).at
          have y2 := (H_k8.out 2 _ rfl).at
          have y3 := (H_k8.out 3 _ rfl).at
          have y4 := (H_k8.out 4 _ rfl).at
          have y5 := (H_k8.out 5 _ rfl).at
          have y6 := (H_k8.out 6 _ rfl).at
          have y7 := (H_k8.out 7 _ rfl).at
          have y8 := (H_k8.out 8 _ rfl).at
          have y9 := (H_k8.out 9 _ rfl).at
          have y10 := (H_k8.out 10 _ rfl).at
          have y11 := (H_k8.out 11 _ rfl).at
          have ly := (H_k8.out 0 _ rfl).lt
          have H_k9 := Lib.hid k9; clear k9; have H_a9 := Lib.hid a9; clear a9; have H_b9 := Lib.hid b9; clear b9; have H_c9 := Lib.hid c9; clear c9; have H_oa8 := Lib.hid oa8; clear oa8; have H_ob8 := Lib.hid ob8; clear ob8
          go_upto_region 16 with (fail)
          have H_hw9 := Lib.hid hw9; clear hw9
          go_wp2_with fail
          go_roundw
          case rel => exact ⟨k + 1, K, A8, p8, B8, r8, by omega, by go_num, H_c9.out, ⟨H_k9.out, H_a9.out, H_b9.out, H_oa8.out, H_ob8.out, H_fK.out.1, H_fK.out.2, H_vK.out⟩, H_uK.out, H_mK.out⟩
          case measure => simp [intOf]; omega
        · have g1 : ¬ (k : Int) < (N : Int) := by omega
          have q5 := fun W (h1 : IntsAt W A5 .i64 L.x.l) (h2 : IntsAt W B5 .i64 L.y.l) (h3 : Tab W) => show_any L d t 3 A5 L.x.l.length p5 B5 L.y.l.length r5 W (hat.fx.is h1) (hat.fy.is h2) h3 H_hd.out
          obtain ⟨hE5, hO5⟩ := lost_law hat.v hu5 H_hV.out H_htb.out hm5
          rw [hO5] at q5
          generalize shE L d t 3 = E5 at *
          generalize shR L d t 3 = Z at *
          unfold ShowPost Lk.cells Crd.cells at q5
          have dr := H_d4.out.below hbw
          have ar := hat.a
          have br := hat.b
          have tr := tw
          have H_q5 := Lib.hid q5; clear q5; have H_hbw := Lib.hid hbw; clear hbw; have H_hat := Lib.hid hat; clear hat; have H_hu5 := Lib.hid hu5; clear hu5; have H_hm5 := Lib.hid hm5; clear hm5; have H_tw := Lib.hid tw; clear tw; have H_rw5 := Lib.hid rw5; clear rw5; have H_bbr := Lib.hid bbr; clear bbr; have H_kr := Lib.hid kr; clear kr; have H_dr := Lib.hid dr; clear dr; have H_ar := Lib.hid ar; clear ar; have H_br := Lib.hid br; clear br; have H_tr := Lib.hid tr; clear tr
          have y0 := (H_kr.out 0 _ rfl).at
          have y1 := (H_kr.out 1 _ rfl).at
          have y2 := (H_kr.out 2 _ rfl).at
          have y3 := (H_kr.out 3 _ rfl).at
          have y4 := (H_kr.out 4 _ rfl).at
          have y5 := (H_kr.out 5 _ rfl).at
          have y6 := (H_kr.out 6 _ rfl).at
          have y7 := (H_kr.out 7 _ rfl).at
          have y8 := (H_kr.out 8 _ rfl).at
          have y9 := (H_kr.out 9 _ rfl).at
          have y10 := (H_kr.out 10 _ rfl).at
          have y11 := (H_kr.out 11 _ rfl).at
          have z0 := (H_dr.out 0 _ rfl).at
          have z1 := (H_dr.out 1 _ rfl).at
          have z2 := (H_dr.out 2 _ rfl).at
          have z3 := (H_dr.out 3 _ rfl).at
          have z4 := (H_dr.out 4 _ rfl).at
          have z5 := (H_dr.out 5 _ rfl).at
          have z6 := (H_dr.out 6 _ rfl).at
          have z7 := (H_dr.out 7 _ rfl).at
          have z8 := (H_dr.out 8 _ rfl).at
          go_wp2_with fail
          (with_reducible refine (H_q5.out _ ?_ ?_ ?_).mono ?_)
          · exact H_ar.out.below (show Below wr.heap.size wr _ from belt)
          · exact H_br.out.below (show Below wr.heap.size wr _ from belt)
          · exact H_tr.out.below (show Below wr.heap.size wr _ from belt)
          rintro e w7 ⟨A7, p7, B7, r7, rfl, _, _, b7⟩
          have c7 : Below wr.heap.size wr w7 := Below.trans belt (b7.mono omh)
          have s7 := c7.size
          have bb7 := H_bbr.out.trans (c7.mono H_bbr.out.size)
          have H_b7 := Lib.hid b7; clear b7; have H_c7 := Lib.hid c7; clear c7; have H_bb7 := Lib.hid bb7; clear bb7
          rcases hE5 with rfl | rfl
          all_goals
            go_wp2_with fail
            go_ret
            exact ⟨rfl, H_bb7.out.alloc H_bb7.out.size _⟩
end Go.Proofs.YtoehobaigfmnpaaDoor

/- Contract of package lock: accepts. -/
import Derived.Test.YtoehobaigfmnpaaDoorMr29
namespace Go.Proofs.YtoehobaigfmnpaaDoor
set_option linter.unusedSimpArgs false
set_option linter.unusedVariables false
set_option maxRecDepth 100000
open Go.RowKit
theorem contains_any (A : Option Addr) (n c : Nat) (l : List Int) (hl : l.length = n) (x : Int) (w : World) (hi : IntsAt w A .i64 l) (hn : n ≤ 100000) :
    Calls Tryd.prog 72 #[.slice A n c, .int .i64 x] w fun e w' => e = .returned (.bool (l.contains x)) ∧ Below w.heap.size w w' := by
  rcases Nat.eq_zero_or_pos n with h0 | h0
  · subst h0
    have h0 : l = [] := List.eq_nil_of_length_eq_zero hl
    subst h0
    refine (Tryd.slices_Contains_int_empty A c x w).mono ?_
    rintro e w' ⟨rfl, rfl⟩
    exact ⟨rfl, Below.refl _ _⟩
  · obtain ⟨b, off, rfl, _⟩ := hi 0 (by omega)
    have ht : l.take n = l := List.take_of_length_le (by omega)
    refine (Tryd.slices_Contains_int b off n c l x w (by omega) (by omega) (fun j hj => ?_)).mono ?_
    · obtain ⟨b', off', e, _, hc⟩ := hi j hj
      injection e with e
      injection e with e1 e2
      subst e1 e2
      exact hc
    · rintro e w' ⟨rfl, rfl⟩
      rw [ht]
      exact ⟨rfl, Below.refl _ _⟩
/-- whether a lock accepts a card -/
def accB (l : Lk) (c : Crd) (t : Int) : Bool := askB t l.r c.f c.u && mayB t l.r c.f c.u && (decide (c.d = l.d) || decide (c.d = 0)) && !(keepS l).l.contains c.i && (!decide (c.k = 1) || decide ((keepS l).c ≤ c.n))
set_option maxHeartbeats 4000000 in
theorem accepts_any (l : Lk) (c : Crd) (t : Int) (A : Option Addr) (n p : Nat) (B : Option Addr) (m q : Nat) (w : World) (hx : SlotIs w A n l.x) (hy : SlotIs w B m l.y) (ht : Tab w) :
    Calls Tryd.prog 54 #[.agg (l.cells A n p B m q).toArray, .agg c.cells.toArray, .int .i64 t] w fun e w' => e = .returned (.bool (accB l c t)) ∧ Below w.heap.size w w' := by
  obtain ⟨w0, hw0⟩ : ∃ W, (w.alloc (.cells (l.cells A n p B m q).toArray 103)).alloc (.cells c.cells.toArray 31) = W := ⟨_, rfl⟩
  have bb0 : Below w.heap.size w w0 := by rw [← hw0]; exact ((Below.refl _ _).alloc (Nat.le_refl _) _).alloc (by simp) _
  have k0 : Blk w0 w.heap.size (l.cells A n p B m q).toArray := by rw [← hw0]; exact (blk_new rfl).alloc _
  have g0 : Blk w0 (w.heap.size + 1) c.cells.toArray := by rw [← hw0]; exact blk_new (by simp)
  obtain ⟨K, tt, hs, q1⟩ := kept_as l A n p B m q w hx hy ht
  have fin : accB l c t = (askB t l.r c.f c.u && mayB t l.r c.f c.u && (decide (c.d = l.d) || decide (c.d = 0)) && !(keepS l).l.contains c.i && (!decide (c.k = 1) || decide ((keepS l).c ≤ c.n))) := rfl
  generalize accB l c t = R at *
  generalize keepS l = s at *
  generalize bestB l.x l.y = T at *
  have few := hs.few
  have q2 := fun W => clockMaybe_any t l.r c.f c.u W
  have q3 := fun W h => contains_any K s.l.length tt s.l rfl c.i W h (by omega)
  generalize askB t l.r c.f c.u = E at *
  generalize mayB t l.r c.f c.u = M at *
  generalize hC : s.l.contains c.i = C at *
  unfold errN at q2
  unfold Lk.cells at k0 hw0 q1 ⊢
  unfold Crd.cells at g0 hw0 ⊢
  obtain ⟨ci, ck, cd, cn, cf, cu, cl, ce, cs⟩ := c
  obtain ⟨ld, lk, lr, lx, ly, lu⟩ := l
  dsimp only at k0 hw0 q1 g0 q2 q3 fin ⊢
  cases E with
  | false =>
    simp only [Bool.false_eq_true, reduceIte, if_true, if_false] at q2
    have fin' : R = false := by rw [fin]; simp []
    clear fin
    have H_bb0 := Lib.hid bb0; clear bb0; have H_k0 := Lib.hid k0; clear k0; have H_g0 := Lib.hid g0; clear g0; have H_hw0 := Lib.hid hw0; clear hw0; have H_q1 := Lib.hid q1; clear q1; have H_q2 := Lib.hid q2; clear q2; have H_q3 := Lib.hid q3; clear q3; have H_hx := Lib.hid hx; clear hx; have H_hy := Lib.hid hy; clear hy; have H_ht := Lib.hid ht; clear ht; have H_hs := Lib.hid hs; clear hs; have H_few := Lib.hid few; clear few; have H_fin' := Lib.hid fin'; clear fin'
    go_enter Tryd.func54, Tryd.ntmps54
    go_wp2_with fail
    rw [H_hw0.out]
    have y0 := (H_k0.out 0 _ rfl).at
    have y1 := (H_k0.out 1 _ rfl).at
    have y2 := (H_k0.out 2 _ rfl).at
    have y3 := (H_k0.out 3 _ rfl).at
    have y4 := (H_k0.out 4 _ rfl).at
    have y5 := (H_k0.out 5 _ rfl).at
    have y6 := (H_k0.out 6 _ rfl).at
    have y7 := (H_k0.out 7 _ rfl).at
    have y8 := (H_k0.out 8 _ rfl).at
    have y9 := (H_k0.out 9 _ rfl).at
    have y10 := (H_k0.out 10 _ rfl).at
    have y11 := (H_k0.out 11 _ rfl).at
    go_wp2_with fail
    (with_reducible refine (H_q1.out _ ?_).mono ?_)
    · exact H_bb0.out
    rintro e w1 ⟨rfl, b1⟩
    have c1 : Below w0.heap.size w0 w1 := Below.trans belt (b1.mono omh)
    have s1 := c1.size
    have bb1 := H_bb0.out.trans (c1.mono H_bb0.out.size)
    have k1 := H_k0.out.below c1
    have g1 := H_g0.out.below c1
    have H_b1 := Lib.hid b1; clear b1; have H_c1 := Lib.hid c1; clear c1; have H_bb1 := Lib.hid bb1; clear bb1; have H_k1 := Lib.hid k1; clear k1; have H_g1 := Lib.hid g1; clear g1
    clear y0 y1 y2 y3 y4 y5 y6 y7 y8 y9 y10 y11
    have y0 := (H_k1.out 0 _ rfl).at
    have y1 := (H_k1.out 1 _ rfl).at
    have y2 := (H_k1.out 2 _ rfl).at
    have y3 := (H_k1.out 3 _ rfl).at
    have y4 := (H_k1.out 4 _ rfl).at
    have y5 := (H_k1.out 5 _ rfl).at
    have y6 := (H_k1.out 6 _ rfl).at
    have y7 := (H_k1.out 7 _ rfl).at
    have y8 := (H_k1.out 8 _ rfl).at
    have y9 := (H_k1.out 9 _ rfl).at
    have y10 := (H_k1.out 10 _ rfl).at
    have y11 := (H_k1.out 11 _ rfl).at
    have z0 := (H_g1.out 0 _ rfl).at
    have z1 := (H_g1.out 1 _ rfl).at
    have z2 := (H_g1.out 2 _ rfl).at
    have z3 := (H_g1.out 3 _ rfl).at
    have z4 := (H_g1.out 4 _ rfl).at
    have z5 := (H_g1.out 5 _ rfl).at
    have z6 := (H_g1.out 6 _ rfl).at
    have z7 := (H_g1.out 7 _ rfl).at
    have z8 := (H_g1.out 8 _ rfl).at
    have ly1 := (H_k1.out 0 _ rfl).lt
    have lz1 := (H_g1.out 0 _ rfl).lt
    have o1 : Blk (w1.alloc (.cells #[.int .i64 s.s, .int .i64 s.c, .slice K s.l.length tt, .int .u64 s.u] 52)) w1.heap.size #[.int .i64 s.s, .int .i64 s.c, .slice K s.l.length tt, .int .u64 s.u] := blk_new rfl
    go_wp2_with fail
    (with_reducible refine (H_q2.out _).mono ?_)
    rintro e w2 ⟨rfl, b2⟩
    have c2 : Below w1.heap.size w1 w2 := Below.trans belt (b2.mono omh)
    have s2 := c2.size
    have bb2 := H_bb1.out.trans (c2.mono H_bb1.out.size)
    have k2 := H_k1.out.below c2
    have g2 := H_g1.out.below c2
    have H_b2 := Lib.hid b2; clear b2; have H_c2 := Lib.hid c2; clear c2; have H_bb2 := Lib.hid bb2; clear bb2; have H_k2 := Lib.hid k2; clear k2; have H_g2 := Lib.hid g2; clear g2
    have o2 := o1.below H_b2.out
    have e2 := H_hs.out.below H_bb2.out
    clear y0 y1 y2 y3 y4 y5 y6 y7 y8 y9 y10 y11
    clear z0 z1 z2 z3 z4 z5 z6 z7 z8
    have H_o2 := Lib.hid o2; clear o2; have H_e2 := Lib.hid e2; clear e2
    have y0 := (H_k2.out 0 _ rfl).at
    have y1 := (H_k2.out 1 _ rfl).at
    have y2 := (H_k2.out 2 _ rfl).at
    have y3 := (H_k2.out 3 _ rfl).at
    have y4 := (H_k2.out 4 _ rfl).at
    have y5 := (H_k2.out 5 _ rfl).at
    have y6 := (H_k2.out 6 _ rfl).at
    have y7 := (H_k2.out 7 _ rfl).at
    have y8 := (H_k2.out 8 _ rfl).at
    have y9 := (H_k2.out 9 _ rfl).at
    have y10 := (H_k2.out 10 _ rfl).at
    have y11 := (H_k2.out 11 _ rfl).at
    have z0 := (H_g2.out 0 _ rfl).at
    have z1 := (H_g2.out 1 _ rfl).at
    have z2 := (H_g2.out 2 _ rfl).at
    have z3 := (H_g2.out 3 _ rfl).at
    have z4 := (H_g2.out 4 _ rfl).at
    have z5 := (H_g2.out 5 _ rfl).at
    have z6 := (H_g2.out 6 _ rfl).at
    have z7 := (H_g2.out 7 _ rfl).at
    have z8 := (H_g2.out 8 _ rfl).at
    have x0 := (H_o2.out 0 _ rfl).at
    have x1 := (H_o2.out 1 _ rfl).at
    have x2 := (H_o2.out 2 _ rfl).at
    have x3 := (H_o2.out 3 _ rfl).at
    have ly2 := (H_k2.out 0 _ rfl).lt
    have lz2 := (H_g2.out 0 _ rfl).lt
    have lx2 := (H_o2.out 0 _ rfl).lt
    go_wp2_with fail
    all_goals
      go_ret
      exact ⟨ret_bool H_fin'.out.symm, H_bb2.out⟩
  | true =>
  cases M with
  | false =>
    simp only [Bool.false_eq_true, reduceIte, if_true, if_false] at q2
    have fin' : R = false := by rw [fin]; simp []
    clear fin
    have H_bb0 := Lib.hid bb0; clear bb0; have H_k0 := Lib.hid k0; clear k0; have H_g0 := Lib.hid g0; clear g0; have H_hw0 := Lib.hid hw0; clear hw0; have H_q1 := Lib.hid q1; clear q1; have H_q2 := Lib.hid q2; clear q2; have H_q3 := Lib.hid q3; clear q3; have H_hx := Lib.hid hx; clear hx; have H_hy := Lib.hid hy; clear hy; have H_ht := Lib.hid ht; clear ht; have H_hs := Lib.hid hs; clear hs; have H_few := Lib.hid few; clear few; have H_fin' := Lib.hid fin'; clear fin'
    go_enter Tryd.func54, Tryd.ntmps54
    go_wp2_with fail
    rw [H_hw0.out]
    have y0 := (H_k0.out 0 _ rfl).at
    have y1 := (H_k0.out 1 _ rfl).at
    have y2 := (H_k0.out 2 _ rfl).at
    have y3 := (H_k0.out 3 _ rfl).at
    have y4 := (H_k0.out 4 _ rfl).at
    have y5 := (H_k0.out 5 _ rfl).at
    have y6 := (H_k0.out 6 _ rfl).at
    have y7 := (H_k0.out 7 _ rfl).at
    have y8 := (H_k0.out 8 _ rfl).at
    have y9 := (H_k0.out 9 _ rfl).at
    have y10 := (H_k0.out 10 _ rfl).at
    have y11 := (H_k0.out 11 _ rfl).at
    go_wp2_with fail
    (with_reducible refine (H_q1.out _ ?_).mono ?_)
    · exact H_bb0.out
    rintro e w1 ⟨rfl, b1⟩
    have c1 : Below w0.heap.size w0 w1 := Below.trans belt (b1.mono omh)
    have s1 := c1.size
    have bb1 := H_bb0.out.trans (c1.mono H_bb0.out.size)
    have k1 := H_k0.out.below c1
    have g1 := H_g0.out.below c1
    have H_b1 := Lib.hid b1; clear b1; have H_c1 := Lib.hid c1; clear c1; have H_bb1 := Lib.hid bb1; clear bb1; have H_k1 := Lib.hid k1; clear k1; have H_g1 := Lib.hid g1; clear g1
    clear y0 y1 y2 y3 y4 y5 y6 y7 y8 y9 y10 y11
    have y0 := (H_k1.out 0 _ rfl).at
    have y1 := (H_k1.out 1 _ rfl).at
    have y2 := (H_k1.out 2 _ rfl).at
    have y3 := (H_k1.out 3 _ rfl).at
    have y4 := (H_k1.out 4 _ rfl).at
    have y5 := (H_k1.out 5 _ rfl).at
    have y6 := (H_k1.out 6 _ rfl).at
    have y7 := (H_k1.out 7 _ rfl).at
    have y8 := (H_k1.out 8 _ rfl).at
    have y9 := (H_k1.out 9 _ rfl).at
    have y10 := (H_k1.out 10 _ rfl).at
    have y11 := (H_k1.out 11 _ rfl).at
    have z0 := (H_g1.out 0 _ rfl).at
    have z1 := (H_g1.out 1 _ rfl).at
    have z2 := (H_g1.out 2 _ rfl).at
    have z3 := (H_g1.out 3 _ rfl).at
    have z4 := (H_g1.out 4 _ rfl).at
    have z5 := (H_g1.out 5 _ rfl).at
    have z6 := (H_g1.out 6 _ rfl).at
    have z7 := (H_g1.out 7 _ rfl).at
    have z8 := (H_g1.out 8 _ rfl).at
    have ly1 := (H_k1.out 0 _ rfl).lt
    have lz1 := (H_g1.out 0 _ rfl).lt
    have o1 : Blk (w1.alloc (.cells #[.int .i64 s.s, .int .i64 s.c, .slice K s.l.length tt, .int .u64 s.u] 52)) w1.heap.size #[.int .i64 s.s, .int .i64 s.c, .slice K s.l.length tt, .int .u64 s.u] := blk_new rfl
    go_wp2_with fail
    (with_reducible refine (H_q2.out _).mono ?_)
    rintro e w2 ⟨rfl, b2⟩
    have c2 : Below w1.heap.size w1 w2 := Below.trans belt (b2.mono omh)
    have s2 := c2.size
    have bb2 := H_bb1.out.trans (c2.mono H_bb1.out.size)
    have k2 := H_k1.out.below c2
    have g2 := H_g1.out.below c2
    have H_b2 := Lib.hid b2; clear b2; have H_c2 := Lib.hid c2; clear c2; have H_bb2 := Lib.hid bb2; clear bb2; have H_k2 := Lib.hid k2; clear k2; have H_g2 := Lib.hid g2; clear g2
    have o2 := o1.below H_b2.out
    have e2 := H_hs.out.below H_bb2.out
    clear y0 y1 y2 y3 y4 y5 y6 y7 y8 y9 y10 y11
    clear z0 z1 z2 z3 z4 z5 z6 z7 z8
    have H_o2 := Lib.hid o2; clear o2; have H_e2 := Lib.hid e2; clear e2
    have y0 := (H_k2.out 0 _ rfl).at
    have y1 := (H_k2.out 1 _ rfl).at
    have y2 := (H_k2.out 2 _ rfl).at
    have y3 := (H_k2.out 3 _ rfl).at
    have y4 := (H_k2.out 4 _ rfl).at
    have y5 := (H_k2.out 5 _ rfl).at
    have y6 := (H_k2.out 6 _ rfl).at
    have y7 := (H_k2.out 7 _ rfl).at
    have y8 := (H_k2.out 8 _ rfl).at
    have y9 := (H_k2.out 9 _ rfl).at
    have y10 := (H_k2.out 10 _ rfl).at
    have y11 := (H_k2.out 11 _ rfl).at
    have z0 := (H_g2.out 0 _ rfl).at
    have z1 := (H_g2.out 1 _ rfl).at
    have z2 := (H_g2.out 2 _ rfl).at
    have z3 := (H_g2.out 3 _ rfl).at
    have z4 := (H_g2.out 4 _ rfl).at
    have z5 := (H_g2.out 5 _ rfl).at
    have z6 := (H_g2.out 6 _ rfl).at
    have z7 := (H_g2.out 7 _ rfl).at
    have z8 := (H_g2.out 8 _ rfl).at
    have x0 := (H_o2.out 0 _ rfl).at
    have x1 := (H_o2.out 1 _ rfl).at
    have x2 := (H_o2.out 2 _ rfl).at
    have x3 := (H_o2.out 3 _ rfl).at
    have ly2 := (H_k2.out 0 _ rfl).lt
    have lz2 := (H_g2.out 0 _ rfl).lt
    have lx2 := (H_o2.out 0 _ rfl).lt
    go_wp2_with fail
    all_goals
      go_ret
      exact ⟨ret_bool H_fin'.out.symm, H_bb2.out⟩
  | true =>
  by_cases h1 : cd = ld
  · subst h1
    cases C with
    | true =>
      simp only [Bool.false_eq_true, reduceIte, if_true, if_false] at q2
      have fin' : R = false := by rw [fin]; simp []
      clear fin
      have H_bb0 := Lib.hid bb0; clear bb0; have H_k0 := Lib.hid k0; clear k0; have H_g0 := Lib.hid g0; clear g0; have H_hw0 := Lib.hid hw0; clear hw0; have H_q1 := Lib.hid q1; clear q1; have H_q2 := Lib.hid q2; clear q2; have H_q3 := Lib.hid q3; clear q3; have H_hx := Lib.hid hx; clear hx; have H_hy := Lib.hid hy; clear hy; have H_ht := Lib.hid ht; clear ht; have H_hs := Lib.hid hs; clear hs; have H_few := Lib.hid few; clear few; have H_fin' := Lib.hid fin'; clear fin'
      go_enter Tryd.func54, Tryd.ntmps54
      go_wp2_with fail
      rw [H_hw0.out]
      have y0 := (H_k0.out 0 _ rfl).at
      have y1 := (H_k0.out 1 _ rfl).at
      have y2 := (H_k0.out 2 _ rfl).at
      have y3 := (H_k0.out 3 _ rfl).at
      have y4 := (H_k0.out 4 _ rfl).at
      have y5 := (H_k0.out 5 _ rfl).at
      have y6 := (H_k0.out 6 _ rfl).at
      have y7 := (H_k0.out 7 _ rfl).at
      have y8 := (H_k0.out 8 _ rfl).at
      have y9 := (H_k0.out 9 _ rfl).at
      have y10 := (H_k0.out 10 _ rfl).at
      have y11 := (H_k0.out 11 _ rfl).at
      go_wp2_with fail
      (with_reducible refine (H_q1.out _ ?_).mono ?_)
      · exact H_bb0.out
      rintro e w1 ⟨rfl, b1⟩
      have c1 : Below w0.heap.size w0 w1 := Below.trans belt (b1.mono omh)
      have s1 := c1.size
      have bb1 := H_bb0.out.trans (c1.mono H_bb0.out.size)
      have k1 := H_k0.out.below c1
      have g1 := H_g0.out.below c1
      have H_b1 := Lib.hid b1; clear b1; have H_c1 := Lib.hid c1; clear c1; have H_bb1 := Lib.hid bb1; clear bb1; have H_k1 := Lib.hid k1; clear k1; have H_g1 := Lib.hid g1; clear g1
      clear y0 y1 y2 y3 y4 y5 y6 y7 y8 y9 y10 y11
      have y0 := (H_k1.out 0 _ rfl).at
      have y1 := (H_k1.out 1 _ rfl).at
      have y2 := (H_k1.out 2 _ rfl).at
      have y3 := (H_k1.out 3 _ rfl).at
      have y4 := (H_k1.out 4 _ rfl).at
      have y5 := (H_k1.out 5 _ rfl).at
      have y6 := (H_k1.out 6 _ rfl).at
      have y7 := (H_k1.out 7 _ rfl).at
      have y8 := (H_k1.out 8 _ rfl).at
      have y9 := (H_k1.out 9 _ rfl).at
      have y10 := (H_k1.out 10 _ rfl).at
      have y11 := (H_k1.out 11 _ rfl).at
      have z0 := (H_g1.out 0 _ rfl).at
      have z1 := (H_g1.out 1 _ rfl).at
      have z2 := (H_g1.out 2 _ rfl).at
      have z3 := (H_g1.out 3 _ rfl).at
      have z4 := (H_g1.out 4 _ rfl).at
      have z5 := (H_g1.out 5 _ rfl).at
      have z6 := (H_g1.out 6 _ rfl).at
      have z7 := (H_g1.out 7 _ rfl).at
      have z8 := (H_g1.out 8 _ rfl).at
      have ly1 := (H_k1.out 0 _ rfl).lt
      have lz1 := (H_g1.out 0 _ rfl).lt
      have o1 : Blk (w1.alloc (.cells #[.int .i64 s.s, .int .i64 s.c, .slice K s.l.length tt, .int .u64 s.u] 52)) w1.heap.size #[.int .i64 s.s, .int .i64 s.c, .slice K s.l.length tt, .int .u64 s.u] := blk_new rfl
      go_wp2_with fail
      (with_reducible refine (H_q2.out _).mono ?_)
      rintro e w2 ⟨rfl, b2⟩
      have c2 : Below w1.heap.size w1 w2 := Below.trans belt (b2.mono omh)
      have s2 := c2.size
      have bb2 := H_bb1.out.trans (c2.mono H_bb1.out.size)
      have k2 := H_k1.out.below c2
      have g2 := H_g1.out.below c2
      have H_b2 := Lib.hid b2; clear b2; have H_c2 := Lib.hid c2; clear c2; have H_bb2 := Lib.hid bb2; clear bb2; have H_k2 := Lib.hid k2; clear k2; have H_g2 := Lib.hid g2; clear g2
      have o2 := o1.below H_b2.out
      have e2 := H_hs.out.below H_bb2.out
      clear y0 y1 y2 y3 y4 y5 y6 y7 y8 y9 y10 y11
      clear z0 z1 z2 z3 z4 z5 z6 z7 z8
      have H_o2 := Lib.hid o2; clear o2; have H_e2 := Lib.hid e2; clear e2
      have y0 := (H_k2.out 0 _ rfl).at
      have y1 := (H_k2.out 1 _ rfl).at
      have y2 := (H_k2.out 2 _ rfl).at
      have y3 := (H_k2.out 3 _ rfl).at
      have y4 := (H_k2.out 4 _ rfl).at
      have y5 := (H_k2.out 5 _ rfl).at
      have y6 := (H_k2.out 6 _ rfl).at
      have y7 := (H_k2.out 7 _ rfl).at
      have y8 := (H_k2.out 8 _ rfl).at
      have y9 := (H_k2.out 9 _ rfl).at
      have y10 := (H_k2.out 10 _ rfl).at
      have y11 := (H_k2.out 11 _ rfl).at
      have z0 := (H_g2.out 0 _ rfl).at
      have z1 := (H_g2.out 1 _ rfl).at
      have z2 := (H_g2.out 2 _ rfl).at
      have z3 := (H_g2.out 3 _ rfl).at
      have z4 := (H_g2.out 4 _ rfl).at
      have z5 := (H_g2.out 5 _ rfl).at
      have z6 := (H_g2.out 6 _ rfl).at
      have z7 := (H_g2.out 7 _ rfl).at
      have z8 := (H_g2.out 8 _ rfl).at
      have x0 := (H_o2.out 0 _ rfl).at
      have x1 := (H_o2.out 1 _ rfl).at
      have x2 := (H_o2.out 2 _ rfl).at
      have x3 := (H_o2.out 3 _ rfl).at
      have ly2 := (H_k2.out 0 _ rfl).lt
      have lz2 := (H_g2.out 0 _ rfl).lt
      have lx2 := (H_o2.out 0 _ rfl).lt
      go_wp2_with fail
      (with_reducible refine (H_q3.out _ ?_).mono ?_)
      · exact (H_e2.out.below (show Below w2.heap.size w2 _ from belt)).ints
      rintro e w3 ⟨rfl, b3⟩
      have c3 : Below w2.heap.size w2 w3 := Below.trans belt (b3.mono omh)
      have s3 := c3.size
      have bb3 := H_bb2.out.trans (c3.mono H_bb2.out.size)
      have k3 := H_k2.out.below c3
      have g3 := H_g2.out.below c3
      have o3 := H_o2.out.below c3
      have e3 := H_e2.out.below c3
      have H_b3 := Lib.hid b3; clear b3; have H_c3 := Lib.hid c3; clear c3; have H_bb3 := Lib.hid bb3; clear bb3; have H_k3 := Lib.hid k3; clear k3; have H_g3 := Lib.hid g3; clear g3; have H_o3 := Lib.hid o3; clear o3; have H_e3 := Lib.hid e3; clear e3
      clear y0 y1 y2 y3 y4 y5 y6 y7 y8 y9 y10 y11
      clear z0 z1 z2 z3 z4 z5 z6 z7 z8
      clear x0 x1 x2 x3
      have y0 := (H_k3.out 0 _ rfl).at
      have y1 := (H_k3.out 1 _ rfl).at
      have y2 := (H_k3.out 2 _ rfl).at
      have y3 := (H_k3.out 3 _ rfl).at
      have y4 := (H_k3.out 4 _ rfl).at
      have y5 := (H_k3.out 5 _ rfl).at
      have y6 := (H_k3.out 6 _ rfl).at
      have y7 := (H_k3.out 7 _ rfl).at
      have y8 := (H_k3.out 8 _ rfl).at
      have y9 := (H_k3.out 9 _ rfl).at
      have y10 := (H_k3.out 10 _ rfl).at
      have y11 := (H_k3.out 11 _ rfl).at
      have z0 := (H_g3.out 0 _ rfl).at
      have z1 := (H_g3.out 1 _ rfl).at
      have z2 := (H_g3.out 2 _ rfl).at
      have z3 := (H_g3.out 3 _ rfl).at
      have z4 := (H_g3.out 4 _ rfl).at
      have z5 := (H_g3.out 5 _ rfl).at
      have z6 := (H_g3.out 6 _ rfl).at
      have z7 := (H_g3.out 7 _ rfl).at
      have z8 := (H_g3.out 8 _ rfl).at
      have x0 := (H_o3.out 0 _ rfl).at
      have x1 := (H_o3.out 1 _ rfl).at
      have x2 := (H_o3.out 2 _ rfl).at
      have x3 := (H_o3.out 3 _ rfl).at
      go_wp2_with fail
      all_goals
        go_ret
        exact ⟨ret_bool H_fin'.out.symm, H_bb3.out⟩
    | false =>
    by_cases hk : ck = 1
    · subst hk
      by_cases hn : s.c ≤ cn
      · have dn : decide (s.c ≤ cn) = true := decide_eq_true hn
        simp only [Bool.false_eq_true, reduceIte, if_true, if_false] at q2
        have fin' : R = true := by rw [fin]; simp [hn]
        clear fin
        have H_bb0 := Lib.hid bb0; clear bb0; have H_k0 := Lib.hid k0; clear k0; have H_g0 := Lib.hid g0; clear g0; have H_hw0 := Lib.hid hw0; clear hw0; have H_q1 := Lib.hid q1; clear q1; have H_q2 := Lib.hid q2; clear q2; have H_q3 := Lib.hid q3; clear q3; have H_hx := Lib.hid hx; clear hx; have H_hy := Lib.hid hy; clear hy; have H_ht := Lib.hid ht; clear ht; have H_hs := Lib.hid hs; clear hs; have H_few := Lib.hid few; clear few; have H_fin' := Lib.hid fin'; clear fin'
        go_enter Tryd.func54, Tryd.ntmps54
        go_wp2_with fail
        rw [H_hw0.out]
        have y0 := (H_k0.out 0 _ rfl).at
        have y1 := (H_k0.out 1 _ rfl).at
        have y2 := (H_k0.out 2 _ rfl).at
        have y3 := (H_k0.out 3 _ rfl).at
        have y4 := (H_k0.out 4 _ rfl).at
        have y5 := (H_k0.out 5 _ rfl).at
        have y6 := (H_k0.out 6 _ rfl).at
        have y7 := (H_k0.out 7 _ rfl).at
        have y8 := (H_k0.out 8 _ rfl).at
        have y9 := (H_k0.out 9 _ rfl).at
        have y10 := (H_k0.out 10 _ rfl).at
        have y11 := (H_k0.out 11 _ rfl).at
        go_wp2_with fail
        (with_reducible refine (H_q1.out _ ?_).mono ?_)
        · exact H_bb0.out
        rintro e w1 ⟨rfl, b1⟩
        have c1 : Below w0.heap.size w0 w1 := Below.trans belt (b1.mono omh)
        have s1 := c1.size
        have bb1 := H_bb0.out.trans (c1.mono H_bb0.out.size)
        have k1 := H_k0.out.below c1
        have g1 := H_g0.out.below c1
        have H_b1 := Lib.hid b1; clear b1; have H_c1 := Lib.hid c1; clear c1; have H_bb1 := Lib.hid bb1; clear bb1; have H_k1 := Lib.hid k1; clear k1; have H_g1 := Lib.hid g1; clear g1
        clear y0 y1 y2 y3 y4 y5 y6 y7 y8 y9 y10 y11
        have y0 := (H_k1.out 0 _ rfl).at
        have y1 := (H_k1.out 1 _ rfl).at
        have y2 := (H_k1.out 2 _ rfl).at
        have y3 := (H_k1.out 3 _ rfl).at
        have y4 := (H_k1.out 4 _ rfl).at
        have y5 := (H_k1.out 5 _ rfl).at
        have y6 := (H_k1.out 6 _ rfl).at
        have y7 := (H_k1.out 7 _ rfl).at
        have y8 := (H_k1.out 8 _ rfl).at
        have y9 := (H_k1.out 9 _ rfl).at
        have y10 := (H_k1.out 10 _ rfl).at
        have y11 := (H_k1.out 11 _ rfl).at
        have z0 := (H_g1.out 0 _ rfl).at
        have z1 := (H_g1.out 1 _ rfl).at
        have z2 := (H_g1.out 2 _ rfl).at
        have z3 := (H_g1.out 3 _ rfl).at
        have z4 := (H_g1.out 4 _ rfl).at
        have z5 := (H_g1.out 5 _ rfl).at
        have z6 := (H_g1.out 6 _ rfl).at
        have z7 := (H_g1.out 7 _ rfl).at
        have z8 := (H_g1.out 8 _ rfl).at
        have ly1 := (H_k1.out 0 _ rfl).lt
        have lz1 := (H_g1.out 0 _ rfl).lt
        have o1 : Blk (w1.alloc (.cells #[.int .i64 s.s, .int .i64 s.c, .slice K s.l.length tt, .int .u64 s.u] 52)) w1.heap.size #[.int .i64 s.s, .int .i64 s.c, .slice K s.l.length tt, .int .u64 s.u] := blk_new rfl
        go_wp2_with fail
        (with_reducible refine (H_q2.out _).mono ?_)
        rintro e w2 ⟨rfl, b2⟩
        have c2 : Below w1.heap.size w1 w2 := Below.trans belt (b2.mono omh)
        have s2 := c2.size
        have bb2 := H_bb1.out.trans (c2.mono H_bb1.out.size)
        have k2 := H_k1.out.below c2
        have g2 := H_g1.out.below c2
        have H_b2 := Lib.hid b2; clear b2; have H_c2 := Lib.hid c2; clear c2; have H_bb2 := Lib.hid bb2; clear bb2; have H_k2 := Lib.hid k2; clear k2; have H_g2 := Lib.hid g2; clear g2
        have o2 := o1.below H_b2.out
        have e2 := H_hs.out.below H_bb2.out
        clear y0 y1 y2 y3 y4 y5 y6 y7 y8 y9 y10 y11
        clear z0 z1 z2 z3 z4 z5 z6 z7 z8
        have H_o2 := Lib.hid o2; clear o2; have H_e2 := Lib.hid e2; clear e2
        have y0 := (H_k2.out 0 _ rfl).at
        have y1 := (H_k2.out 1 _ rfl).at
        have y2 := (H_k2.out 2 _ rfl).at
        have y3 := (H_k2.out 3 _ rfl).at
        have y4 := (H_k2.out 4 _ rfl).at
        have y5 := (H_k2.out 5 _ rfl).at
        have y6 := (H_k2.out 6 _ rfl).at
        have y7 := (H_k2.out 7 _ rfl).at
        have y8 := (H_k2.out 8 _ rfl).at
        have y9 := (H_k2.out 9 _ rfl).at
        have y10 := (H_k2.out 10 _ rfl).at
        have y11 := (H_k2.out 11 _ rfl).at
        have z0 := (H_g2.out 0 _ rfl).at
        have z1 := (H_g2.out 1 _ rfl).at
        have z2 := (H_g2.out 2 _ rfl).at
        have z3 := (H_g2.out 3 _ rfl).at
        have z4 := (H_g2.out 4 _ rfl).at
        have z5 := (H_g2.out 5 _ rfl).at
        have z6 := (H_g2.out 6 _ rfl).at
        have z7 := (H_g2.out 7 _ rfl).at
        have z8 := (H_g2.out 8 _ rfl).at
        have x0 := (H_o2.out 0 _ rfl).at
        have x1 := (H_o2.out 1 _ rfl).at
        have x2 := (H_o2.out 2 _ rfl).at
        have x3 := (H_o2.out 3 _ rfl).at
        have ly2 := (H_k2.out 0 _ rfl).lt
        have lz2 := (H_g2.out 0 _ rfl).lt
        have lx2 := (H_o2.out 0 _ rfl).lt
        go_wp2_with fail
        (with_reducible refine (H_q3.out _ ?_).mono ?_)
        · exact (H_e2.out.below (show Below w2.heap.size w2 _ from belt)).ints
        rintro e w3 ⟨rfl, b3⟩
        have c3 : Below w2.heap.size w2 w3 := Below.trans belt (b3.mono omh)
        have s3 := c3.size
        have bb3 := H_bb2.out.trans (c3.mono H_bb2.out.size)
        have k3 := H_k2.out.below c3
        have g3 := H_g2.out.below c3
        have o3 := H_o2.out.below c3
        have e3 := H_e2.out.below c3
        have H_b3 := Lib.hid b3; clear b3; have H_c3 := Lib.hid c3; clear c3; have H_bb3 := Lib.hid bb3; clear bb3; have H_k3 := Lib.hid k3; clear k3; have H_g3 := Lib.hid g3; clear g3; have H_o3 := Lib.hid o3; clear o3; have H_e3 := Lib.hid e3; clear e3
        clear y0 y1 y2 y3 y4 y5 y6 y7 y8 y9 y10 y11
        clear z0 z1 z2 z3 z4 z5 z6 z7 z8
        clear x0 x1 x2 x3
        have y0 := (H_k3.out 0 _ rfl).at
        have y1 := (H_k3.out 1 _ rfl).at
        have y2 := (H_k3.out 2 _ rfl).at
        have y3 := (H_k3.out 3 _ rfl).at
        have y4 := (H_k3.out 4 _ rfl).at
        have y5 := (H_k3.out 5 _ rfl).at
        have y6 := (H_k3.out 6 _ rfl).at
        have y7 := (H_k3.out 7 _ rfl).at
        have y8 := (H_k3.out 8 _ rfl).at
        have y9 := (H_k3.out 9 _ rfl).at
        have y10 := (H_k3.out 10 _ rfl).at
        have y11 := (H_k3.out 11 _ rfl).at
        have z0 := (H_g3.out 0 _ rfl).at
        have z1 := (H_g3.out 1 _ rfl).at
        have z2 := (H_g3.out 2 _ rfl).at
        have z3 := (H_g3.out 3 _ rfl).at
        have z4 := (H_g3.out 4 _ rfl).at
        have z5 := (H_g3.out 5 _ rfl).at
        have z6 := (H_g3.out 6 _ rfl).at
        have z7 := (H_g3.out 7 _ rfl).at
        have z8 := (H_g3.out 8 _ rfl).at
        have x0 := (H_o3.out 0 _ rfl).at
        have x1 := (H_o3.out 1 _ rfl).at
        have x2 := (H_o3.out 2 _ rfl).at
        have x3 := (H_o3.out 3 _ rfl).at
        go_wp2_with fail
        all_goals
          go_ret
          exact ⟨ret_bool H_fin'.out.symm, H_bb3.out⟩
      · have dn : decide (s.c ≤ cn) = false := decide_eq_false hn
        simp only [Bool.false_eq_true, reduceIte, if_true, if_false] at q2
        have fin' : R = false := by rw [fin]; simp [hn]
        clear fin
        have H_bb0 := Lib.hid bb0; clear bb0; have H_k0 := Lib.hid k0; clear k0; have H_g0 := Lib.hid g0; clear g0; have H_hw0 := Lib.hid hw0; clear hw0; have H_q1 := Lib.hid q1; clear q1; have H_q2 := Lib.hid q2; clear q2; have H_q3 := Lib.hid q3; clear q3; have H_hx := Lib.hid hx; clear hx; have H_hy := Lib.hid hy; clear hy; have H_ht := Lib.hid ht; clear ht; have H_hs := Lib.hid hs; clear hs; have H_few := Lib.hid few; clear few; have H_fin' := Lib.hid fin'; clear fin'
        go_enter Tryd.func54, Tryd.ntmps54
        go_wp2_with fail
        rw [H_hw0.out]
        have y0 := (H_k0.out 0 _ rfl).at
        have y1 := (H_k0.out 1 _ rfl).at
        have y2 := (H_k0.out 2 _ rfl).at
        have y3 := (H_k0.out 3 _ rfl).at
        have y4 := (H_k0.out 4 _ rfl).at
        have y5 := (H_k0.out 5 _ rfl).at
        have y6 := (H_k0.out 6 _ rfl).at
        have y7 := (H_k0.out 7 _ rfl).at
        have y8 := (H_k0.out 8 _ rfl).at
        have y9 := (H_k0.out 9 _ rfl).at
        have y10 := (H_k0.out 10 _ rfl).at
        have y11 := (H_k0.out 11 _ rfl).at
        go_wp2_with fail
        (with_reducible refine (H_q1.out _ ?_).mono ?_)
        · exact H_bb0.out
        rintro e w1 ⟨rfl, b1⟩
        have c1 : Below w0.heap.size w0 w1 := Below.trans belt (b1.mono omh)
        have s1 := c1.size
        have bb1 := H_bb0.out.trans (c1.mono H_bb0.out.size)
        have k1 := H_k0.out.below c1
        have g1 := H_g0.out.below c1
        have H_b1 := Lib.hid b1; clear b1; have H_c1 := Lib.hid c1; clear c1; have H_bb1 := Lib.hid bb1; clear bb1; have H_k1 := Lib.hid k1; clear k1; have H_g1 := Lib.hid g1; clear g1
        clear y0 y1 y2 y3 y4 y5 y6 y7 y8 y9 y10 y11
        have y0 := (H_k1.out 0 _ rfl).at
        have y1 := (H_k1.out 1 _ rfl).at
        have y2 := (H_k1.out 2 _ rfl).at
        have y3 := (H_k1.out 3 _ rfl).at
        have y4 := (H_k1.out 4 _ rfl).at
        have y5 := (H_k1.out 5 _ rfl).at
        have y6 := (H_k1.out 6 _ rfl).at
        have y7 := (H_k1.out 7 _ rfl).at
        have y8 := (H_k1.out 8 _ rfl).at
        have y9 := (H_k1.out 9 _ rfl).at
        have y10 := (H_k1.out 10 _ rfl).at
        have y11 := (H_k1.out 11 _ rfl).at
        have z0 := (H_g1.out 0 _ rfl).at
        have z1 := (H_g1.out 1 _ rfl).at
        have z2 := (H_g1.out 2 _ rfl).at
        have z3 := (H_g1.out 3 _ rfl).at
        have z4 := (H_g1.out 4 _ rfl).at
        have z5 := (H_g1.out 5 _ rfl).at
        have z6 := (H_g1.out 6 _ rfl).at
        have z7 := (H_g1.out 7 _ rfl).at
        have z8 := (H_g1.out 8 _ rfl).at
        have ly1 := (H_k1.out 0 _ rfl).lt
        have lz1 := (H_g1.out 0 _ rfl).lt
        have o1 : Blk (w1.alloc (.cells #[.int .i64 s.s, .int .i64 s.c, .slice K s.l.length tt, .int .u64 s.u] 52)) w1.heap.size #[.int .i64 s.s, .int .i64 s.c, .slice K s.l.length tt, .int .u64 s.u] := blk_new rfl
        go_wp2_with fail
        (with_reducible refine (H_q2.out _).mono ?_)
        rintro e w2 ⟨rfl, b2⟩
        have c2 : Below w1.heap.size w1 w2 := Below.trans belt (b2.mono omh)
        have s2 := c2.size
        have bb2 := H_bb1.out.trans (c2.mono H_bb1.out.size)
        have k2 := H_k1.out.below c2
        have g2 := H_g1.out.below c2
        have H_b2 := Lib.hid b2; clear b2; have H_c2 := Lib.hid c2; clear c2; have H_bb2 := Lib.hid bb2; clear bb2; have H_k2 := Lib.hid k2; clear k2; have H_g2 := Lib.hid g2; clear g2
        have o2 := o1.below H_b2.out
        have e2 := H_hs.out.below H_bb2.out
        clear y0 y1 y2 y3 y4 y5 y6 y7 y8 y9 y10 y11
        clear z0 z1 z2 z3 z4 z5 z6 z7 z8
        have H_o2 := Lib.hid o2; clear o2; have H_e2 := Lib.hid e2; clear e2
        have y0 := (H_k2.out 0 _ rfl).at
        have y1 := (H_k2.out 1 _ rfl).at
        have y2 := (H_k2.out 2 _ rfl).at
        have y3 := (H_k2.out 3 _ rfl).at
        have y4 := (H_k2.out 4 _ rfl).at
        have y5 := (H_k2.out 5 _ rfl).at
        have y6 := (H_k2.out 6 _ rfl).at
        have y7 := (H_k2.out 7 _ rfl).at
        have y8 := (H_k2.out 8 _ rfl).at
        have y9 := (H_k2.out 9 _ rfl).at
        have y10 := (H_k2.out 10 _ rfl).at
        have y11 := (H_k2.out 11 _ rfl).at
        have z0 := (H_g2.out 0 _ rfl).at
        have z1 := (H_g2.out 1 _ rfl).at
        have z2 := (H_g2.out 2 _ rfl).at
        have z3 := (H_g2.out 3 _ rfl).at
        have z4 := (H_g2.out 4 _ rfl).at
        have z5 := (H_g2.out 5 _ rfl).at
        have z6 := (H_g2.out 6 _ rfl).at
        have z7 := (H_g2.out 7 _ rfl).at
        have z8 := (H_g2.out 8 _ rfl).at
        have x0 := (H_o2.out 0 _ rfl).at
        have x1 := (H_o2.out 1 _ rfl).at
        have x2 := (H_o2.out 2 _ rfl).at
        have x3 := (H_o2.out 3 _ rfl).at
        have ly2 := (H_k2.out 0 _ rfl).lt
        have lz2 := (H_g2.out 0 _ rfl).lt
        have lx2 := (H_o2.out 0 _ rfl).lt
        go_wp2_with fail
        (with_reducible refine (H_q3.out _ ?_).mono ?_)
        · exact (H_e2.out.below (show Below w2.heap.size w2 _ from belt)).ints
        rintro e w3 ⟨rfl, b3⟩
        have c3 : Below w2.heap.size w2 w3 := Below.trans belt (b3.mono omh)
        have s3 := c3.size
        have bb3 := H_bb2.out.trans (c3.mono H_bb2.out.size)
        have k3 := H_k2.out.below c3
        have g3 := H_g2.out.below c3
        have o3 := H_o2.out.below c3
        have e3 := H_e2.out.below c3
        have H_b3 := Lib.hid b3; clear b3; have H_c3 := Lib.hid c3; clear c3; have H_bb3 := Lib.hid bb3; clear bb3; have H_k3 := Lib.hid k3; clear k3; have H_g3 := Lib.hid g3; clear g3; have H_o3 := Lib.hid o3; clear o3; have H_e3 := Lib.hid e3; clear e3
        clear y0 y1 y2 y3 y4 y5 y6 y7 y8 y9 y10 y11
        clear z0 z1 z2 z3 z4 z5 z6 z7 z8
        clear x0 x1 x2 x3
        have y0 := (H_k3.out 0 _ rfl).at
        have y1 := (H_k3.out 1 _ rfl).at
        have y2 := (H_k3.out 2 _ rfl).at
        have y3 := (H_k3.out 3 _ rfl).at
        have y4 := (H_k3.out 4 _ rfl).at
        have y5 := (H_k3.out 5 _ rfl).at
        have y6 := (H_k3.out 6 _ rfl).at
        have y7 := (H_k3.out 7 _ rfl).at
        have y8 := (H_k3.out 8 _ rfl).at
        have y9 := (H_k3.out 9 _ rfl).at
        have y10 := (H_k3.out 10 _ rfl).at
        have y11 := (H_k3.out 11 _ rfl).at
        have z0 := (H_g3.out 0 _ rfl).at
        have z1 := (H_g3.out 1 _ rfl).at
        have z2 := (H_g3.out 2 _ rfl).at
        have z3 := (H_g3.out 3 _ rfl).at
        have z4 := (H_g3.out 4 _ rfl).at
        have z5 := (H_g3.out 5 _ rfl).at
        have z6 := (H_g3.out 6 _ rfl).at
        have z7 := (H_g3.out 7 _ rfl).at
        have z8 := (H_g3.out 8 _ rfl).at
        have x0 := (H_o3.out 0 _ rfl).at
        have x1 := (H_o3.out 1 _ rfl).at
        have x2 := (H_o3.out 2 _ rfl).at
        have x3 := (H_o3.out 3 _ rfl).at
        go_wp2_with fail
        all_goals
          go_ret
          exact ⟨ret_bool H_fin'.out.symm, H_bb3.out⟩
    · have dk : decide (ck = 1) = false := decide_eq_false hk
      simp only [Bool.false_eq_true, reduceIte, if_true, if_false] at q2
      have fin' : R = true := by rw [fin]; simp [hk]
      clear fin
      have H_bb0 := Lib.hid bb0; clear bb0; have H_k0 := Lib.hid k0; clear k0; have H_g0 := Lib.hid g0; clear g0; have H_hw0 := Lib.hid hw0; clear hw0; have H_q1 := Lib.hid q1; clear q1; have H_q2 := Lib.hid q2; clear q2; have H_q3 := Lib.hid q3; clear q3; have H_hx := Lib.hid hx; clear hx; have H_hy := Lib.hid hy; clear hy; have H_ht := Lib.hid ht; clear ht; have H_hs := Lib.hid hs; clear hs; have H_few := Lib.hid few; clear few; have H_fin' := Lib.hid fin'; clear fin'
      go_enter Tryd.func54, Tryd.ntmps54
      go_wp2_with fail
      rw [H_hw0.out]
      have y0 := (H_k0.out 0 _ rfl).at
      have y1 := (H_k0.out 1 _ rfl).at
      have y2 := (H_k0.out 2 _ rfl).at
      have y3 := (H_k0.out 3 _ rfl).at
      have y4 := (H_k0.out 4 _ rfl).at
      have y5 := (H_k0.out 5 _ rfl).at
      have y6 := (H_k0.out 6 _ rfl).at
      have y7 := (H_k0.out 7 _ rfl).at
      have y8 := (H_k0.out 8 _ rfl).at
      have y9 := (H_k0.out 9 _ rfl).at
      have y10 := (H_k0.out 10 _ rfl).at
      have y11 := (H_k0.out 11 _ rfl).at
      go_wp2_with fail
      (with_reducible refine (H_q1.out _ ?_).mono ?_)
      · exact H_bb0.out
      rintro e w1 ⟨rfl, b1⟩
      have c1 : Below w0.heap.size w0 w1 := Below.trans belt (b1.mono omh)
      have s1 := c1.size
      have bb1 := H_bb0.out.trans (c1.mono H_bb0.out.size)
      have k1 := H_k0.out.below c1
      have g1 := H_g0.out.below c1
      have H_b1 := Lib.hid b1; clear b1; have H_c1 := Lib.hid c1; clear c1; have H_bb1 := Lib.hid bb1; clear bb1; have H_k1 := Lib.hid k1; clear k1; have H_g1 := Lib.hid g1; clear g1
      clear y0 y1 y2 y3 y4 y5 y6 y7 y8 y9 y10 y11
      have y0 := (H_k1.out 0 _ rfl).at
      have y1 := (H_k1.out 1 _ rfl).at
      have y2 := (H_k1.out 2 _ rfl).at
      have y3 := (H_k1.out 3 _ rfl).at
      have y4 := (H_k1.out 4 _ rfl).at
      have y5 := (H_k1.out 5 _ rfl).at
      have y6 := (H_k1.out 6 _ rfl).at
      have y7 := (H_k1.out 7 _ rfl).at
      have y8 := (H_k1.out 8 _ rfl).at
      have y9 := (H_k1.out 9 _ rfl).at
      have y10 := (H_k1.out 10 _ rfl).at
      have y11 := (H_k1.out 11 _ rfl).at
      have z0 := (H_g1.out 0 _ rfl).at
      have z1 := (H_g1.out 1 _ rfl).at
      have z2 := (H_g1.out 2 _ rfl).at
      have z3 := (H_g1.out 3 _ rfl).at
      have z4 := (H_g1.out 4 _ rfl).at
      have z5 := (H_g1.out 5 _ rfl).at
      have z6 := (H_g1.out 6 _ rfl).at
      have z7 := (H_g1.out 7 _ rfl).at
      have z8 := (H_g1.out 8 _ rfl).at
      have ly1 := (H_k1.out 0 _ rfl).lt
      have lz1 := (H_g1.out 0 _ rfl).lt
      have o1 : Blk (w1.alloc (.cells #[.int .i64 s.s, .int .i64 s.c, .slice K s.l.length tt, .int .u64 s.u] 52)) w1.heap.size #[.int .i64 s.s, .int .i64 s.c, .slice K s.l.length tt, .int .u64 s.u] := blk_new rfl
      go_wp2_with fail
      (with_reducible refine (H_q2.out _).mono ?_)
      rintro e w2 ⟨rfl, b2⟩
      have c2 : Below w1.heap.size w1 w2 := Below.trans belt (b2.mono omh)
      have s2 := c2.size
      have bb2 := H_bb1.out.trans (c2.mono H_bb1.out.size)
      have k2 := H_k1.out.below c2
      have g2 := H_g1.out.below c2
      have H_b2 := Lib.hid b2; clear b2; have H_c2 := Lib.hid c2; clear c2; have H_bb2 := Lib.hid bb2; clear bb2; have H_k2 := Lib.hid k2; clear k2; have H_g2 := Lib.hid g2; clear g2
      have o2 := o1.below H_b2.out
      have e2 := H_hs.out.below H_bb2.out
      clear y0 y1 y2 y3 y4 y5 y6 y7 y8 y9 y10 y11
      clear z0 z1 z2 z3 z4 z5 z6 z7 z8
      have H_o2 := Lib.hid o2; clear o2; have H_e2 := Lib.hid e2; clear e2
      have y0 := (H_k2.out 0 _ rfl).at
      have y1 := (H_k2.out 1 _ rfl).at
      have y2 := (H_k2.out 2 _ rfl).at
      have y3 := (H_k2.out 3 _ rfl).at
      have y4 := (H_k2.out 4 _ rfl).at
      have y5 := (H_k2.out 5 _ rfl).at
      have y6 := (H_k2.out 6 _ rfl).at
      have y7 := (H_k2.out 7 _ rfl).at
      have y8 := (H_k2.out 8 _ rfl).at
      have y9 := (H_k2.out 9 _ rfl).at
      have y10 := (H_k2.out 10 _ rfl).at
      have y11 := (H_k2.out 11 _ rfl).at
      have z0 := (H_g2.out 0 _ rfl).at
      have z1 := (H_g2.out 1 _ rfl).at
      have z2 := (H_g2.out 2 _ rfl).at
      have z3 := (H_g2.out 3 _ rfl).at
      have z4 := (H_g2.out 4 _ rfl).at
      have z5 := (H_g2.out 5 _ rfl).at
      have z6 := (H_g2.out 6 _ rfl).at
      have z7 := (H_g2.out 7 _ rfl).at
      have z8 := (H_g2.out 8 _ rfl).at
      have x0 := (H_o2.out 0 _ rfl).at
      have x1 := (H_o2.out 1 _ rfl).at
      have x2 := (H_o2.out 2 _ rfl).at
      have x3 := (H_o2.out 3 _ rfl).at
      have ly2 := (H_k2.out 0 _ rfl).lt
      have lz2 := (H_g2.out 0 _ rfl).lt
      have lx2 := (H_o2.out 0 _ rfl).lt
      go_wp2_with fail
      (with_reducible refine (H_q3.out _ ?_).mono ?_)
      · exact (H_e2.out.below (show Below w2.heap.size w2 _ from belt)).ints
      rintro e w3 ⟨rfl, b3⟩
      have c3 : Below w2.heap.size w2 w3 := Below.trans belt (b3.mono omh)
      have s3 := c3.size
      have bb3 := H_bb2.out.trans (c3.mono H_bb2.out.size)
      have k3 := H_k2.out.below c3
      have g3 := H_g2.out.below c3
      have o3 := H_o2.out.below c3
      have e3 := H_e2.out.below c3
      have H_b3 := Lib.hid b3; clear b3; have H_c3 := Lib.hid c3; clear c3; have H_bb3 := Lib.hid bb3; clear bb3; have H_k3 := Lib.hid k3; clear k3; have H_g3 := Lib.hid g3; clear g3; have H_o3 := Lib.hid o3; clear o3; have H_e3 := Lib.hid e3; clear e3
      clear y0 y1 y2 y3 y4 y5 y6 y7 y8 y9 y10 y11
      clear z0 z1 z2 z3 z4 z5 z6 z7 z8
      clear x0 x1 x2 x3
      have y0 := (H_k3.out 0 _ rfl).at
      have y1 := (H_k3.out 1 _ rfl).at
      have y2 := (H_k3.out 2 _ rfl).at
      have y3 := (H_k3.out 3 _ rfl).at
      have y4 := (H_k3.out 4 _ rfl).at
      have y5 := (H_k3.out 5 _ rfl).at
      have y6 := (H_k3.out 6 _ rfl).at
      have y7 := (H_k3.out 7 _ rfl).at
      have y8 := (H_k3.out 8 _ rfl).at
      have y9 := (H_k3.out 9 _ rfl).at
      have y10 := (H_k3.out 10 _ rfl).at
      have y11 := (H_k3.out 11 _ rfl).at
      have z0 := (H_g3.out 0 _ rfl).at
      have z1 := (H_g3.out 1 _ rfl).at
      have z2 := (H_g3.out 2 _ rfl).at
      have z3 := (H_g3.out 3 _ rfl).at
      have z4 := (H_g3.out 4 _ rfl).at
      have z5 := (H_g3.out 5 _ rfl).at
      have z6 := (H_g3.out 6 _ rfl).at
      have z7 := (H_g3.out 7 _ rfl).at
      have z8 := (H_g3.out 8 _ rfl).at
      have x0 := (H_o3.out 0 _ rfl).at
      have x1 := (H_o3.out 1 _ rfl).at
      have x2 := (H_o3.out 2 _ rfl).at
      have x3 := (H_o3.out 3 _ rfl).at
      go_wp2_with fail
      all_goals
        go_ret
        exact ⟨ret_bool H_fin'.out.symm, H_bb3.out⟩
  · have d1 : decide (cd = ld) = false := decide_eq_false h1
    by_cases h2 : cd = 0
    · subst h2
      cases C with
      | true =>
        simp only [Bool.false_eq_true, reduceIte, if_true, if_false] at q2
        have fin' : R = false := by rw [fin]; simp []
        clear fin
        have H_bb0 := Lib.hid bb0; clear bb0; have H_k0 := Lib.hid k0; clear k0; have H_g0 := Lib.hid g0; clear g0; have H_hw0 := Lib.hid hw0; clear hw0; have H_q1 := Lib.hid q1; clear q1; have H_q2 := Lib.hid q2; clear q2; have H_q3 := Lib.hid q3; clear q3; have H_hx := Lib.hid hx; clear hx; have H_hy := Lib.hid hy; clear hy; have H_ht := Lib.hid ht; clear ht; have H_hs := Lib.hid hs; clear hs; have H_few := Lib.hid few; clear few; have H_fin' := Lib.hid fin'; clear fin'
        go_enter Tryd.func54, Tryd.ntmps54
        go_wp2_with fail
        rw [H_hw0.out]
        have y0 := (H_k0.out 0 _ rfl).at
        have y1 := (H_k0.out 1 _ rfl).at
        have y2 := (H_k0.out 2 _ rfl).at
        have y3 := (H_k0.out 3 _ rfl).at
        have y4 := (H_k0.out 4 _ rfl).at
        have y5 := (H_k0.out 5 _ rfl).at
        have y6 := (H_k0.out 6 _ rfl).at
        have y7 := (H_k0.out 7 _ rfl).at
        have y8 := (H_k0.out 8 _ rfl).at
        have y9 := (H_k0.out 9 _ rfl).at
        have y10 := (H_k0.out 10 _ rfl).at
        have y11 := (H_k0.out 11 _ rfl).at
        go_wp2_with fail
        (with_reducible refine (H_q1.out _ ?_).mono ?_)
        · exact H_bb0.out
        rintro e w1 ⟨rfl, b1⟩
        have c1 : Below w0.heap.size w0 w1 := Below.trans belt (b1.mono omh)
        have s1 := c1.size
        have bb1 := H_bb0.out.trans (c1.mono H_bb0.out.size)
        have k1 := H_k0.out.below c1
        have g1 := H_g0.out.below c1
        have H_b1 := Lib.hid b1; clear b1; have H_c1 := Lib.hid c1; clear c1; have H_bb1 := Lib.hid bb1; clear bb1; have H_k1 := Lib.hid k1; clear k1; have H_g1 := Lib.hid g1; clear g1
        clear y0 y1 y2 y3 y4 y5 y6 y7 y8 y9 y10 y11
        have y0 := (H_k1.out 0 _ rfl).at
        have y1 := (H_k1.out 1 _ rfl).at
        have y2 := (H_k1.out 2 _ rfl).at
        have y3 := (H_k1.out 3 _ rfl).at
        have y4 := (H_k1.out 4 _ rfl).at
        have y5 := (H_k1.out 5 _ rfl).at
        have y6 := (H_k1.out 6 _ rfl).at
        have y7 := (H_k1.out 7 _ rfl).at
        have y8 := (H_k1.out 8 _ rfl).at
        have y9 := (H_k1.out 9 _ rfl).at
        have y10 := (H_k1.out 10 _ rfl).at
        have y11 := (H_k1.out 11 _ rfl).at
        have z0 := (H_g1.out 0 _ rfl).at
        have z1 := (H_g1.out 1 _ rfl).at
        have z2 := (H_g1.out 2 _ rfl).at
        have z3 := (H_g1.out 3 _ rfl).at
        have z4 := (H_g1.out 4 _ rfl).at
        have z5 := (H_g1.out 5 _ rfl).at
        have z6 := (H_g1.out 6 _ rfl).at
        have z7 := (H_g1.out 7 _ rfl).at
        have z8 := (H_g1.out 8 _ rfl).at
        have ly1 := (H_k1.out 0 _ rfl).lt
        have lz1 := (H_g1.out 0 _ rfl).lt
        have o1 : Blk (w1.alloc (.cells #[.int .i64 s.s, .int .i64 s.c, .slice K s.l.length tt, .int .u64 s.u] 52)) w1.heap.size #[.int .i64 s.s, .int .i64 s.c, .slice K s.l.length tt, .int .u64 s.u] := blk_new rfl
        go_wp2_with fail
        (with_reducible refine (H_q2.out _).mono ?_)
        rintro e w2 ⟨rfl, b2⟩
        have c2 : Below w1.heap.size w1 w2 := Below.trans belt (b2.mono omh)
        have s2 := c2.size
        have bb2 := H_bb1.out.trans (c2.mono H_bb1.out.size)
        have k2 := H_k1.out.below c2
        have g2 := H_g1.out.below c2
        have H_b2 := Lib.hid b2; clear b2; have H_c2 := Lib.hid c2; clear c2; have H_bb2 := Lib.hid bb2; clear bb2; have H_k2 := Lib.hid k2; clear k2; have H_g2 := Lib.hid g2; clear g2
        have o2 := o1.below H_b2.out
        have e2 := H_hs.out.below H_bb2.out
        clear y0 y1 y2 y3 y4 y5 y6 y7 y8 y9 y10 y11
        clear z0 z1 z2 z3 z4 z5 z6 z7 z8
        have H_o2 := Lib.hid o2; clear o2; have H_e2 := Lib.hid e2; clear e2
        have y0 := (H_k2.out 0 _ rfl).at
        have y1 := (H_k2.out 1 _ rfl).at
        have y2 := (H_k2.out 2 _ rfl).at
        have y3 := (H_k2.out 3 _ rfl).at
        have y4 := (H_k2.out 4 _ rfl).at
        have y5 := (H_k2.out 5 _ rfl).at
        have y6 := (H_k2.out 6 _ rfl).at
        have y7 := (H_k2.out 7 _ rfl).at
        have y8 := (H_k2.out 8 _ rfl).at
        have y9 := (H_k2.out 9 _ rfl).at
        have y10 := (H_k2.out 10 _ rfl).at
        have y11 := (H_k2.out 11 _ rfl).at
        have z0 := (H_g2.out 0 _ rfl).at
        have z1 := (H_g2.out 1 _ rfl).at
        have z2 := (H_g2.out 2 _ rfl).at
        have z3 := (H_g2.out 3 _ rfl).at
        have z4 := (H_g2.out 4 _ rfl).at
        have z5 := (H_g2.out 5 _ rfl).at
        have z6 := (H_g2.out 6 _ rfl).at
        have z7 := (H_g2.out 7 _ rfl).at
        have z8 := (H_g2.out 8 _ rfl).at
        have x0 := (H_o2.out 0 _ rfl).at
        have x1 := (H_o2.out 1 _ rfl).at
        have x2 := (H_o2.out 2 _ rfl).at
        have x3 := (H_o2.out 3 _ rfl).at
        have ly2 := (H_k2.out 0 _ rfl).lt
        have lz2 := (H_g2.out 0 _ rfl).lt
        have lx2 := (H_o2.out 0 _ rfl).lt
        go_wp2_with fail
        (with_reducible refine (H_q3.out _ ?_).mono ?_)
        · exact (H_e2.out.below (show Below w2.heap.size w2 _ from belt)).ints
        rintro e w3 ⟨rfl, b3⟩
        have c3 : Below w2.heap.size w2 w3 := Below.trans belt (b3.mono omh)
        have s3 := c3.size
        have bb3 := H_bb2.out.trans (c3.mono H_bb2.out.size)
        have k3 := H_k2.out.below c3
        have g3 := H_g2.out.below c3
        have o3 := H_o2.out.below c3
        have e3 := H_e2.out.below c3
        have H_b3 := Lib.hid b3; clear b3; have H_c3 := Lib.hid c3; clear c3; have H_bb3 := Lib.hid bb3; clear bb3; have H_k3 := Lib.hid k3; clear k3; have H_g3 := Lib.hid g3; clear g3; have H_o3 := Lib.hid o3; clear o3; have H_e3 := Lib.hid e3; clear e3
        clear y0 y1 y2 y3 y4 y5 y6 y7 y8 y9 y10 y11
        clear z0 z1 z2 z3 z4 z5 z6 z7 z8
        clear x0 x1 x2 x3
        have y0 := (H_k3.out 0 _ rfl).at
        have y1 := (H_k3.out 1 _ rfl).at
        have y2 := (H_k3.out 2 _ rfl).at
        have y3 := (H_k3.out 3 _ rfl).at
        have y4 := (H_k3.out 4 _ rfl).at
        have y5 := (H_k3.out 5 _ rfl).at
        have y6 := (H_k3.out 6 _ rfl).at
        have y7 := (H_k3.out 7 _ rfl).at
        have y8 := (H_k3.out 8 _ rfl).at
        have y9 := (H_k3.out 9 _ rfl).at
        have y10 := (H_k3.out 10 _ rfl).at
        have y11 := (H_k3.out 11 _ rfl).at
        have z0 := (H_g3.out 0 _ rfl).at
        have z1 := (H_g3.out 1 _ rfl).at
        have z2 := (H_g3.out 2 _ rfl).at
        have z3 := (H_g3.out 3 _ rfl).at
        have z4 := (H_g3.out 4 _ rfl).at
        have z5 := (H_g3.out 5 _ rfl).at
        have z6 := (H_g3.out 6 _ rfl).at
        have z7 := (H_g3.out 7 _ rfl).at
        have z8 := (H_g3.out 8 _ rfl).at
        have x0 := (H_o3.out 0 _ rfl).at
        have x1 := (H_o3.out 1 _ rfl).at
        have x2 := (H_o3.out 2 _ rfl).at
        have x3 := (H_o3.out 3 _ rfl).at
        go_wp2_with fail
        all_goals
          go_ret
          exact ⟨ret_bool H_fin'.out.symm, H_bb3.out⟩
      | false =>
      by_cases hk : ck = 1
      · subst hk
        by_cases hn : s.c ≤ cn
        · have dn : decide (s.c ≤ cn) = true := decide_eq_true hn
          simp only [Bool.false_eq_true, reduceIte, if_true, if_false] at q2
          have fin' : R = true := by rw [fin]; simp [hn]
          clear fin
          have H_bb0 := Lib.hid bb0; clear bb0; have H_k0 := Lib.hid k0; clear k0; have H_g0 := Lib.hid g0; clear g0; have H_hw0 := Lib.hid hw0; clear hw0; have H_q1 := Lib.hid q1; clear q1; have H_q2 := Lib.hid q2; clear q2; have H_q3 := Lib.hid q3; clear q3; have H_hx := Lib.hid hx; clear hx; have H_hy := Lib.hid hy; clear hy; have H_ht := Lib.hid ht; clear ht; have H_hs := Lib.hid hs; clear hs; have H_few := Lib.hid few; clear few; have H_fin' := Lib.hid fin'; clear fin'
          go_enter Tryd.func54, Tryd.ntmps54
          go_wp2_with fail
          rw [H_hw0.out]
          have y0 := (H_k0.out 0 _ rfl).at
          have y1 := (H_k0.out 1 _ rfl).at
          have y2 := (H_k0.out 2 _ rfl).at
          have y3 := (H_k0.out 3 _ rfl).at
          have y4 := (H_k0.out 4 _ rfl).at
          have y5 := (H_k0.out 5 _ rfl).at
          have y6 := (H_k0.out 6 _ rfl).at
          have y7 := (H_k0.out 7 _ rfl).at
          have y8 := (H_k0.out 8 _ rfl).at
          have y9 := (H_k0.out 9 _ rfl).at
          have y10 := (H_k0.out 10 _ rfl).at
          have y11 := (H_k0.out 11 _ rfl).at
          go_wp2_with fail
          (with_reducible refine (H_q1.out _ ?_).mono ?_)
          · exact H_bb0.out
          rintro e w1 ⟨rfl, b1⟩
          have c1 : Below w0.heap.size w0 w1 := Below.trans belt (b1.mono omh)
          have s1 := c1.size
          have bb1 := H_bb0.out.trans (c1.mono H_bb0.out.size)
          have k1 := H_k0.out.below c1
          have g1 := H_g0.out.below c1
          have H_b1 := Lib.hid b1; clear b1; have H_c1 := Lib.hid c1; clear c1; have H_bb1 := Lib.hid bb1; clear bb1; have H_k1 := Lib.hid k1; clear k1; have H_g1 := Lib.hid g1; clear g1
          clear y0 y1 y2 y3 y4 y5 y6 y7 y8 y9 y10 y11
          have y0 := (H_k1.out 0 _ rfl).at
          have y1 := (H_k1.out 1 _ rfl).at
          have y2 := (H_k1.out 2 _ rfl).at
          have y3 := (H_k1.out 3 _ rfl).at
          have y4 := (H_k1.out 4 _ rfl).at
          have y5 := (H_k1.out 5 _ rfl).at
          have y6 := (H_k1.out 6 _ rfl).at
          have y7 := (H_k1.out 7 _ rfl).at
          have y8 := (H_k1.out 8 _ rfl).at
          have y9 := (H_k1.out 9 _ rfl).at
          have y10 := (H_k1.out 10 _ rfl).at
          have y11 := (H_k1.out 11 _ rfl).at
          have z0 := (H_g1.out 0 _ rfl).at
          have z1 := (H_g1.out 1 _ rfl).at
          have z2 := (H_g1.out 2 _ rfl).at
          have z3 := (H_g1.out 3 _ rfl).at
          have z4 := (H_g1.out 4 _ rfl).at
          have z5 := (H_g1.out 5 _ rfl).at
          have z6 := (H_g1.out 6 _ rfl).at
          have z7 := (H_g1.out 7 _ rfl).at
          have z8 := (H_g1.out 8 _ rfl).at
          have ly1 := (H_k1.out 0 _ rfl).lt
          have lz1 := (H_g1.out 0 _ rfl).lt
          have o1 : Blk (w1.alloc (.cells #[.int .i64 s.s, .int .i64 s.c, .slice K s.l.length tt, .int .u64 s.u] 52)) w1.heap.size #[.int .i64 s.s, .int .i64 s.c, .slice K s.l.length tt, .int .u64 s.u] := blk_new rfl
          go_wp2_with fail
          (with_reducible refine (H_q2.out _).mono ?_)
          rintro e w2 ⟨rfl, b2⟩
          have c2 : Below w1.heap.size w1 w2 := Below.trans belt (b2.mono omh)
          have s2 := c2.size
          have bb2 := H_bb1.out.trans (c2.mono H_bb1.out.size)
          have k2 := H_k1.out.below c2
          have g2 := H_g1.out.below c2
          have H_b2 := Lib.hid b2; clear b2; have H_c2 := Lib.hid c2; clear c2; have H_bb2 := Lib.hid bb2; clear bb2; have H_k2 := Lib.hid k2; clear k2; have H_g2 := Lib.hid g2; clear g2
          have o2 := o1.below H_b2.out
          have e2 := H_hs.out.below H_bb2.out
          clear y0 y1 y2 y3 y4 y5 y6 y7 y8 y9 y10 y11
          clear z0 z1 z2 z3 z4 z5 z6 z7 z8
          have H_o2 := Lib.hid o2; clear o2; have H_e2 := Lib.hid e2; clear e2
          have y0 := (H_k2.out 0 _ rfl).at
          have y1 := (H_k2.out 1 _ rfl).at
          have y2 := (H_k2.out 2 _ rfl).at
          have y3 := (H_k2.out 3 _ rfl).at
          have y4 := (H_k2.out 4 _ rfl).at
          have y5 := (H_k2.out 5 _ rfl).at
          have y6 := (H_k2.out 6 _ rfl).at
          have y7 := (H_k2.out 7 _ rfl).at
          have y8 := (H_k2.out 8 _ rfl).at
          have y9 := (H_k2.out 9 _ rfl).at
          have y10 := (H_k2.out 10 _ rfl).at
          have y11 := (H_k2.out 11 _ rfl).at
          have z0 := (H_g2.out 0 _ rfl).at
          have z1 := (H_g2.out 1 _ rfl).at
          have z2 := (H_g2.out 2 _ rfl).at
          have z3 := (H_g2.out 3 _ rfl).at
          have z4 := (H_g2.out 4 _ rfl).at
          have z5 := (H_g2.out 5 _ rfl).at
          have z6 := (H_g2.out 6 _ rfl).at
          have z7 := (H_g2.out 7 _ rfl).at
          have z8 := (H_g2.out 8 _ rfl).at
          have x0 := (H_o2.out 0 _ rfl).at
          have x1 := (H_o2.out 1 _ rfl).at
          have x2 := (H_o2.out 2 _ rfl).at
          have x3 := (H_o2.out 3 _ rfl).at
          have ly2 := (H_k2.out 0 _ rfl).lt
          have lz2 := (H_g2.out 0 _ rfl).lt
          have lx2 := (H_o2.out 0 _ rfl).lt
          go_wp2_with fail
          (with_reducible refine (H_q3.out _ ?_).mono ?_)
          · exact (H_e2.out.below (show Below w2.heap.size w2 _ from belt)).ints
          rintro e w3 ⟨rfl, b3⟩
          have c3 : Below w2.heap.size w2 w3 := Below.trans belt (b3.mono omh)
          have s3 := c3.size
          have bb3 := H_bb2.out.trans (c3.mono H_bb2.out.size)
          have k3 := H_k2.out.below c3
          have g3 := H_g2.out.below c3
          have o3 := H_o2.out.below c3
          have e3 := H_e2.out.below c3
          have H_b3 := Lib.hid b3; clear b3; have H_c3 := Lib.hid c3; clear c3; have H_bb3 := Lib.hid bb3; clear bb3; have H_k3 := Lib.hid k3; clear k3; have H_g3 := Lib.hid g3; clear g3; have H_o3 := Lib.hid o3; clear o3; have H_e3 := Lib.hid e3; clear e3
          clear y0 y1 y2 y3 y4 y5 y6 y7 y8 y9 y10 y11
          clear z0 z1 z2 z3 z4 z5 z6 z7 z8
          clear x0 x1 x2 x3
          have y0 := (H_k3.out 0 _ rfl).at
          have y1 := (H_k3.out 1 _ rfl).at
          have y2 := (H_k3.out 2 _ rfl).at
          have y3 := (H_k3.out 3 _ rfl).at
          have y4 := (H_k3.out 4 _ rfl).at
          have y5 := (H_k3.out 5 _ rfl).at
          have y6 := (H_k3.out 6 _ rfl).at
          have y7 := (H_k3.out 7 _ rfl).at
          have y8 := (H_k3.out 8 _ rfl).at
          have y9 := (H_k3.out 9 _ rfl).at
          have y10 := (H_k3.out 10 _ rfl).at
          have y11 := (H_k3.out 11 _ rfl).at
          have z0 := (H_g3.out 0 _ rfl).at
          have z1 := (H_g3.out 1 _ rfl).at
          have z2 := (H_g3.out 2 _ rfl).at
          have z3 := (H_g3.out 3 _ rfl).at
          have z4 := (H_g3.out 4 _ rfl).at
          have z5 := (H_g3.out 5 _ rfl).at
          have z6 := (H_g3.out 6 _ rfl).at
          have z7 := (H_g3.out 7 _ rfl).at
          have z8 := (H_g3.out 8 _ rfl).at
          have x0 := (H_o3.out 0 _ rfl).at
          have x1 := (H_o3.out 1 _ rfl).at
          have x2 := (H_o3.out 2 _ rfl).at
          have x3 := (H_o3.out 3 _ rfl).at
          go_wp2_with fail
          all_goals
            go_ret
            exact ⟨ret_bool H_fin'.out.symm, H_bb3.out⟩
        · have dn : decide (s.c ≤ cn) = false := decide_eq_false hn
          simp only [Bool.false_eq_true, reduceIte, if_true, if_false] at q2
          have fin' : R = false := by rw [fin]; simp [hn]
          clear fin
          have H_bb0 := Lib.hid bb0; clear bb0; have H_k0 := Lib.hid k0; clear k0; have H_g0 := Lib.hid g0; clear g0; have H_hw0 := Lib.hid hw0; clear hw0; have H_q1 := Lib.hid q1; clear q1; have H_q2 := Lib.hid q2; clear q2; have H_q3 := Lib.hid q3; clear q3; have H_hx := Lib.hid hx; clear hx; have H_hy := Lib.hid hy; clear hy; have H_ht := Lib.hid ht; clear ht; have H_hs := Lib.hid hs; clear hs; have H_few := Lib.hid few; clear few; have H_fin' := Lib.hid fin'; clear fin'
          go_enter Tryd.func54, Tryd.ntmps54
          go_wp2_with fail
          rw [H_hw0.out]
          have y0 := (H_k0.out 0 _ rfl).at
          have y1 := (H_k0.out 1 _ rfl).at
          have y2 := (H_k0.out 2 _ rfl).at
          have y3 := (H_k0.out 3 _ rfl).at
          have y4 := (H_k0.out 4 _ rfl).at
          have y5 := (H_k0.out 5 _ rfl).at
          have y6 := (H_k0.out 6 _ rfl).at
          have y7 := (H_k0.out 7 _ rfl).at
          have y8 := (H_k0.out 8 _ rfl).at
          have y9 := (H_k0.out 9 _ rfl).at
          have y10 := (H_k0.out 10 _ rfl).at
          have y11 := (H_k0.out 11 _ rfl).at
          go_wp2_with fail
          (with_reducible refine (H_q1.out _ ?_).mono ?_)
          · exact H_bb0.out
          rintro e w1 ⟨rfl, b1⟩
          have c1 : Below w0.heap.size w0 w1 := Below.trans belt (b1.mono omh)
          have s1 := c1.size
          have bb1 := H_bb0.out.trans (c1.mono H_bb0.out.size)
          have k1 := H_k0.out.below c1
          have g1 := H_g0.out.below c1
          have H_b1 := Lib.hid b1; clear b1; have H_c1 := Lib.hid c1; clear c1; have H_bb1 := Lib.hid bb1; clear bb1; have H_k1 := Lib.hid k1; clear k1; have H_g1 := Lib.hid g1; clear g1
          clear y0 y1 y2 y3 y4 y5 y6 y7 y8 y9 y10 y11
          have y0 := (H_k1.out 0 _ rfl).at
          have y1 := (H_k1.out 1 _ rfl).at
          have y2 := (H_k1.out 2 _ rfl).at
          have y3 := (H_k1.out 3 _ rfl).at
          have y4 := (H_k1.out 4 _ rfl).at
          have y5 := (H_k1.out 5 _ rfl).at
          have y6 := (H_k1.out 6 _ rfl).at
          have y7 := (H_k1.out 7 _ rfl).at
          have y8 := (H_k1.out 8 _ rfl).at
          have y9 := (H_k1.out 9 _ rfl).at
          have y10 := (H_k1.out 10 _ rfl).at
          have y11 := (H_k1.out 11 _ rfl).at
          have z0 := (H_g1.out 0 _ rfl).at
          have z1 := (H_g1.out 1 _ rfl).at
          have z2 := (H_g1.out 2 _ rfl).at
          have z3 := (H_g1.out 3 _ rfl).at
          have z4 := (H_g1.out 4 _ rfl).at
          have z5 := (H_g1.out 5 _ rfl).at
          have z6 := (H_g1.out 6 _ rfl).at
          have z7 := (H_g1.out 7 _ rfl).at
          have z8 := (H_g1.out 8 _ rfl).at
          have ly1 := (H_k1.out 0 _ rfl).lt
          have lz1 := (H_g1.out 0 _ rfl).lt
          have o1 : Blk (w1.alloc (.cells #[.int .i64 s.s, .int .i64 s.c, .slice K s.l.length tt, .int .u64 s.u] 52)) w1.heap.size #[.int .i64 s.s, .int .i64 s.c, .slice K s.l.length tt, .int .u64 s.u] := blk_new rfl
          go_wp2_with fail
          (with_reducible refine (H_q2.out _).mono ?_)
          rintro e w2 ⟨rfl, b2⟩
          have c2 : Below w1.heap.size w1 w2 := Below.trans belt (b2.mono omh)
          have s2 := c2.size
          have bb2 := H_bb1.out.trans (c2.mono H_bb1.out.size)
          have k2 := H_k1.out.below c2
          have g2 := H_g1.out.below c2
          have H_b2 := Lib.hid b2; clear b2; have H_c2 := Lib.hid c2; clear c2; have H_bb2 := Lib.hid bb2; clear bb2; have H_k2 := Lib.hid k2; clear k2; have H_g2 := Lib.hid g2; clear g2
          have o2 := o1.below H_b2.out
          have e2 := H_hs.out.below H_bb2.out
          clear y0 y1 y2 y3 y4 y5 y6 y7 y8 y9 y10 y11
          clear z0 z1 z2 z3 z4 z5 z6 z7 z8
          have H_o2 := Lib.hid o2; clear o2; have H_e2 := Lib.hid e2; clear e2
          have y0 := (H_k2.out 0 _ rfl).at
          have y1 := (H_k2.out 1 _ rfl).at
          have y2 := (H_k2.out 2 _ rfl).at
          have y3 := (H_k2.out 3 _ rfl).at
          have y4 := (H_k2.out 4 _ rfl).at
          have y5 := (H_k2.out 5 _ rfl).at
          have y6 := (H_k2.out 6 _ rfl).at
          have y7 := (H_k2.out 7 _ rfl).at
          have y8 := (H_k2.out 8 _ rfl).at
          have y9 := (H_k2.out 9 _ rfl).at
          have y10 := (H_k2.out 10 _ rfl).at
          have y11 := (H_k2.out 11 _ rfl).at
          have z0 := (H_g2.out 0 _ rfl).at
          have z1 := (H_g2.out 1 _ rfl).at
          have z2 := (H_g2.out 2 _ rfl).at
          have z3 := (H_g2.out 3 _ rfl).at
          have z4 := (H_g2.out 4 _ rfl).at
          have z5 := (H_g2.out 5 _ rfl).at
          have z6 := (H_g2.out 6 _ rfl).at
          have z7 := (H_g2.out 7 _ rfl).at
          have z8 := (H_g2.out 8 _ rfl).at
          have x0 := (H_o2.out 0 _ rfl).at
          have x1 := (H_o2.out 1 _ rfl).at
          have x2 := (H_o2.out 2 _ rfl).at
          have x3 := (H_o2.out 3 _ rfl).at
          have ly2 := (H_k2.out 0 _ rfl).lt
          have lz2 := (H_g2.out 0 _ rfl).lt
          have lx2 := (H_o2.out 0 _ rfl).lt
          go_wp2_with fail
          (with_reducible refine (H_q3.out _ ?_).mono ?_)
          · exact (H_e2.out.below (show Below w2.heap.size w2 _ from belt)).ints
          rintro e w3 ⟨rfl, b3⟩
          have c3 : Below w2.heap.size w2 w3 := Below.trans belt (b3.mono omh)
          have s3 := c3.size
          have bb3 := H_bb2.out.trans (c3.mono H_bb2.out.size)
          have k3 := H_k2.out.below c3
          have g3 := H_g2.out.below c3
          have o3 := H_o2.out.below c3
          have e3 := H_e2.out.below c3
          have H_b3 := Lib.hid b3; clear b3; have H_c3 := Lib.hid c3; clear c3; have H_bb3 := Lib.hid bb3; clear bb3; have H_k3 := Lib.hid k3; clear k3; have H_g3 := Lib.hid g3; clear g3; have H_o3 := Lib.hid o3; clear o3; have H_e3 := Lib.hid e3; clear e3
          clear y0 y1 y2 y3 y4 y5 y6 y7 y8 y9 y10 y11
          clear z0 z1 z2 z3 z4 z5 z6 z7 z8
          clear x0 x1 x2 x3
          have y0 := (H_k3.out 0 _ rfl).at
          have y1 := (H_k3.out 1 _ rfl).at
          have y2 := (H_k3.out 2 _ rfl).at
          have y3 := (H_k3.out 3 _ rfl).at
          have y4 := (H_k3.out 4 _ rfl).at
          have y5 := (H_k3.out 5 _ rfl).at
          have y6 := (H_k3.out 6 _ rfl).at
          have y7 := (H_k3.out 7 _ rfl).at
          have y8 := (H_k3.out 8 _ rfl).at
          have y9 := (H_k3.out 9 _ rfl).at
          have y10 := (H_k3.out 10 _ rfl).at
          have y11 := (H_k3.out 11 _ rfl).at
          have z0 := (H_g3.out 0 _ rfl).at
          have z1 := (H_g3.out 1 _ rfl).at
          have z2 := (H_g3.out 2 _ rfl).at
          have z3 := (H_g3.out 3 _ rfl).at
          have z4 := (H_g3.out 4 _ rfl).at
          have z5 := (H_g3.out 5 _ rfl).at
          have z6 := (H_g3.out 6 _ rfl).at
          have z7 := (H_g3.out 7 _ rfl).at
          have z8 := (H_g3.out 8 _ rfl).at
          have x0 := (H_o3.out 0 _ rfl).at
          have x1 := (H_o3.out 1 _ rfl).at
          have x2 := (H_o3.out 2 _ rfl).at
          have x3 := (H_o3.out 3 _ rfl).at
          go_wp2_with fail
          all_goals
            go_ret
            exact ⟨ret_bool H_fin'.out.symm, H_bb3.out⟩
      · have dk : decide (ck = 1) = false := decide_eq_false hk
        simp only [Bool.false_eq_true, reduceIte, if_true, if_false] at q2
        have fin' : R = true := by rw [fin]; simp [hk]
        clear fin
        have H_bb0 := Lib.hid bb0; clear bb0; have H_k0 := Lib.hid k0; clear k0; have H_g0 := Lib.hid g0; clear g0; have H_hw0 := Lib.hid hw0; clear hw0; have H_q1 := Lib.hid q1; clear q1; have H_q2 := Lib.hid q2; clear q2; have H_q3 := Lib.hid q3; clear q3; have H_hx := Lib.hid hx; clear hx; have H_hy := Lib.hid hy; clear hy; have H_ht := Lib.hid ht; clear ht; have H_hs := Lib.hid hs; clear hs; have H_few := Lib.hid few; clear few; have H_fin' := Lib.hid fin'; clear fin'
        go_enter Tryd.func54, Tryd.ntmps54
        go_wp2_with fail
        rw [H_hw0.out]
        have y0 := (H_k0.out 0 _ rfl).at
        have y1 := (H_k0.out 1 _ rfl).at
        have y2 := (H_k0.out 2 _ rfl).at
        have y3 := (H_k0.out 3 _ rfl).at
        have y4 := (H_k0.out 4 _ rfl).at
        have y5 := (H_k0.out 5 _ rfl).at
        have y6 := (H_k0.out 6 _ rfl).at
        have y7 := (H_k0.out 7 _ rfl).at
        have y8 := (H_k0.out 8 _ rfl).at
        have y9 := (H_k0.out 9 _ rfl).at
        have y10 := (H_k0.out 10 _ rfl).at
        have y11 := (H_k0.out 11 _ rfl).at
        go_wp2_with fail
        (with_reducible refine (H_q1.out _ ?_).mono ?_)
        · exact H_bb0.out
        rintro e w1 ⟨rfl, b1⟩
        have c1 : Below w0.heap.size w0 w1 := Below.trans belt (b1.mono omh)
        have s1 := c1.size
        have bb1 := H_bb0.out.trans (c1.mono H_bb0.out.size)
        have k1 := H_k0.out.below c1
        have g1 := H_g0.out.below c1
        have H_b1 := Lib.hid b1; clear b1; have H_c1 := Lib.hid c1; clear c1; have H_bb1 := Lib.hid bb1; clear bb1; have H_k1 := Lib.hid k1; clear k1; have H_g1 := Lib.hid g1; clear g1
        clear y0 y1 y2 y3 y4 y5 y6 y7 y8 y9 y10 y11
        have y0 := (H_k1.out 0 _ rfl).at
        have y1 := (H_k1.out 1 _ rfl).at
        have y2 := (H_k1.out 2 _ rfl).at
        have y3 := (H_k1.out 3 _ rfl).at
        have y4 := (H_k1.out 4 _ rfl).at
        have y5 := (H_k1.out 5 _ rfl).at
        have y6 := (H_k1.out 6 _ rfl).at
        have y7 := (H_k1.out 7 _ rfl).at
        have y8 := (H_k1.out 8 _ rfl).at
        have y9 := (H_k1.out 9 _ rfl).at
        have y10 := (H_k1.out 10 _ rfl).at
        have y11 := (H_k1.out 11 _ rfl).at
        have z0 := (H_g1.out 0 _ rfl).at
        have z1 := (H_g1.out 1 _ rfl).at
        have z2 := (H_g1.out 2 _ rfl).at
        have z3 := (H_g1.out 3 _ rfl).at
        have z4 := (H_g1.out 4 _ rfl).at
        have z5 := (H_g1.out 5 _ rfl).at
        have z6 := (H_g1.out 6 _ rfl).at
        have z7 := (H_g1.out 7 _ rfl).at
        have z8 := (H_g1.out 8 _ rfl).at
        have ly1 := (H_k1.out 0 _ rfl).lt
        have lz1 := (H_g1.out 0 _ rfl).lt
        have o1 : Blk (w1.alloc (.cells #[.int .i64 s.s, .int .i64 s.c, .slice K s.l.length tt, .int .u64 s.u] 52)) w1.heap.size #[.int .i64 s.s, .int .i64 s.c, .slice K s.l.length tt, .int .u64 s.u] := blk_new rfl
        go_wp2_with fail
        (with_reducible refine (H_q2.out _).mono ?_)
        rintro e w2 ⟨rfl, b2⟩
        have c2 : Below w1.heap.size w1 w2 := Below.trans belt (b2.mono omh)
        have s2 := c2.size
        have bb2 := H_bb1.out.trans (c2.mono H_bb1.out.size)
        have k2 := H_k1.out.below c2
        have g2 := H_g1.out.below c2
        have H_b2 := Lib.hid b2; clear b2; have H_c2 := Lib.hid c2; clear c2; have H_bb2 := Lib.hid bb2; clear bb2; have H_k2 := Lib.hid k2; clear k2; have H_g2 := Lib.hid g2; clear g2
        have o2 := o1.below H_b2.out
        have e2 := H_hs.out.below H_bb2.out
        clear y0 y1 y2 y3 y4 y5 y6 y7 y8 y9 y10 y11
        clear z0 z1 z2 z3 z4 z5 z6 z7 z8
        have H_o2 := Lib.hid o2; clear o2; have H_e2 := Lib.hid e2; clear e2
        have y0 := (H_k2.out 0 _ rfl).at
        have y1 := (H_k2.out 1 _ rfl).at
        have y2 := (H_k2.out 2 _ rfl).at
        have y3 := (H_k2.out 3 _ rfl).at
        have y4 := (H_k2.out 4 _ rfl).at
        have y5 := (H_k2.out 5 _ rfl).at
        have y6 := (H_k2.out 6 _ rfl).at
        have y7 := (H_k2.out 7 _ rfl).at
        have y8 := (H_k2.out 8 _ rfl).at
        have y9 := (H_k2.out 9 _ rfl).at
        have y10 := (H_k2.out 10 _ rfl).at
        have y11 := (H_k2.out 11 _ rfl).at
        have z0 := (H_g2.out 0 _ rfl).at
        have z1 := (H_g2.out 1 _ rfl).at
        have z2 := (H_g2.out 2 _ rfl).at
        have z3 := (H_g2.out 3 _ rfl).at
        have z4 := (H_g2.out 4 _ rfl).at
        have z5 := (H_g2.out 5 _ rfl).at
        have z6 := (H_g2.out 6 _ rfl).at
        have z7 := (H_g2.out 7 _ rfl).at
        have z8 := (H_g2.out 8 _ rfl).at
        have x0 := (H_o2.out 0 _ rfl).at
        have x1 := (H_o2.out 1 _ rfl).at
        have x2 := (H_o2.out 2 _ rfl).at
        have x3 := (H_o2.out 3 _ rfl).at
        have ly2 := (H_k2.out 0 _ rfl).lt
        have lz2 := (H_g2.out 0 _ rfl).lt
        have lx2 := (H_o2.out 0 _ rfl).lt
        go_wp2_with fail
        (with_reducible refine (H_q3.out _ ?_).mono ?_)
        · exact (H_e2.out.below (show Below w2.heap.size w2 _ from belt)).ints
        rintro e w3 ⟨rfl, b3⟩
        have c3 : Below w2.heap.size w2 w3 := Below.trans belt (b3.mono omh)
        have s3 := c3.size
        have bb3 := H_bb2.out.trans (c3.mono H_bb2.out.size)
        have k3 := H_k2.out.below c3
        have g3 := H_g2.out.below c3
        have o3 := H_o2.out.below c3
        have e3 := H_e2.out.below c3
        have H_b3 := Lib.hid b3; clear b3; have H_c3 := Lib.hid c3; clear c3; have H_bb3 := Lib.hid bb3; clear bb3; have H_k3 := Lib.hid k3; clear k3; have H_g3 := Lib.hid g3; clear g3; have H_o3 := Lib.hid o3; clear o3; have H_e3 := Lib.hid e3; clear e3
        clear y0 y1 y2 y3 y4 y5 y6 y7 y8 y9 y10 y11
        clear z0 z1 z2 z3 z4 z5 z6 z7 z8
        clear x0 x1 x2 x3
        have y0 := (H_k3.out 0 _ rfl).at
        have y1 := (H_k3.out 1 _ rfl).at
        have y2 := (H_k3.out 2 _ rfl).at
        have y3 := (H_k3.out 3 _ rfl).at
        have y4 := (H_k3.out 4 _ rfl).at
        have y5 := (H_k3.out 5 _ rfl).at
        have y6 := (H_k3.out 6 _ rfl).at
        have y7 := (H_k3.out 7 _ rfl).at
        have y8 := (H_k3.out 8 _ rfl).at
        have y9 := (H_k3.out 9 _ rfl).at
        have y10 := (H_k3.out 10 _ rfl).at
        have y11 := (H_k3.out 11 _ rfl).at
        have z0 := (H_g3.out 0 _ rfl).at
        have z1 := (H_g3.out 1 _ rfl).at
        have z2 := (H_g3.out 2 _ rfl).at
        have z3 := (H_g3.out 3 _ rfl).at
        have z4 := (H_g3.out 4 _ rfl).at
        have z5 := (H_g3.out 5 _ rfl).at
        have z6 := (H_g3.out 6 _ rfl).at
        have z7 := (H_g3.out 7 _ rfl).at
        have z8 := (H_g3.out 8 _ rfl).at
        have x0 := (H_o3.out 0 _ rfl).at
        have x1 := (H_o3.out 1 _ rfl).at
        have x2 := (H_o3.out 2 _ rfl).at
        have x3 := (H_o3.out 3 _ rfl).at
        go_wp2_with fail
        all_goals
          go_ret
          exact ⟨ret_bool H_fin'.out.symm, H_bb3.out⟩
    · have d2 : decide (cd = 0) = false := decide_eq_false h2
      simp only [Bool.false_eq_true, reduceIte, if_true, if_false] at q2
      have fin' : R = false := by rw [fin]; simp [h1, h2]
      clear fin
      have H_bb0 := Lib.hid bb0; clear bb0; have H_k0 := Lib.hid k0; clear k0; have H_g0 := Lib.hid g0; clear g0; have H_hw0 := Lib.hid hw0; clear hw0; have H_q1 := Lib.hid q1; clear q1; have H_q2 := Lib.hid q2; clear q2; have H_q3 := Lib.hid q3; clear q3; have H_hx := Lib.hid hx; clear hx; have H_hy := Lib.hid hy; clear hy; have H_ht := Lib.hid ht; clear ht; have H_hs := Lib.hid hs; clear hs; have H_few := Lib.hid few; clear few; have H_fin' := Lib.hid fin'; clear fin'
      go_enter Tryd.func54, Tryd.ntmps54
      go_wp2_with fail
      rw [H_hw0.out]
      have y0 := (H_k0.out 0 _ rfl).at
      have y1 := (H_k0.out 1 _ rfl).at
      have y2 := (H_k0.out 2 _ rfl).at
      have y3 := (H_k0.out 3 _ rfl).at
      have y4 := (H_k0.out 4 _ rfl).at
      have y5 := (H_k0.out 5 _ rfl).at
      have y6 := (H_k0.out 6 _ rfl).at
      have y7 := (H_k0.out 7 _ rfl).at
      have y8 := (H_k0.out 8 _ rfl).at
      have y9 := (H_k0.out 9 _ rfl).at
      have y10 := (H_k0.out 10 _ rfl).at
      have y11 := (H_k0.out 11 _ rfl).at
      go_wp2_with fail
      (with_reducible refine (H_q1.out _ ?_).mono ?_)
      · exact H_bb0.out
      rintro e w1 ⟨rfl, b1⟩
      have c1 : Below w0.heap.size w0 w1 := Below.trans belt (b1.mono omh)
      have s1 := c1.size
      have bb1 := H_bb0.out.trans (c1.mono H_bb0.out.size)
      have k1 := H_k0.out.below c1
      have g1 := H_g0.out.below c1
      have H_b1 := Lib.hid b1; clear b1; have H_c1 := Lib.hid c1; clear c1; have H_bb1 := Lib.hid bb1; clear bb1; have H_k1 := Lib.hid k1; clear k1; have H_g1 := Lib.hid g1; clear g1
      clear y0 y1 y2 y3 y4 y5 y6 y7 y8 y9 y10 y11
      have y0 := (H_k1.out 0 _ rfl).at
      have y1 := (H_k1.out 1 _ rfl).at
      have y2 := (H_k1.out 2 _ rfl).at
      have y3 := (H_k1.out 3 _ rfl).at
      have y4 := (H_k1.out 4 _ rfl).at
      have y5 := (H_k1.out 5 _ rfl).at
      have y6 := (H_k1.out 6 _ rfl).at
      have y7 := (H_k1.out 7 _ rfl).at
      have y8 := (H_k1.out 8 _ rfl).at
      have y9 := (H_k1.out 9 _ rfl).at
      have y10 := (H_k1.out 10 _ rfl).at
      have y11 := (H_k1.out 11 _ rfl).at
      have z0 := (H_g1.out 0 _ rfl).at
      have z1 := (H_g1.out 1 _ rfl).at
      have z2 := (H_g1.out 2 _ rfl).at
      have z3 := (H_g1.out 3 _ rfl).at
      have z4 := (H_g1.out 4 _ rfl).at
      have z5 := (H_g1.out 5 _ rfl).at
      have z6 := (H_g1.out 6 _ rfl).at
      have z7 := (H_g1.out 7 _ rfl).at
      have z8 := (H_g1.out 8 _ rfl).at
      have ly1 := (H_k1.out 0 _ rfl).lt
      have lz1 := (H_g1.out 0 _ rfl).lt
      have o1 : Blk (w1.alloc (.cells #[.int .i64 s.s, .int .i64 s.c, .slice K s.l.length tt, .int .u64 s.u] 52)) w1.heap.size #[.int .i64 s.s, .int .i64 s.c, .slice K s.l.length tt, .int .u64 s.u] := blk_new rfl
      go_wp2_with fail
      (with_reducible refine (H_q2.out _).mono ?_)
      rintro e w2 ⟨rfl, b2⟩
      have c2 : Below w1.heap.size w1 w2 := Below.trans belt (b2.mono omh)
      have s2 := c2.size
      have bb2 := H_bb1.out.trans (c2.mono H_bb1.out.size)
      have k2 := H_k1.out.below c2
      have g2 := H_g1.out.below c2
      have H_b2 := Lib.hid b2; clear b2; have H_c2 := Lib.hid c2; clear c2; have H_bb2 := Lib.hid bb2; clear bb2; have H_k2 := Lib.hid k2; clear k2; have H_g2 := Lib.hid g2; clear g2
      have o2 := o1.below H_b2.out
      have e2 := H_hs.out.below H_bb2.out
      clear y0 y1 y2 y3 y4 y5 y6 y7 y8 y9 y10 y11
      clear z0 z1 z2 z3 z4 z5 z6 z7 z8
      have H_o2 := Lib.hid o2; clear o2; have H_e2 := Lib.hid e2; clear e2
      have y0 := (H_k2.out 0 _ rfl).at
      have y1 := (H_k2.out 1 _ rfl).at
      have y2 := (H_k2.out 2 _ rfl).at
      have y3 := (H_k2.out 3 _ rfl).at
      have y4 := (H_k2.out 4 _ rfl).at
      have y5 := (H_k2.out 5 _ rfl).at
      have y6 := (H_k2.out 6 _ rfl).at
      have y7 := (H_k2.out 7 _ rfl).at
      have y8 := (H_k2.out 8 _ rfl).at
      have y9 := (H_k2.out 9 _ rfl).at
      have y10 := (H_k2.out 10 _ rfl).at
      have y11 := (H_k2.out 11 _ rfl).at
      have z0 := (H_g2.out 0 _ rfl).at
      have z1 := (H_g2.out 1 _ rfl).at
      have z2 := (H_g2.out 2 _ rfl).at
      have z3 := (H_g2.out 3 _ rfl).at
      have z4 := (H_g2.out 4 _ rfl).at
      have z5 := (H_g2.out 5 _ rfl).at
      have z6 := (H_g2.out 6 _ rfl).at
      have z7 := (H_g2.out 7 _ rfl).at
      have z8 := (H_g2.out 8 _ rfl).at
      have x0 := (H_o2.out 0 _ rfl).at
      have x1 := (H_o2.out 1 _ rfl).at
      have x2 := (H_o2.out 2 _ rfl).at
      have x3 := (H_o2.out 3 _ rfl).at
      have ly2 := (H_k2.out 0 _ rfl).lt
      have lz2 := (H_g2.out 0 _ rfl).lt
      have lx2 := (H_o2.out 0 _ rfl).lt
      go_wp2_with fail
      all_goals
        go_ret
        exact ⟨ret_bool H_fin'.out.symm, H_bb2.out⟩
end Go.Proofs.YtoehobaigfmnpaaDoor

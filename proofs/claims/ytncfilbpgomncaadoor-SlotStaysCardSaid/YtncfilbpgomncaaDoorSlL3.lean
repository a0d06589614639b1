/- The walk of SlotStays. -/
import Derived.Test.YtncfilbpgomncaaDoorSlM
namespace Go.Proofs.YtncfilbpgomncaaDoor
set_option linter.unusedSimpArgs false
set_option linter.unusedVariables false
set_option maxRecDepth 100000
open Go.RowKit

set_option maxHeartbeats 8000000 in
theorem slotStays_walk (x y : Slt) (A : Option Addr) (n p : Nat) (B : Option Addr) (m q : Nat) (c : Int) (D' : Option Addr) (r : Nat) (l : List Int) (at8 : Int) (w : World) (hx : SlotArg w A n p x) (hy : SlotArg w B m q y) (hcw : (Lit.int .i64 c).wf = true)
    (hl : IntsAt w D' .i64 l) (hlc : l.length ≤ r) (hcm : r ≤ maxLen) (hlw : ∀ n ∈ l, (Lit.int .i64 n).wf = true) (haw : (Lit.int .u8 at8).wf = true) (ht : Tab w) :
    Calls Tryd.prog 10 #[.agg #[.int .i64 x.s, .int .i64 x.c, .slice A n p, .int .u64 x.u, .int .i64 y.s, .int .i64 y.c, .slice B m q, .int .u64 y.u], .int .i64 c, .slice D' l.length r, .int .u8 at8] w fun e w' => e = .returned (.bool true) ∧ Below w.heap.size w w' := by
  have hc := wf_i64 hcw
  have hf := fit_wf hlw
  have ha := wf_u8 haw
  have ha0 := ha.1
  have ha1 := ha.2
  unfold maxLen at hcm
  generalize hN : l.length = N at *
  obtain ⟨w0, hw0⟩ : ∃ w0, w.alloc (.cells #[.int .i64 x.s, .int .i64 x.c, .slice A n p, .int .u64 x.u, .int .i64 y.s, .int .i64 y.c, .slice B m q, .int .u64 y.u] 51) = w0 := ⟨_, rfl⟩
  have bw : Below w.heap.size w w0 := by rw [← hw0]; exact (Below.refl _ _).alloc (Nat.le_refl _) _
  have g0 : Blk w0 w.heap.size #[.int .i64 x.s, .int .i64 x.c, .slice A n p, .int .u64 x.u, .int .i64 y.s, .int .i64 y.c, .slice B m q, .int .u64 y.u] := by rw [← hw0]; exact blk_new rfl
  have bb0 := Below.refl w0.heap.size w0
  have t0 := ht.below bw
  have x0 := hx.below bw
  have y0 := hy.below bw
  have l0 := hl.below bw
  have q1 := head36_any w0 t0
  have lq := hx.room
  have lm := hx.max
  have lq' := hy.room
  have lm' := hy.max
  have q2 := fun W => rfew_any x.s x.c x.u y.s y.c y.u A n p B m q W (by omega) (by omega)
  have hnl := hx.len
  have hml := hy.len
  have xs := hx.s; have xs0 := xs.1; have xs1 := xs.2
  have ys := hy.s; have ys0 := ys.1; have ys1 := ys.2
  have H_hcw := Lib.hid hcw; clear hcw; have H_hl := Lib.hid hl; clear hl; have H_hlw := Lib.hid hlw; clear hlw; have H_hx := Lib.hid hx; clear hx; have H_hy := Lib.hid hy; clear hy; have H_ht := Lib.hid ht; clear ht; have H_hc := Lib.hid hc; clear hc; have H_hf := Lib.hid hf; clear hf; have H_ha := Lib.hid ha; clear ha; have H_bw := Lib.hid bw; clear bw; have H_g0 := Lib.hid g0; clear g0; have H_bb0 := Lib.hid bb0; clear bb0; have H_t0 := Lib.hid t0; clear t0; have H_x0 := Lib.hid x0; clear x0; have H_y0 := Lib.hid y0; clear y0; have H_l0 := Lib.hid l0; clear l0; have H_q1 := Lib.hid q1; clear q1; have H_q2 := Lib.hid q2; clear q2; have H_hN := Lib.hid hN; clear hN; have H_hw0 := Lib.hid hw0; clear hw0; have H_haw := Lib.hid haw; clear haw; have H_hnl := Lib.hid hnl; clear hnl; have H_hml := Lib.hid hml; clear hml; have H_xs := Lib.hid xs; clear xs; have H_ys := Lib.hid ys; clear ys
  go_enter Tryd.func10, Tryd.ntmps10
  go_wp2_with fail
  rw [H_hw0.out]
  go_wp2_with fail
  (with_reducible refine (H_q1.out).mono ?_)
  rintro e w1 ⟨rfl, b1⟩
  have c1 : Below w0.heap.size w0 w1 := Below.trans (by (repeat (first | with_reducible exact Below.refl _ _ | with_reducible exact Nat.le_refl _ | with_reducible assumption | with_reducible refine Below.drew ?_ | with_reducible refine below_drewN ?_ _ | with_reducible refine Below.alloc ?_ ?_ _ | with_reducible refine Below.setCell ?_ ?_ _ | with_reducible exact And.right (by assumption) | with_reducible refine Below.trans ?_ (Below.mono (by assumption) ?_) | with_reducible exact Below.size (And.right (by assumption)) | (focus omega) | (focus (simp; done)) | (focus (simp; omega)) | (focus (simp at *; omega))))) (b1.mono (by first | exact Nat.le_refl _ | omega | (simp; done) | (simp; omega)))
  have s1 := c1.size
  have bb1 := H_bb0.out.trans (c1.mono H_bb0.out.size)
  have t1 := H_t0.out.below c1
  have x1 := H_x0.out.below c1
  have y1 := H_y0.out.below c1
  have l1 := H_l0.out.below c1
  have g1 := H_g0.out.below c1
  have H_b1 := Lib.hid b1; clear b1; have H_c1 := Lib.hid c1; clear c1; have H_bb1 := Lib.hid bb1; clear bb1; have H_t1 := Lib.hid t1; clear t1; have H_x1 := Lib.hid x1; clear x1; have H_y1 := Lib.hid y1; clear y1; have H_l1 := Lib.hid l1; clear l1; have H_g1 := Lib.hid g1; clear g1
  have lt1 := (H_g1.out 0 _ rfl).lt
  have g0 := (H_g1.out 0 _ rfl).at
  have g1 := (H_g1.out 1 _ rfl).at
  have g2 := (H_g1.out 2 _ rfl).at
  have g3 := (H_g1.out 3 _ rfl).at
  have g4 := (H_g1.out 4 _ rfl).at
  have g5 := (H_g1.out 5 _ rfl).at
  have g6 := (H_g1.out 6 _ rfl).at
  have g7 := (H_g1.out 7 _ rfl).at
  by_cases n40 : n ≤ 40 ∧ m ≤ 40
  rotate_left
  · have hFew : (len40B n && len40B m) = false := by
      rw [Bool.eq_false_iff]; intro h
      simp only [len40B, Bool.and_eq_true, decide_eq_true_eq] at h
      exact n40 h
    have q2' := fun W => H_q2.out W
    rw [hFew] at q2'
    have H_q2' := Lib.hid q2'; clear q2'; have H_hFew := Lib.hid hFew; clear hFew; have H_n40 := Lib.hid n40; clear n40
    go_wp2_with fail
    (with_reducible refine (H_q2'.out _).mono ?_)
    rintro e w2 ⟨rfl, b2⟩
    have c2 : Below w1.heap.size w1 w2 := Below.trans (by (repeat (first | with_reducible exact Below.refl _ _ | with_reducible exact Nat.le_refl _ | with_reducible assumption | with_reducible refine Below.drew ?_ | with_reducible refine below_drewN ?_ _ | with_reducible refine Below.alloc ?_ ?_ _ | with_reducible refine Below.setCell ?_ ?_ _ | with_reducible exact And.right (by assumption) | with_reducible refine Below.trans ?_ (Below.mono (by assumption) ?_) | with_reducible exact Below.size (And.right (by assumption)) | (focus omega) | (focus (simp; done)) | (focus (simp; omega)) | (focus (simp at *; omega))))) (b2.mono (by first | exact Nat.le_refl _ | omega | (simp; done) | (simp; omega)))
    have s2 := c2.size
    have bb2 := H_bb1.out.trans (c2.mono H_bb1.out.size)
    have t2 := H_t1.out.below c2
    have H_b2 := Lib.hid b2; clear b2; have H_c2 := Lib.hid c2; clear c2; have H_bb2 := Lib.hid bb2; clear bb2; have H_t2 := Lib.hid t2; clear t2
    go_wp2_with fail
    go_ret
    exact ⟨rfl, H_bw.out.trans (H_bb2.out.mono H_bw.out.size)⟩
  have hFew : (len40B n && len40B m) = true := by simp only [len40B, Bool.and_eq_true, decide_eq_true_eq]; exact n40
  have q2' := fun W => H_q2.out W
  rw [hFew] at q2'
  obtain ⟨n40, m40⟩ := n40
  have z1 := H_x1.out.is n40
  have u1 := H_y1.out.is m40
  have fx := H_x1.out.sfit n40
  have fy := H_y1.out.sfit m40
  have H_q2' := Lib.hid q2'; clear q2'; have H_hFew := Lib.hid hFew; clear hFew; have H_z1 := Lib.hid z1; clear z1; have H_u1 := Lib.hid u1; clear u1; have H_fx := Lib.hid fx; clear fx; have H_fy := Lib.hid fy; clear fy
  go_wp2_with fail
  (with_reducible refine (H_q2'.out _).mono ?_)
  rintro e w2 ⟨rfl, b2⟩
  have c2 : Below w1.heap.size w1 w2 := Below.trans (by (repeat (first | with_reducible exact Below.refl _ _ | with_reducible exact Nat.le_refl _ | with_reducible assumption | with_reducible refine Below.drew ?_ | with_reducible refine below_drewN ?_ _ | with_reducible refine Below.alloc ?_ ?_ _ | with_reducible refine Below.setCell ?_ ?_ _ | with_reducible exact And.right (by assumption) | with_reducible refine Below.trans ?_ (Below.mono (by assumption) ?_) | with_reducible exact Below.size (And.right (by assumption)) | (focus omega) | (focus (simp; done)) | (focus (simp; omega)) | (focus (simp at *; omega))))) (b2.mono (by first | exact Nat.le_refl _ | omega | (simp; done) | (simp; omega)))
  have s2 := c2.size
  have bb2 := H_bb1.out.trans (c2.mono H_bb1.out.size)
  have t2 := H_t1.out.below c2
  have z2 := H_z1.out.below c2
  have u2 := H_u1.out.below c2
  have l2 := H_l1.out.below c2
  have g2 := H_g1.out.below c2
  have H_b2 := Lib.hid b2; clear b2; have H_c2 := Lib.hid c2; clear c2; have H_bb2 := Lib.hid bb2; clear bb2; have H_t2 := Lib.hid t2; clear t2; have H_z2 := Lib.hid z2; clear z2; have H_u2 := Lib.hid u2; clear u2; have H_l2 := Lib.hid l2; clear l2; have H_g2 := Lib.hid g2; clear g2
  clear g0 g1 g2 g3 g4 g5 g6 g7
  by_cases h1 : 40 < N
  · have d1 : decide ((40 : Int) < (N : Int)) = true := decide_eq_true (by omega)
    go_wp2_with fail
    go_ret
    exact ⟨rfl, H_bw.out.trans (H_bb2.out.mono H_bw.out.size)⟩
  have d1 : decide ((40 : Int) < (N : Int)) = false := decide_eq_false (by omega)
  have q3 := fun W (h : SlotIs W A n x) (h2 : SlotIs W B m y) h3 => best_any x y A n p B m q W h h2 h3
  have q4 := fun W (h : SlotIs W A n x) (h2 : SlotIs W B m y) (h0 : IntsAt W D' .i64 l) h3 => write_any x y c (at8 % 4) A n p B m q D' N r l H_hN.out W h h2 H_hc.out h0 (by omega) H_hf.out h3
  have fz := sfit_wr (x := x) (y := y) (c := c) (a := at8 % 4) (l := l) H_fx.out H_fy.out H_hf.out
  have hz := @zero_of x y c (at8 % 4) l
  have st0 := @stays0 x y c (at8 % 4) l
  have st1 := @stays1 x y c (at8 % 4) l
  generalize hZ0 : wr0 x y c l (at8 % 4) = Z0 at *
  generalize hZ1 : wr1 x y c l (at8 % 4) = Z1 at *
  generalize hEE : wrE x y c l (at8 % 4) = EE at *
  unfold SlotsErr at q4
  have q5 := fun W X k1 X' k2 (h : IntsAt W X .i64 Z0.l) (h2 : IntsAt W X' .i64 Z1.l) h3 => best_any Z0 Z1 X Z0.l.length k1 X' Z1.l.length k2 W (fz.1.is h) (fz.2.is h2) h3
  have a0 : 0 ≤ at8 % 4 := by omega
  have a1 : at8 % 4 ≤ 3 := by omega
  have hbI := bestI_01 x y
  generalize hBB : bestB x y = BB at *
  generalize hBI : bestI x y = BI at *
  have H_q3 := Lib.hid q3; clear q3; have H_q4 := Lib.hid q4; clear q4; have H_q5 := Lib.hid q5; clear q5; have H_fz := Lib.hid fz; clear fz; have H_hz := Lib.hid hz; clear hz; have H_st0 := Lib.hid st0; clear st0; have H_st1 := Lib.hid st1; clear st1; have H_hZ0 := Lib.hid hZ0; clear hZ0; have H_hZ1 := Lib.hid hZ1; clear hZ1; have H_hEE := Lib.hid hEE; clear hEE; have H_hBB := Lib.hid hBB; clear hBB; have H_hBI := Lib.hid hBI; clear hBI; have H_hbI := Lib.hid hbI; clear hbI
  have g0 := (H_g2.out 0 _ rfl).at
  have g1 := (H_g2.out 1 _ rfl).at
  have g2 := (H_g2.out 2 _ rfl).at
  have g3 := (H_g2.out 3 _ rfl).at
  have g4 := (H_g2.out 4 _ rfl).at
  have g5 := (H_g2.out 5 _ rfl).at
  have g6 := (H_g2.out 6 _ rfl).at
  have g7 := (H_g2.out 7 _ rfl).at
  go_wp2_with fail
  (with_reducible refine (H_q3.out _ ?_ ?_ ?_).mono ?_)
  · exact H_z2.out.below (show Below w2.heap.size w2 _ by (repeat (first | with_reducible exact Below.refl _ _ | with_reducible exact Nat.le_refl _ | with_reducible assumption | with_reducible refine Below.drew ?_ | with_reducible refine below_drewN ?_ _ | with_reducible refine Below.alloc ?_ ?_ _ | with_reducible refine Below.setCell ?_ ?_ _ | with_reducible exact And.right (by assumption) | with_reducible refine Below.trans ?_ (Below.mono (by assumption) ?_) | with_reducible exact Below.size (And.right (by assumption)) | (focus omega) | (focus (simp; done)) | (focus (simp; omega)) | (focus (simp at *; omega)))))
  · exact H_u2.out.below (show Below w2.heap.size w2 _ by (repeat (first | with_reducible exact Below.refl _ _ | with_reducible exact Nat.le_refl _ | with_reducible assumption | with_reducible refine Below.drew ?_ | with_reducible refine below_drewN ?_ _ | with_reducible refine Below.alloc ?_ ?_ _ | with_reducible refine Below.setCell ?_ ?_ _ | with_reducible exact And.right (by assumption) | with_reducible refine Below.trans ?_ (Below.mono (by assumption) ?_) | with_reducible exact Below.size (And.right (by assumption)) | (focus omega) | (focus (simp; done)) | (focus (simp; omega)) | (focus (simp at *; omega)))))
  · exact H_t2.out.below (show Below w2.heap.size w2 _ by (repeat (first | with_reducible exact Below.refl _ _ | with_reducible exact Nat.le_refl _ | with_reducible assumption | with_reducible refine Below.drew ?_ | with_reducible refine below_drewN ?_ _ | with_reducible refine Below.alloc ?_ ?_ _ | with_reducible refine Below.setCell ?_ ?_ _ | with_reducible exact And.right (by assumption) | with_reducible refine Below.trans ?_ (Below.mono (by assumption) ?_) | with_reducible exact Below.size (And.right (by assumption)) | (focus omega) | (focus (simp; done)) | (focus (simp; omega)) | (focus (simp at *; omega)))))
  rintro e w3 ⟨rfl, b3⟩
  have c3 : Below w2.heap.size w2 w3 := Below.trans (by (repeat (first | with_reducible exact Below.refl _ _ | with_reducible exact Nat.le_refl _ | with_reducible assumption | with_reducible refine Below.drew ?_ | with_reducible refine below_drewN ?_ _ | with_reducible refine Below.alloc ?_ ?_ _ | with_reducible refine Below.setCell ?_ ?_ _ | with_reducible exact And.right (by assumption) | with_reducible refine Below.trans ?_ (Below.mono (by assumption) ?_) | with_reducible exact Below.size (And.right (by assumption)) | (focus omega) | (focus (simp; done)) | (focus (simp; omega)) | (focus (simp at *; omega))))) (b3.mono (by first | exact Nat.le_refl _ | omega | (simp; done) | (simp; omega)))
  have s3 := c3.size
  have bb3 := H_bb2.out.trans (c3.mono H_bb2.out.size)
  have t3 := H_t2.out.below c3
  have z3 := H_z2.out.below c3
  have u3 := H_u2.out.below c3
  have l3 := H_l2.out.below c3
  have g3 := H_g2.out.below c3
  have H_b3 := Lib.hid b3; clear b3; have H_c3 := Lib.hid c3; clear c3; have H_bb3 := Lib.hid bb3; clear bb3; have H_t3 := Lib.hid t3; clear t3; have H_z3 := Lib.hid z3; clear z3; have H_u3 := Lib.hid u3; clear u3; have H_l3 := Lib.hid l3; clear l3; have H_g3 := Lib.hid g3; clear g3
  clear g0 g1 g2 g3 g4 g5 g6 g7
  have g0 := (H_g3.out 0 _ rfl).at
  have g1 := (H_g3.out 1 _ rfl).at
  have g2 := (H_g3.out 2 _ rfl).at
  have g3 := (H_g3.out 3 _ rfl).at
  have g4 := (H_g3.out 4 _ rfl).at
  have g5 := (H_g3.out 5 _ rfl).at
  have g6 := (H_g3.out 6 _ rfl).at
  have g7 := (H_g3.out 7 _ rfl).at
  have lt3 := (H_g3.out 0 _ rfl).lt
  go_wp2_with fail
  (with_reducible refine (H_q4.out _ ?_ ?_ ?_ ?_).mono ?_)
  · exact H_z3.out.below (show Below w3.heap.size w3 _ by (repeat (first | with_reducible exact Below.refl _ _ | with_reducible exact Nat.le_refl _ | with_reducible assumption | with_reducible refine Below.drew ?_ | with_reducible refine below_drewN ?_ _ | with_reducible refine Below.alloc ?_ ?_ _ | with_reducible refine Below.setCell ?_ ?_ _ | with_reducible exact And.right (by assumption) | with_reducible refine Below.trans ?_ (Below.mono (by assumption) ?_) | with_reducible exact Below.size (And.right (by assumption)) | (focus omega) | (focus (simp; done)) | (focus (simp; omega)) | (focus (simp at *; omega)))))
  · exact H_u3.out.below (show Below w3.heap.size w3 _ by (repeat (first | with_reducible exact Below.refl _ _ | with_reducible exact Nat.le_refl _ | with_reducible assumption | with_reducible refine Below.drew ?_ | with_reducible refine below_drewN ?_ _ | with_reducible refine Below.alloc ?_ ?_ _ | with_reducible refine Below.setCell ?_ ?_ _ | with_reducible exact And.right (by assumption) | with_reducible refine Below.trans ?_ (Below.mono (by assumption) ?_) | with_reducible exact Below.size (And.right (by assumption)) | (focus omega) | (focus (simp; done)) | (focus (simp; omega)) | (focus (simp at *; omega)))))
  · exact H_l3.out.below (show Below w3.heap.size w3 _ by (repeat (first | with_reducible exact Below.refl _ _ | with_reducible exact Nat.le_refl _ | with_reducible assumption | with_reducible refine Below.drew ?_ | with_reducible refine below_drewN ?_ _ | with_reducible refine Below.alloc ?_ ?_ _ | with_reducible refine Below.setCell ?_ ?_ _ | with_reducible exact And.right (by assumption) | with_reducible refine Below.trans ?_ (Below.mono (by assumption) ?_) | with_reducible exact Below.size (And.right (by assumption)) | (focus omega) | (focus (simp; done)) | (focus (simp; omega)) | (focus (simp at *; omega)))))
  · exact H_t3.out.below (show Below w3.heap.size w3 _ by (repeat (first | with_reducible exact Below.refl _ _ | with_reducible exact Nat.le_refl _ | with_reducible assumption | with_reducible refine Below.drew ?_ | with_reducible refine below_drewN ?_ _ | with_reducible refine Below.alloc ?_ ?_ _ | with_reducible refine Below.setCell ?_ ?_ _ | with_reducible exact And.right (by assumption) | with_reducible refine Below.trans ?_ (Below.mono (by assumption) ?_) | with_reducible exact Below.size (And.right (by assumption)) | (focus omega) | (focus (simp; done)) | (focus (simp; omega)) | (focus (simp at *; omega)))))
  rintro e w4 ⟨X1, k1, X2, k2, rfl, o1, o2, b4⟩
  have c4 : Below w3.heap.size w3 w4 := Below.trans (by (repeat (first | with_reducible exact Below.refl _ _ | with_reducible exact Nat.le_refl _ | with_reducible assumption | with_reducible refine Below.drew ?_ | with_reducible refine below_drewN ?_ _ | with_reducible refine Below.alloc ?_ ?_ _ | with_reducible refine Below.setCell ?_ ?_ _ | with_reducible exact And.right (by assumption) | with_reducible refine Below.trans ?_ (Below.mono (by assumption) ?_) | with_reducible exact Below.size (And.right (by assumption)) | (focus omega) | (focus (simp; done)) | (focus (simp; omega)) | (focus (simp at *; omega))))) (b4.mono (by first | exact Nat.le_refl _ | omega | (simp; done) | (simp; omega)))
  have s4 := c4.size
  have bb4 := H_bb3.out.trans (c4.mono H_bb3.out.size)
  have t4 := H_t3.out.below c4
  have z4 := H_z3.out.below c4
  have u4 := H_u3.out.below c4
  have l4 := H_l3.out.below c4
  have g4 := H_g3.out.below c4
  have H_b4 := Lib.hid b4; clear b4; have H_c4 := Lib.hid c4; clear c4; have H_bb4 := Lib.hid bb4; clear bb4; have H_t4 := Lib.hid t4; clear t4; have H_z4 := Lib.hid z4; clear z4; have H_u4 := Lib.hid u4; clear u4; have H_l4 := Lib.hid l4; clear l4; have H_g4 := Lib.hid g4; clear g4
  clear g0 g1 g2 g3 g4 g5 g6 g7
  have H_o1 := Lib.hid o1; clear o1; have H_o2 := Lib.hid o2; clear o2
  by_cases hE0 : EE = 0
  rotate_left
  · have z := H_hz.out hE0
    have i1 : (EE != 0) = true := by rw [bne_iff_ne]; exact hE0
    have i2 : (EE == 0) = false := by rw [beq_eq_false_iff_ne]; exact hE0
    have o1 := H_o1.out
    have o2 := H_o2.out
    have q6 := fun W (h : IntsAt W X1 .i64 Z0.l) (h2 : IntsAt W X2 .i64 Z1.l) => rsameBoth_any Z0 Z1 Slt.zero Slt.zero X1 Z0.l.length k1 rfl X2 Z1.l.length k2 rfl none 0 0 rfl none 0 0 rfl W (by rw [z.1]; simp [Slt.zero]) (by rw [z.2]; simp [Slt.zero]) (by omega) (by omega) h h2 IntsAt.nil IntsAt.nil
    rw [show sameS Z0 Slt.zero = true by rw [z.1]; exact sameS_self _, show sameS Z1 Slt.zero = true by rw [z.2]; exact sameS_self _] at q6
    simp only [Slt.zero] at q6
    have H_z := Lib.hid z; clear z; have H_q6 := Lib.hid q6; clear q6; have H_o1 := Lib.hid o1; clear o1; have H_o2 := Lib.hid o2; clear o2; have H_hE0 := Lib.hid hE0; clear hE0
    cases BB
    all_goals
      go_wp2_with fail
      (with_reducible refine (H_q6.out _ ?_ ?_).mono ?_)
      · exact H_o1.out.below (show Below w4.heap.size w4 _ by (repeat (first | with_reducible exact Below.refl _ _ | with_reducible exact Nat.le_refl _ | with_reducible assumption | with_reducible refine Below.drew ?_ | with_reducible refine below_drewN ?_ _ | with_reducible refine Below.alloc ?_ ?_ _ | with_reducible refine Below.setCell ?_ ?_ _ | with_reducible exact And.right (by assumption) | with_reducible refine Below.trans ?_ (Below.mono (by assumption) ?_) | with_reducible exact Below.size (And.right (by assumption)) | (focus omega) | (focus (simp; done)) | (focus (simp; omega)) | (focus (simp at *; omega)))))
      · exact H_o2.out.below (show Below w4.heap.size w4 _ by (repeat (first | with_reducible exact Below.refl _ _ | with_reducible exact Nat.le_refl _ | with_reducible assumption | with_reducible refine Below.drew ?_ | with_reducible refine below_drewN ?_ _ | with_reducible refine Below.alloc ?_ ?_ _ | with_reducible refine Below.setCell ?_ ?_ _ | with_reducible exact And.right (by assumption) | with_reducible refine Below.trans ?_ (Below.mono (by assumption) ?_) | with_reducible exact Below.size (And.right (by assumption)) | (focus omega) | (focus (simp; done)) | (focus (simp; omega)) | (focus (simp at *; omega)))))
      rintro e w5 ⟨rfl, b5⟩
      have c5 : Below w4.heap.size w4 w5 := Below.trans (by (repeat (first | with_reducible exact Below.refl _ _ | with_reducible exact Nat.le_refl _ | with_reducible assumption | with_reducible refine Below.drew ?_ | with_reducible refine below_drewN ?_ _ | with_reducible refine Below.alloc ?_ ?_ _ | with_reducible refine Below.setCell ?_ ?_ _ | with_reducible exact And.right (by assumption) | with_reducible refine Below.trans ?_ (Below.mono (by assumption) ?_) | with_reducible exact Below.size (And.right (by assumption)) | (focus omega) | (focus (simp; done)) | (focus (simp; omega)) | (focus (simp at *; omega))))) (b5.mono (by first | exact Nat.le_refl _ | omega | (simp; done) | (simp; omega)))
      have s5 := c5.size
      have bb5 := H_bb4.out.trans (c5.mono H_bb4.out.size)
      have t5 := H_t4.out.below c5
      have H_b5 := Lib.hid b5; clear b5; have H_c5 := Lib.hid c5; clear c5; have H_bb5 := Lib.hid bb5; clear bb5; have H_t5 := Lib.hid t5; clear t5
      go_wp2_with fail
      go_ret
      exact ⟨rfl, H_bw.out.trans (H_bb5.out.mono H_bw.out.size)⟩
  subst hE0
  have i1 : ((0 : Int) != 0) = false := rfl
  cases BB with
  | false =>
    go_wp2_with fail
    go_ret
    exact ⟨rfl, H_bw.out.trans ((H_bb4.out.alloc H_bb4.out.size _).mono H_bw.out.size)⟩
  | true =>
    rcases H_hbI.out with rfl | rfl
    · have st := H_st0.out rfl rfl rfl
      have hmine := st.1.symm
      have hbest := st.2.1
      have hlow := st.2.2.1
      have hhigh := st.2.2.2
      have q5 := fun W X k1 X' k2 (h : IntsAt W X .i64 Z0.l) (h2 : IntsAt W X' .i64 Z1.l) h3 => H_q5.out W X k1 X' k2 h h2 h3
      subst hmine
      rw [hbest] at q5
      have q6 := fun W (h : IntsAt W X1 .i64 x.l) (h2 : SlotIs W A n x) => rsame_at x x X1 x.l.length k1 rfl A n p h2.len W (by have := H_fx.out.few; omega) (by omega) h h2.ints
      rw [sameS_self] at q6
      have q7 := fun W X kk (h : IntsAt W X .i64 Z1.l) (h2 : IntsAt W D' .i64 l) => rsays_any Z1 c X Z1.l.length kk rfl D' N r l H_hN.out W (by have := H_fz.out.2.few; omega) (by omega) h h2
      generalize hB2 : bestI x Z1 = I2 at *
      have H_st := Lib.hid st; clear st; have H_hbest := Lib.hid hbest; clear hbest; have H_q6 := Lib.hid q6; clear q6; have H_q7 := Lib.hid q7; clear q7; have H_hB2 := Lib.hid hB2; clear hB2
      by_cases hlt : at8 % 4 < 2
      · have hI2 := hlow hlt
        clear hlow hhigh
        subst hI2
        have d2 : decide (at8 % 4 < 2) = true := decide_eq_true hlt
        have H_q5 := Lib.hid q5; clear q5
        go_wp2_with fail
        (with_reducible refine (H_q5.out _ X1 k1 X2 k2 ?_ ?_ ?_).mono ?_)
        · exact H_o1.out.below (show Below w4.heap.size w4 _ by (repeat (first | with_reducible exact Below.refl _ _ | with_reducible exact Nat.le_refl _ | with_reducible assumption | with_reducible refine Below.drew ?_ | with_reducible refine below_drewN ?_ _ | with_reducible refine Below.alloc ?_ ?_ _ | with_reducible refine Below.setCell ?_ ?_ _ | with_reducible exact And.right (by assumption) | with_reducible refine Below.trans ?_ (Below.mono (by assumption) ?_) | with_reducible exact Below.size (And.right (by assumption)) | (focus omega) | (focus (simp; done)) | (focus (simp; omega)) | (focus (simp at *; omega)))))
        · exact H_o2.out.below (show Below w4.heap.size w4 _ by (repeat (first | with_reducible exact Below.refl _ _ | with_reducible exact Nat.le_refl _ | with_reducible assumption | with_reducible refine Below.drew ?_ | with_reducible refine below_drewN ?_ _ | with_reducible refine Below.alloc ?_ ?_ _ | with_reducible refine Below.setCell ?_ ?_ _ | with_reducible exact And.right (by assumption) | with_reducible refine Below.trans ?_ (Below.mono (by assumption) ?_) | with_reducible exact Below.size (And.right (by assumption)) | (focus omega) | (focus (simp; done)) | (focus (simp; omega)) | (focus (simp at *; omega)))))
        · exact H_t4.out.below (show Below w4.heap.size w4 _ by (repeat (first | with_reducible exact Below.refl _ _ | with_reducible exact Nat.le_refl _ | with_reducible assumption | with_reducible refine Below.drew ?_ | with_reducible refine below_drewN ?_ _ | with_reducible refine Below.alloc ?_ ?_ _ | with_reducible refine Below.setCell ?_ ?_ _ | with_reducible exact And.right (by assumption) | with_reducible refine Below.trans ?_ (Below.mono (by assumption) ?_) | with_reducible exact Below.size (And.right (by assumption)) | (focus omega) | (focus (simp; done)) | (focus (simp; omega)) | (focus (simp at *; omega)))))
        rintro e w5 ⟨rfl, b5⟩
        have c5 : Below w4.heap.size w4 w5 := Below.trans (by (repeat (first | with_reducible exact Below.refl _ _ | with_reducible exact Nat.le_refl _ | with_reducible assumption | with_reducible refine Below.drew ?_ | with_reducible refine below_drewN ?_ _ | with_reducible refine Below.alloc ?_ ?_ _ | with_reducible refine Below.setCell ?_ ?_ _ | with_reducible exact And.right (by assumption) | with_reducible refine Below.trans ?_ (Below.mono (by assumption) ?_) | with_reducible exact Below.size (And.right (by assumption)) | (focus omega) | (focus (simp; done)) | (focus (simp; omega)) | (focus (simp at *; omega))))) (b5.mono (by first | exact Nat.le_refl _ | omega | (simp; done) | (simp; omega)))
        have s5 := c5.size
        have bb5 := H_bb4.out.trans (c5.mono H_bb4.out.size)
        have t5 := H_t4.out.below c5
        have z5 := H_z4.out.below c5
        have u5 := H_u4.out.below c5
        have l5 := H_l4.out.below c5
        have g5 := H_g4.out.below c5
        have H_b5 := Lib.hid b5; clear b5; have H_c5 := Lib.hid c5; clear c5; have H_bb5 := Lib.hid bb5; clear bb5; have H_t5 := Lib.hid t5; clear t5; have H_z5 := Lib.hid z5; clear z5; have H_u5 := Lib.hid u5; clear u5; have H_l5 := Lib.hid l5; clear l5; have H_g5 := Lib.hid g5; clear g5
        have d5 : Blk w5 w4.heap.size #[.int .i64 x.s, .int .i64 x.c, .slice X1 x.l.length k1, .int .u64 x.u, .int .i64 Z1.s, .int .i64 Z1.c, .slice X2 Z1.l.length k2, .int .u64 Z1.u] := (blk_new rfl).below H_b5.out
        have r5 := H_o1.out.below H_c5.out
        have f5 := H_o2.out.below H_c5.out
        have H_d5 := Lib.hid d5; clear d5; have H_r5 := Lib.hid r5; clear r5; have H_f5 := Lib.hid f5; clear f5
        go_wp2_with fail
        have g0 := (H_g5.out 0 _ rfl).at
        have g1 := (H_g5.out 1 _ rfl).at
        have g2 := (H_g5.out 2 _ rfl).at
        have g3 := (H_g5.out 3 _ rfl).at
        have g4 := (H_g5.out 4 _ rfl).at
        have g5 := (H_g5.out 5 _ rfl).at
        have g6 := (H_g5.out 6 _ rfl).at
        have g7 := (H_g5.out 7 _ rfl).at
        have d0 := (H_d5.out 0 _ rfl).at
        have d1 := (H_d5.out 1 _ rfl).at
        have d2 := (H_d5.out 2 _ rfl).at
        have d3 := (H_d5.out 3 _ rfl).at
        have d4 := (H_d5.out 4 _ rfl).at
        have d5 := (H_d5.out 5 _ rfl).at
        have d6 := (H_d5.out 6 _ rfl).at
        have d7 := (H_d5.out 7 _ rfl).at
        have lg := (H_g5.out 0 _ rfl).lt; have ld := (H_d5.out 0 _ rfl).lt
        go_region_held3 (fun W => (∀ b o, b < w5.heap.size → W.cell? ⟨b, o, none⟩ = w5.cell? ⟨b, o, none⟩) ∧ Below w5.heap.size w5 W) (first | (refine ext_mk ?_; (repeat (first | with_reducible exact Below.refl _ _ | with_reducible exact Nat.le_refl _ | with_reducible assumption | with_reducible refine Below.drew ?_ | with_reducible refine below_drewN ?_ _ | with_reducible refine Below.alloc ?_ ?_ _ | with_reducible refine Below.setCell ?_ ?_ _ | with_reducible exact And.right (by assumption) | with_reducible refine Below.trans ?_ (Below.mono (by assumption) ?_) | with_reducible exact Below.size (And.right (by assumption)) | (focus omega) | (focus (simp; done)) | (focus (simp; omega)) | (focus (simp at *; omega)))))) (first | (go_at_call 36; (with_reducible refine (H_q6.out _ ?_ ?_).mono ?_); (focus (exact H_r5.out.below (And.right (by assumption : _ ∧ Below w5.heap.size w5 _)))); (focus (exact H_z5.out.below (And.right (by assumption : _ ∧ Below w5.heap.size w5 _)))); rintro e w6 ⟨rfl, hbw6⟩; have gw6 := Below.trans (And.right (by assumption : _ ∧ Below w5.heap.size w5 _)) (hbw6.mono (Below.size (And.right (by assumption : _ ∧ Below w5.heap.size w5 _)))); have gsw6 := gw6.size; have hcf := bcell hbw6; have hcw6 := hcf.1; have hfw6 := hcf.2; have hsw6 := hbw6.size; (try simp only [World.size_alloc, World.heap_drewN, heap_drew] at hsw6); clear hbw6 hcf; (try have hzw6 : w5.heap.size < w6.heap.size := by omega)))
        have c6 : Below w5.heap.size w5 w6 := And.right (by assumption)
        clear lg ld hcw6 hfw6 gw6 gsw6 hsw6
        clear g0 g1 g2 g3 g4 g5 g6 g7
        clear d0 d1 d2 d3 d4 d5 d6 d7
        have s6 := c6.size
        have bb6 := H_bb5.out.trans (c6.mono H_bb5.out.size)
        have g6 := H_g5.out.below c6
        have d6 := H_d5.out.below c6
        have r6 := H_r5.out.below c6
        have f6 := H_f5.out.below c6
        have l6 := H_l5.out.below c6
        have H_c6 := Lib.hid c6; clear c6; have H_bb6 := Lib.hid bb6; clear bb6; have H_g6 := Lib.hid g6; clear g6; have H_d6 := Lib.hid d6; clear d6; have H_r6 := Lib.hid r6; clear r6; have H_f6 := Lib.hid f6; clear f6; have H_l6 := Lib.hid l6; clear l6
        go_wp2_with fail
        go_ret
        exact ⟨rfl, H_bw.out.trans (H_bb6.out.mono H_bw.out.size)⟩
      · have hh := hhigh (by omega)
        clear hlow hhigh
        have hI2 := hh.1
        subst hI2
        have hsy := hh.2.1
        have hser := hh.2.2
        have d2 : decide (at8 % 4 < 2) = false := decide_eq_false hlt
        have q7 := fun W X kk h h2 => H_q7.out W X kk h h2
        rw [hsy, hser] at q7
        have e7 : IntKind.i64.wrap (x.s + 1) = x.s + 1 := IntWalk.i64_in _ (by have := H_fz.out.2.s; rw [hser] at this; exact this)
        have H_hh := Lib.hid hh; clear hh; have H_hsy := Lib.hid hsy; clear hsy; have H_hser := Lib.hid hser; clear hser; have H_q7 := Lib.hid q7; clear q7; have H_e7 := Lib.hid e7; clear e7
        have H_q5 := Lib.hid q5; clear q5
        go_wp2_with fail
        (with_reducible refine (H_q5.out _ X1 k1 X2 k2 ?_ ?_ ?_).mono ?_)
        · exact H_o1.out.below (show Below w4.heap.size w4 _ by (repeat (first | with_reducible exact Below.refl _ _ | with_reducible exact Nat.le_refl _ | with_reducible assumption | with_reducible refine Below.drew ?_ | with_reducible refine below_drewN ?_ _ | with_reducible refine Below.alloc ?_ ?_ _ | with_reducible refine Below.setCell ?_ ?_ _ | with_reducible exact And.right (by assumption) | with_reducible refine Below.trans ?_ (Below.mono (by assumption) ?_) | with_reducible exact Below.size (And.right (by assumption)) | (focus omega) | (focus (simp; done)) | (focus (simp; omega)) | (focus (simp at *; omega)))))
        · exact H_o2.out.below (show Below w4.heap.size w4 _ by (repeat (first | with_reducible exact Below.refl _ _ | with_reducible exact Nat.le_refl _ | with_reducible assumption | with_reducible refine Below.drew ?_ | with_reducible refine below_drewN ?_ _ | with_reducible refine Below.alloc ?_ ?_ _ | with_reducible refine Below.setCell ?_ ?_ _ | with_reducible exact And.right (by assumption) | with_reducible refine Below.trans ?_ (Below.mono (by assumption) ?_) | with_reducible exact Below.size (And.right (by assumption)) | (focus omega) | (focus (simp; done)) | (focus (simp; omega)) | (focus (simp at *; omega)))))
        · exact H_t4.out.below (show Below w4.heap.size w4 _ by (repeat (first | with_reducible exact Below.refl _ _ | with_reducible exact Nat.le_refl _ | with_reducible assumption | with_reducible refine Below.drew ?_ | with_reducible refine below_drewN ?_ _ | with_reducible refine Below.alloc ?_ ?_ _ | with_reducible refine Below.setCell ?_ ?_ _ | with_reducible exact And.right (by assumption) | with_reducible refine Below.trans ?_ (Below.mono (by assumption) ?_) | with_reducible exact Below.size (And.right (by assumption)) | (focus omega) | (focus (simp; done)) | (focus (simp; omega)) | (focus (simp at *; omega)))))
        rintro e w5 ⟨rfl, b5⟩
        have c5 : Below w4.heap.size w4 w5 := Below.trans (by (repeat (first | with_reducible exact Below.refl _ _ | with_reducible exact Nat.le_refl _ | with_reducible assumption | with_reducible refine Below.drew ?_ | with_reducible refine below_drewN ?_ _ | with_reducible refine Below.alloc ?_ ?_ _ | with_reducible refine Below.setCell ?_ ?_ _ | with_reducible exact And.right (by assumption) | with_reducible refine Below.trans ?_ (Below.mono (by assumption) ?_) | with_reducible exact Below.size (And.right (by assumption)) | (focus omega) | (focus (simp; done)) | (focus (simp; omega)) | (focus (simp at *; omega))))) (b5.mono (by first | exact Nat.le_refl _ | omega | (simp; done) | (simp; omega)))
        have s5 := c5.size
        have bb5 := H_bb4.out.trans (c5.mono H_bb4.out.size)
        have t5 := H_t4.out.below c5
        have z5 := H_z4.out.below c5
        have u5 := H_u4.out.below c5
        have l5 := H_l4.out.below c5
        have g5 := H_g4.out.below c5
        have H_b5 := Lib.hid b5; clear b5; have H_c5 := Lib.hid c5; clear c5; have H_bb5 := Lib.hid bb5; clear bb5; have H_t5 := Lib.hid t5; clear t5; have H_z5 := Lib.hid z5; clear z5; have H_u5 := Lib.hid u5; clear u5; have H_l5 := Lib.hid l5; clear l5; have H_g5 := Lib.hid g5; clear g5
        have d5 : Blk w5 w4.heap.size #[.int .i64 x.s, .int .i64 x.c, .slice X1 x.l.length k1, .int .u64 x.u, .int .i64 Z1.s, .int .i64 Z1.c, .slice X2 Z1.l.length k2, .int .u64 Z1.u] := (blk_new rfl).below H_b5.out
        have r5 := H_o1.out.below H_c5.out
        have f5 := H_o2.out.below H_c5.out
        have H_d5 := Lib.hid d5; clear d5; have H_r5 := Lib.hid r5; clear r5; have H_f5 := Lib.hid f5; clear f5
        go_wp2_with fail
        have g0 := (H_g5.out 0 _ rfl).at
        have g1 := (H_g5.out 1 _ rfl).at
        have g2 := (H_g5.out 2 _ rfl).at
        have g3 := (H_g5.out 3 _ rfl).at
        have g4 := (H_g5.out 4 _ rfl).at
        have g5 := (H_g5.out 5 _ rfl).at
        have g6 := (H_g5.out 6 _ rfl).at
        have g7 := (H_g5.out 7 _ rfl).at
        have d0 := (H_d5.out 0 _ rfl).at
        have d1 := (H_d5.out 1 _ rfl).at
        have d2 := (H_d5.out 2 _ rfl).at
        have d3 := (H_d5.out 3 _ rfl).at
        have d4 := (H_d5.out 4 _ rfl).at
        have d5 := (H_d5.out 5 _ rfl).at
        have d6 := (H_d5.out 6 _ rfl).at
        have d7 := (H_d5.out 7 _ rfl).at
        have lg := (H_g5.out 0 _ rfl).lt; have ld := (H_d5.out 0 _ rfl).lt
        go_region_held3 (fun W => (∀ b o, b < w5.heap.size → W.cell? ⟨b, o, none⟩ = w5.cell? ⟨b, o, none⟩) ∧ Below w5.heap.size w5 W) (first | (refine ext_mk ?_; (repeat (first | with_reducible exact Below.refl _ _ | with_reducible exact Nat.le_refl _ | with_reducible assumption | with_reducible refine Below.drew ?_ | with_reducible refine below_drewN ?_ _ | with_reducible refine Below.alloc ?_ ?_ _ | with_reducible refine Below.setCell ?_ ?_ _ | with_reducible exact And.right (by assumption) | with_reducible refine Below.trans ?_ (Below.mono (by assumption) ?_) | with_reducible exact Below.size (And.right (by assumption)) | (focus omega) | (focus (simp; done)) | (focus (simp; omega)) | (focus (simp at *; omega)))))) (first | (go_at_call 36; (with_reducible refine (H_q6.out _ ?_ ?_).mono ?_); (focus (exact H_r5.out.below (And.right (by assumption : _ ∧ Below w5.heap.size w5 _)))); (focus (exact H_z5.out.below (And.right (by assumption : _ ∧ Below w5.heap.size w5 _)))); rintro e w6 ⟨rfl, hbw6⟩; have gw6 := Below.trans (And.right (by assumption : _ ∧ Below w5.heap.size w5 _)) (hbw6.mono (Below.size (And.right (by assumption : _ ∧ Below w5.heap.size w5 _)))); have gsw6 := gw6.size; have hcf := bcell hbw6; have hcw6 := hcf.1; have hfw6 := hcf.2; have hsw6 := hbw6.size; (try simp only [World.size_alloc, World.heap_drewN, heap_drew] at hsw6); clear hbw6 hcf; (try have hzw6 : w5.heap.size < w6.heap.size := by omega)))
        have c6 : Below w5.heap.size w5 w6 := And.right (by assumption)
        clear lg ld hcw6 hfw6 gw6 gsw6 hsw6
        clear g0 g1 g2 g3 g4 g5 g6 g7
        clear d0 d1 d2 d3 d4 d5 d6 d7
        have s6 := c6.size
        have bb6 := H_bb5.out.trans (c6.mono H_bb5.out.size)
        have g6 := H_g5.out.below c6
        have d6 := H_d5.out.below c6
        have r6 := H_r5.out.below c6
        have f6 := H_f5.out.below c6
        have l6 := H_l5.out.below c6
        have H_c6 := Lib.hid c6; clear c6; have H_bb6 := Lib.hid bb6; clear bb6; have H_g6 := Lib.hid g6; clear g6; have H_d6 := Lib.hid d6; clear d6; have H_r6 := Lib.hid r6; clear r6; have H_f6 := Lib.hid f6; clear f6; have H_l6 := Lib.hid l6; clear l6
        go_wp2_with fail
        have e7 := H_e7.out
        have e8 : IntKind.i64.wrap 1 = 1 := IntWalk.i64_in _ (by omega)
        have g0 := (H_g6.out 0 _ rfl).at
        have g1 := (H_g6.out 1 _ rfl).at
        have g2 := (H_g6.out 2 _ rfl).at
        have g3 := (H_g6.out 3 _ rfl).at
        have g4 := (H_g6.out 4 _ rfl).at
        have g5 := (H_g6.out 5 _ rfl).at
        have g6 := (H_g6.out 6 _ rfl).at
        have g7 := (H_g6.out 7 _ rfl).at
        have d0 := (H_d6.out 0 _ rfl).at
        have d1 := (H_d6.out 1 _ rfl).at
        have d2 := (H_d6.out 2 _ rfl).at
        have d3 := (H_d6.out 3 _ rfl).at
        have d4 := (H_d6.out 4 _ rfl).at
        have d5 := (H_d6.out 5 _ rfl).at
        have d6 := (H_d6.out 6 _ rfl).at
        have d7 := (H_d6.out 7 _ rfl).at
        have lg := (H_g6.out 0 _ rfl).lt; have ld := (H_d6.out 0 _ rfl).lt
        rw [H_hser.out] at d4
        refine wp_region_held_drew (S := (fun W => (∀ b o, b < w6.heap.size → W.cell? ⟨b, o, none⟩ = w6.cell? ⟨b, o, none⟩) ∧ Below w6.heap.size w6 W)) (by kernel_rfl) ?_ (fun hHeld => ?_)
        · (try dsimp only); (first | (refine ext_mk ?_; (repeat (first | with_reducible exact Below.refl _ _ | with_reducible exact Nat.le_refl _ | with_reducible assumption | with_reducible refine Below.drew ?_ | with_reducible refine below_drewN ?_ _ | with_reducible refine Below.alloc ?_ ?_ _ | with_reducible refine Below.setCell ?_ ?_ _ | with_reducible exact And.right (by assumption) | with_reducible refine Below.trans ?_ (Below.mono (by assumption) ?_) | with_reducible exact Below.size (And.right (by assumption)) | (focus omega) | (focus (simp; done)) | (focus (simp; omega)) | (focus (simp at *; omega))))))
        refine take_at (i := 0) (some 97) rfl rfl (by kernel_rfl) (fun _ _ _ h => h) (by rfl) (v := ?_) ?_ (by assumption) ?_
        rotate_left
        · intro W hSw; (try dsimp only at hSw); go_simp; (try with_reducible rfl)
        (try simp only [Act.put, List.setIfInBounds_toArray, List.set_cons_zero, List.set_cons_succ])
        refine take_at (i := 1) (some 98) rfl rfl (by kernel_rfl) (fun _ _ _ h => h) (by rfl) (v := ?_) ?_ (by assumption) ?_
        rotate_left
        · intro W hSw; (try dsimp only at hSw); go_simp; (try with_reducible rfl)
        (try simp only [Act.put, List.setIfInBounds_toArray, List.set_cons_zero, List.set_cons_succ])
        refine take_at (i := 2) (some 99) rfl rfl (by kernel_rfl) (fun _ _ _ h => h) (by rfl) (v := ?_) ?_ (by assumption) ?_
        rotate_left
        · intro W hSw; (try dsimp only at hSw); go_simp; (try with_reducible rfl)
        (try simp only [Act.put, List.setIfInBounds_toArray, List.set_cons_zero, List.set_cons_succ])
        refine take_at (i := 3) (some 100) rfl rfl (by kernel_rfl) (fun _ _ _ h => h) (by rfl) (v := ?_) ?_ (by assumption) ?_
        rotate_left
        · intro W hSw; (try dsimp only at hSw); go_simp; (try with_reducible rfl)
        (try simp only [Act.put, List.setIfInBounds_toArray, List.set_cons_zero, List.set_cons_succ])
        refine take_at (i := 4) (some 101) rfl rfl (by kernel_rfl) (fun _ _ _ h => h) (by rfl) (v := ?_) ?_ (by assumption) ?_
        rotate_left
        · intro W hSw; (try dsimp only at hSw); go_simp; (try with_reducible rfl)
        (try simp only [Act.put, List.setIfInBounds_toArray, List.set_cons_zero, List.set_cons_succ])
        refine take_at (i := 5) (some 102) rfl rfl (by kernel_rfl) (fun _ _ _ h => h) (by rfl) (v := ?_) ?_ (by assumption) ?_
        rotate_left
        · intro W hSw; (try dsimp only at hSw); go_simp; (try with_reducible rfl)
        (try simp only [Act.put, List.setIfInBounds_toArray, List.set_cons_zero, List.set_cons_succ])
        refine take_at (i := 6) (some 103) rfl rfl (by kernel_rfl) (fun _ _ _ h => h) (by rfl) (v := ?_) ?_ (by assumption) ?_
        rotate_left
        · intro W hSw; (try dsimp only at hSw); go_simp; (try with_reducible rfl)
        (try simp only [Act.put, List.setIfInBounds_toArray, List.set_cons_zero, List.set_cons_succ])
        refine take_at (i := 7) (some 104) rfl rfl (by kernel_rfl) (fun _ _ _ h => h) (by rfl) (v := ?_) ?_ (by assumption) ?_
        rotate_left
        · intro W hSw; (try dsimp only at hSw); go_simp; (try with_reducible rfl)
        (try simp only [Act.put, List.setIfInBounds_toArray, List.set_cons_zero, List.set_cons_succ])
        refine take_at (i := 8) (some 105) rfl rfl (by kernel_rfl) (fun _ _ _ h => h) (by rfl) (v := ?_) ?_ (by assumption) ?_
        rotate_left
        · intro W hSw; (try dsimp only at hSw); go_simp; (try with_reducible rfl)
        (try simp only [Act.put, List.setIfInBounds_toArray, List.set_cons_zero, List.set_cons_succ])
        refine take_at (i := 9) (some 106) rfl rfl (by kernel_rfl) (fun _ _ _ h => h) (by rfl) (v := ?_) ?_ (by assumption) ?_
        rotate_left
        · intro W hSw; (try dsimp only at hSw); go_simp; (try with_reducible rfl)
        (try simp only [Act.put, List.setIfInBounds_toArray, List.set_cons_zero, List.set_cons_succ])
        refine take_at (i := 10) (some 107) rfl rfl (by kernel_rfl) (fun _ _ _ h => h) (by rfl) (v := ?_) ?_ (by assumption) ?_
        rotate_left
        · intro W hSw; (try dsimp only at hSw); go_simp; (try with_reducible rfl)
        (try simp only [Act.put, List.setIfInBounds_toArray, List.set_cons_zero, List.set_cons_succ])
        refine take_at (i := 11) (some 108) rfl rfl (by kernel_rfl) (fun _ _ _ h => h) (by rfl) (v := ?_) ?_ (by assumption) ?_
        rotate_left
        · intro W hSw; (try dsimp only at hSw); go_simp; (try with_reducible rfl)
        (try simp only [Act.put, List.setIfInBounds_toArray, List.set_cons_zero, List.set_cons_succ])
        refine take_at (i := 12) (some 109) rfl rfl (by kernel_rfl) (fun _ _ _ h => h) (by rfl) (v := ?_) ?_ (by assumption) ?_
        rotate_left
        · intro W hSw; (try dsimp only at hSw); go_simp; (try with_reducible rfl)
        (try simp only [Act.put, List.setIfInBounds_toArray, List.set_cons_zero, List.set_cons_succ])
        refine wpAnyH_ready (rs := [13]) (by kernel_rfl) (by simp) ?_
        refine AllReadyH.cons rfl (fun K hK => ?_) AllReadyH.nil
        go_simp
        (go_at_call 42; (with_reducible refine (H_q7.out _ X2 k2 ?_ ?_).mono ?_); (focus (exact H_f6.out.below (And.right (by assumption : _ ∧ Below w6.heap.size w6 _)))); (focus (exact H_l6.out.below (And.right (by assumption : _ ∧ Below w6.heap.size w6 _)))); rintro e w7 ⟨rfl, hbw7⟩; have gw7 := Below.trans (And.right (by assumption : _ ∧ Below w6.heap.size w6 _)) (hbw7.mono (Below.size (And.right (by assumption : _ ∧ Below w6.heap.size w6 _)))); have gsw7 := gw7.size; have hcf := bcell hbw7; have hcw7 := hcf.1; have hfw7 := hcf.2; have hsw7 := hbw7.size; (try simp only [World.size_alloc, World.heap_drewN, heap_drew] at hsw7); clear hbw7 hcf; (try have hzw7 : w6.heap.size < w7.heap.size := by omega))
        refine hK.out _ _ ?_ (fun hHeld => ?_)
        · (try dsimp only); (first | (refine ext_mk ?_; (repeat (first | with_reducible exact Below.refl _ _ | with_reducible exact Nat.le_refl _ | with_reducible assumption | with_reducible refine Below.drew ?_ | with_reducible refine below_drewN ?_ _ | with_reducible refine Below.alloc ?_ ?_ _ | with_reducible refine Below.setCell ?_ ?_ _ | with_reducible exact And.right (by assumption) | with_reducible refine Below.trans ?_ (Below.mono (by assumption) ?_) | with_reducible exact Below.size (And.right (by assumption)) | (focus omega) | (focus (simp; done)) | (focus (simp; omega)) | (focus (simp at *; omega))))))
        clear hK K
        (try simp only [Act.put, List.setIfInBounds_toArray, List.set_cons_zero, List.set_cons_succ])
        refine take_at (i := 14) (some 111) rfl rfl (by kernel_rfl) (fun _ _ _ h => h) (by rfl) (v := ?_) ?_ (by assumption) ?_
        rotate_left
        · intro W hSw; (try dsimp only at hSw); go_simp; (try with_reducible rfl)
        (try simp only [Act.put, List.setIfInBounds_toArray, List.set_cons_zero, List.set_cons_succ])
        refine take_at (i := 15) (some 112) rfl rfl (by kernel_rfl) (fun _ _ _ h => h) (by rfl) (v := ?_) ?_ (by assumption) ?_
        rotate_left
        · intro W hSw; (try dsimp only at hSw); go_simp; (try with_reducible rfl)
        (try simp only [Act.put, List.setIfInBounds_toArray, List.set_cons_zero, List.set_cons_succ])
        refine take_at (i := 16) (some 113) rfl rfl (by kernel_rfl) (fun _ _ _ h => h) (by rfl) (v := ?_) ?_ (by assumption) ?_
        rotate_left
        · intro W hSw; (try dsimp only at hSw); go_simp; (try with_reducible rfl)
        (try simp only [Act.put, List.setIfInBounds_toArray, List.set_cons_zero, List.set_cons_succ])
        refine take_at (i := 17) (some 114) rfl rfl (by kernel_rfl) (fun _ _ _ h => h) (by rfl) (v := ?_) ?_ (by assumption) ?_
        rotate_left
        · intro W hSw; (try dsimp only at hSw); go_simp; (try with_reducible rfl)
        (try simp only [Act.put, List.setIfInBounds_toArray, List.set_cons_zero, List.set_cons_succ])
        refine take_at (i := 18) (some 115) rfl rfl (by kernel_rfl) (fun _ _ _ h => h) (by rfl) (v := ?_) ?_ (by assumption) ?_
        rotate_left
        · intro W hSw; (try dsimp only at hSw); go_simp; (try with_reducible rfl)
        (try simp only [Act.put, List.setIfInBounds_toArray, List.set_cons_zero, List.set_cons_succ])
        refine take_at (i := 19) (some 116) rfl rfl (by kernel_rfl) (fun _ _ _ h => h) (by rfl) (v := ?_) ?_ (by assumption) ?_
        rotate_left
        · intro W hSw; (try dsimp only at hSw); go_simp; (try with_reducible rfl)
        (try simp only [Act.put, List.setIfInBounds_toArray, List.set_cons_zero, List.set_cons_succ])
        refine take_at (i := 20) (some 117) rfl rfl (by kernel_rfl) (fun _ _ _ h => h) (by rfl) (v := ?_) ?_ (by assumption) ?_
        rotate_left
        · intro W hSw; (try dsimp only at hSw); go_simp; (try with_reducible rfl)
        (try simp only [Act.put, List.setIfInBounds_toArray, List.set_cons_zero, List.set_cons_succ])
        refine take_at (i := 21) (some 118) rfl rfl (by kernel_rfl) (fun _ _ _ h => h) (by rfl) (v := ?_) ?_ (by assumption) ?_
        rotate_left
        · intro W hSw; (try dsimp only at hSw); go_simp; (try with_reducible rfl)
        (try simp only [Act.put, List.setIfInBounds_toArray, List.set_cons_zero, List.set_cons_succ])
        refine take_at (i := 22) (some 119) rfl rfl (by kernel_rfl) (fun _ _ _ h => h) (by rfl) (v := ?_) ?_ (by assumption) ?_
        rotate_left
        · intro W hSw; (try dsimp only at hSw); go_simp; (try with_reducible rfl)
        (try simp only [Act.put, List.setIfInBounds_toArray, List.set_cons_zero, List.set_cons_succ])
        refine take_at (i := 23) (some 120) rfl rfl (by kernel_rfl) (fun _ _ _ h => h) (by rfl) (v := ?_) ?_ (by assumption) ?_
        rotate_left
        · intro W hSw; (try dsimp only at hSw); go_simp; (try with_reducible rfl)
        (try simp only [Act.put, List.setIfInBounds_toArray, List.set_cons_zero, List.set_cons_succ])
        refine take_at (i := 24) (some 121) rfl rfl (by kernel_rfl) (fun _ _ _ h => h) (by rfl) (v := ?_) ?_ (by assumption) ?_
        rotate_left
        · intro W hSw; (try dsimp only at hSw); go_simp; (try with_reducible rfl)
        (try simp only [Act.put, List.setIfInBounds_toArray, List.set_cons_zero, List.set_cons_succ])
        refine take_at (i := 25) (some 122) rfl rfl (by kernel_rfl) (fun _ _ _ h => h) (by rfl) (v := ?_) ?_ (by assumption) ?_
        rotate_left
        · intro W hSw; (try dsimp only at hSw); go_simp; (try with_reducible rfl)
        (try simp only [Act.put, List.setIfInBounds_toArray, List.set_cons_zero, List.set_cons_succ])
        refine take_at (i := 26) (some 123) rfl rfl (by kernel_rfl) (fun _ _ _ h => h) (by rfl) (v := ?_) ?_ (by assumption) ?_
        rotate_left
        · intro W hSw; (try dsimp only at hSw); go_simp; (try with_reducible rfl)
        (try simp only [Act.put, List.setIfInBounds_toArray, List.set_cons_zero, List.set_cons_succ])
        refine take_at (i := 27) (some 8) rfl rfl (by kernel_rfl) (fun _ _ _ h => h) (by rfl) (v := ?_) ?_ (by assumption) ?_
        rotate_left
        · intro W hSw; (try dsimp only at hSw); go_simp; (try with_reducible rfl)
        (try simp only [Act.put, List.setIfInBounds_toArray, List.set_cons_zero, List.set_cons_succ])
        refine wpAnyH_done (by kernel_rfl) ?_ _
        all_goals
          have gF : Below w6.heap.size w6 w7 := And.right (by assumption)
          clear e7 e8 hcw7 hfw7 gw7 gsw7 hsw7 lg ld
          clear g0 g1 g2 g3 g4 g5 g6 g7
          clear d0 d1 d2 d3 d4 d5 d6 d7
          have H_gF := Lib.hid gF; clear gF
          go_wp2_with fail
          go_ret
          exact ⟨rfl, H_bw.out.trans ((H_bb6.out.trans (H_gF.out.mono H_bb6.out.size)).mono H_bw.out.size)⟩
    · have st := H_st1.out rfl rfl rfl
      have hmine := st.1.symm
      have hbest := st.2.1
      have hlow := st.2.2.1
      have hhigh := st.2.2.2
      have q5 := fun W X k1 X' k2 (h : IntsAt W X .i64 Z0.l) (h2 : IntsAt W X' .i64 Z1.l) h3 => H_q5.out W X k1 X' k2 h h2 h3
      subst hmine
      rw [hbest] at q5
      have q6 := fun W (h : IntsAt W X2 .i64 y.l) (h2 : SlotIs W B m y) => rsame_at y y X2 y.l.length k2 rfl B m q h2.len W (by have := H_fy.out.few; omega) (by omega) h h2.ints
      rw [sameS_self] at q6
      have q7 := fun W X kk (h : IntsAt W X .i64 Z0.l) (h2 : IntsAt W D' .i64 l) => rsays_any Z0 c X Z0.l.length kk rfl D' N r l H_hN.out W (by have := H_fz.out.1.few; omega) (by omega) h h2
      generalize hB2 : bestI Z0 y = I2 at *
      have H_st := Lib.hid st; clear st; have H_hbest := Lib.hid hbest; clear hbest; have H_q6 := Lib.hid q6; clear q6; have H_q7 := Lib.hid q7; clear q7; have H_hB2 := Lib.hid hB2; clear hB2
      by_cases hlt : at8 % 4 < 2
      · have hI2 := hlow hlt
        clear hlow hhigh
        subst hI2
        have d2 : decide (at8 % 4 < 2) = true := decide_eq_true hlt
        have H_q5 := Lib.hid q5; clear q5
        go_wp2_with fail
        (with_reducible refine (H_q5.out _ X1 k1 X2 k2 ?_ ?_ ?_).mono ?_)
        · exact H_o1.out.below (show Below w4.heap.size w4 _ by (repeat (first | with_reducible exact Below.refl _ _ | with_reducible exact Nat.le_refl _ | with_reducible assumption | with_reducible refine Below.drew ?_ | with_reducible refine below_drewN ?_ _ | with_reducible refine Below.alloc ?_ ?_ _ | with_reducible refine Below.setCell ?_ ?_ _ | with_reducible exact And.right (by assumption) | with_reducible refine Below.trans ?_ (Below.mono (by assumption) ?_) | with_reducible exact Below.size (And.right (by assumption)) | (focus omega) | (focus (simp; done)) | (focus (simp; omega)) | (focus (simp at *; omega)))))
        · exact H_o2.out.below (show Below w4.heap.size w4 _ by (repeat (first | with_reducible exact Below.refl _ _ | with_reducible exact Nat.le_refl _ | with_reducible assumption | with_reducible refine Below.drew ?_ | with_reducible refine below_drewN ?_ _ | with_reducible refine Below.alloc ?_ ?_ _ | with_reducible refine Below.setCell ?_ ?_ _ | with_reducible exact And.right (by assumption) | with_reducible refine Below.trans ?_ (Below.mono (by assumption) ?_) | with_reducible exact Below.size (And.right (by assumption)) | (focus omega) | (focus (simp; done)) | (focus (simp; omega)) | (focus (simp at *; omega)))))
        · exact H_t4.out.below (show Below w4.heap.size w4 _ by (repeat (first | with_reducible exact Below.refl _ _ | with_reducible exact Nat.le_refl _ | with_reducible assumption | with_reducible refine Below.drew ?_ | with_reducible refine below_drewN ?_ _ | with_reducible refine Below.alloc ?_ ?_ _ | with_reducible refine Below.setCell ?_ ?_ _ | with_reducible exact And.right (by assumption) | with_reducible refine Below.trans ?_ (Below.mono (by assumption) ?_) | with_reducible exact Below.size (And.right (by assumption)) | (focus omega) | (focus (simp; done)) | (focus (simp; omega)) | (focus (simp at *; omega)))))
        rintro e w5 ⟨rfl, b5⟩
        have c5 : Below w4.heap.size w4 w5 := Below.trans (by (repeat (first | with_reducible exact Below.refl _ _ | with_reducible exact Nat.le_refl _ | with_reducible assumption | with_reducible refine Below.drew ?_ | with_reducible refine below_drewN ?_ _ | with_reducible refine Below.alloc ?_ ?_ _ | with_reducible refine Below.setCell ?_ ?_ _ | with_reducible exact And.right (by assumption) | with_reducible refine Below.trans ?_ (Below.mono (by assumption) ?_) | with_reducible exact Below.size (And.right (by assumption)) | (focus omega) | (focus (simp; done)) | (focus (simp; omega)) | (focus (simp at *; omega))))) (b5.mono (by first | exact Nat.le_refl _ | omega | (simp; done) | (simp; omega)))
        have s5 := c5.size
        have bb5 := H_bb4.out.trans (c5.mono H_bb4.out.size)
        have t5 := H_t4.out.below c5
        have z5 := H_z4.out.below c5
        have u5 := H_u4.out.below c5
        have l5 := H_l4.out.below c5
        have g5 := H_g4.out.below c5
        have H_b5 := Lib.hid b5; clear b5; have H_c5 := Lib.hid c5; clear c5; have H_bb5 := Lib.hid bb5; clear bb5; have H_t5 := Lib.hid t5; clear t5; have H_z5 := Lib.hid z5; clear z5; have H_u5 := Lib.hid u5; clear u5; have H_l5 := Lib.hid l5; clear l5; have H_g5 := Lib.hid g5; clear g5
        have d5 : Blk w5 w4.heap.size #[.int .i64 Z0.s, .int .i64 Z0.c, .slice X1 Z0.l.length k1, .int .u64 Z0.u, .int .i64 y.s, .int .i64 y.c, .slice X2 y.l.length k2, .int .u64 y.u] := (blk_new rfl).below H_b5.out
        have r5 := H_o1.out.below H_c5.out
        have f5 := H_o2.out.below H_c5.out
        have H_d5 := Lib.hid d5; clear d5; have H_r5 := Lib.hid r5; clear r5; have H_f5 := Lib.hid f5; clear f5
        go_wp2_with fail
        have g0 := (H_g5.out 0 _ rfl).at
        have g1 := (H_g5.out 1 _ rfl).at
        have g2 := (H_g5.out 2 _ rfl).at
        have g3 := (H_g5.out 3 _ rfl).at
        have g4 := (H_g5.out 4 _ rfl).at
        have g5 := (H_g5.out 5 _ rfl).at
        have g6 := (H_g5.out 6 _ rfl).at
        have g7 := (H_g5.out 7 _ rfl).at
        have d0 := (H_d5.out 0 _ rfl).at
        have d1 := (H_d5.out 1 _ rfl).at
        have d2 := (H_d5.out 2 _ rfl).at
        have d3 := (H_d5.out 3 _ rfl).at
        have d4 := (H_d5.out 4 _ rfl).at
        have d5 := (H_d5.out 5 _ rfl).at
        have d6 := (H_d5.out 6 _ rfl).at
        have d7 := (H_d5.out 7 _ rfl).at
        have lg := (H_g5.out 0 _ rfl).lt; have ld := (H_d5.out 0 _ rfl).lt
        go_region_held3 (fun W => (∀ b o, b < w5.heap.size → W.cell? ⟨b, o, none⟩ = w5.cell? ⟨b, o, none⟩) ∧ Below w5.heap.size w5 W) (first | (refine ext_mk ?_; (repeat (first | with_reducible exact Below.refl _ _ | with_reducible exact Nat.le_refl _ | with_reducible assumption | with_reducible refine Below.drew ?_ | with_reducible refine below_drewN ?_ _ | with_reducible refine Below.alloc ?_ ?_ _ | with_reducible refine Below.setCell ?_ ?_ _ | with_reducible exact And.right (by assumption) | with_reducible refine Below.trans ?_ (Below.mono (by assumption) ?_) | with_reducible exact Below.size (And.right (by assumption)) | (focus omega) | (focus (simp; done)) | (focus (simp; omega)) | (focus (simp at *; omega)))))) (first | (go_at_call 36; (with_reducible refine (H_q6.out _ ?_ ?_).mono ?_); (focus (exact H_f5.out.below (And.right (by assumption : _ ∧ Below w5.heap.size w5 _)))); (focus (exact H_u5.out.below (And.right (by assumption : _ ∧ Below w5.heap.size w5 _)))); rintro e w6 ⟨rfl, hbw6⟩; have gw6 := Below.trans (And.right (by assumption : _ ∧ Below w5.heap.size w5 _)) (hbw6.mono (Below.size (And.right (by assumption : _ ∧ Below w5.heap.size w5 _)))); have gsw6 := gw6.size; have hcf := bcell hbw6; have hcw6 := hcf.1; have hfw6 := hcf.2; have hsw6 := hbw6.size; (try simp only [World.size_alloc, World.heap_drewN, heap_drew] at hsw6); clear hbw6 hcf; (try have hzw6 : w5.heap.size < w6.heap.size := by omega)))
        have c6 : Below w5.heap.size w5 w6 := And.right (by assumption)
        clear lg ld hcw6 hfw6 gw6 gsw6 hsw6
        clear g0 g1 g2 g3 g4 g5 g6 g7
        clear d0 d1 d2 d3 d4 d5 d6 d7
        have s6 := c6.size
        have bb6 := H_bb5.out.trans (c6.mono H_bb5.out.size)
        have g6 := H_g5.out.below c6
        have d6 := H_d5.out.below c6
        have r6 := H_r5.out.below c6
        have f6 := H_f5.out.below c6
        have l6 := H_l5.out.below c6
        have H_c6 := Lib.hid c6; clear c6; have H_bb6 := Lib.hid bb6; clear bb6; have H_g6 := Lib.hid g6; clear g6; have H_d6 := Lib.hid d6; clear d6; have H_r6 := Lib.hid r6; clear r6; have H_f6 := Lib.hid f6; clear f6; have H_l6 := Lib.hid l6; clear l6
        go_wp2_with fail
        go_ret
        exact ⟨rfl, H_bw.out.trans (H_bb6.out.mono H_bw.out.size)⟩
      · have hh := hhigh (by omega)
        clear hlow hhigh
        have hI2 := hh.1
        subst hI2
        have hsy := hh.2.1
        have hser := hh.2.2
        have d2 : decide (at8 % 4 < 2) = false := decide_eq_false hlt
        have q7 := fun W X kk h h2 => H_q7.out W X kk h h2
        rw [hsy, hser] at q7
        have e7 : IntKind.i64.wrap (y.s + 1) = y.s + 1 := IntWalk.i64_in _ (by have := H_fz.out.1.s; rw [hser] at this; exact this)
        have H_hh := Lib.hid hh; clear hh; have H_hsy := Lib.hid hsy; clear hsy; have H_hser := Lib.hid hser; clear hser; have H_q7 := Lib.hid q7; clear q7; have H_e7 := Lib.hid e7; clear e7
        have H_q5 := Lib.hid q5; clear q5
        go_wp2_with fail
        (with_reducible refine (H_q5.out _ X1 k1 X2 k2 ?_ ?_ ?_).mono ?_)
        · exact H_o1.out.below (show Below w4.heap.size w4 _ by (repeat (first | with_reducible exact Below.refl _ _ | with_reducible exact Nat.le_refl _ | with_reducible assumption | with_reducible refine Below.drew ?_ | with_reducible refine below_drewN ?_ _ | with_reducible refine Below.alloc ?_ ?_ _ | with_reducible refine Below.setCell ?_ ?_ _ | with_reducible exact And.right (by assumption) | with_reducible refine Below.trans ?_ (Below.mono (by assumption) ?_) | with_reducible exact Below.size (And.right (by assumption)) | (focus omega) | (focus (simp; done)) | (focus (simp; omega)) | (focus (simp at *; omega)))))
        · exact H_o2.out.below (show Below w4.heap.size w4 _ by (repeat (first | with_reducible exact Below.refl _ _ | with_reducible exact Nat.le_refl _ | with_reducible assumption | with_reducible refine Below.drew ?_ | with_reducible refine below_drewN ?_ _ | with_reducible refine Below.alloc ?_ ?_ _ | with_reducible refine Below.setCell ?_ ?_ _ | with_reducible exact And.right (by assumption) | with_reducible refine Below.trans ?_ (Below.mono (by assumption) ?_) | with_reducible exact Below.size (And.right (by assumption)) | (focus omega) | (focus (simp; done)) | (focus (simp; omega)) | (focus (simp at *; omega)))))
        · exact H_t4.out.below (show Below w4.heap.size w4 _ by (repeat (first | with_reducible exact Below.refl _ _ | with_reducible exact Nat.le_refl _ | with_reducible assumption | with_reducible refine Below.drew ?_ | with_reducible refine below_drewN ?_ _ | with_reducible refine Below.alloc ?_ ?_ _ | with_reducible refine Below.setCell ?_ ?_ _ | with_reducible exact And.right (by assumption) | with_reducible refine Below.trans ?_ (Below.mono (by assumption) ?_) | with_reducible exact Below.size (And.right (by assumption)) | (focus omega) | (focus (simp; done)) | (focus (simp; omega)) | (focus (simp at *; omega)))))
        rintro e w5 ⟨rfl, b5⟩
        have c5 : Below w4.heap.size w4 w5 := Below.trans (by (repeat (first | with_reducible exact Below.refl _ _ | with_reducible exact Nat.le_refl _ | with_reducible assumption | with_reducible refine Below.drew ?_ | with_reducible refine below_drewN ?_ _ | with_reducible refine Below.alloc ?_ ?_ _ | with_reducible refine Below.setCell ?_ ?_ _ | with_reducible exact And.right (by assumption) | with_reducible refine Below.trans ?_ (Below.mono (by assumption) ?_) | with_reducible exact Below.size (And.right (by assumption)) | (focus omega) | (focus (simp; done)) | (focus (simp; omega)) | (focus (simp at *; omega))))) (b5.mono (by first | exact Nat.le_refl _ | omega | (simp; done) | (simp; omega)))
        have s5 := c5.size
        have bb5 := H_bb4.out.trans (c5.mono H_bb4.out.size)
        have t5 := H_t4.out.below c5
        have z5 := H_z4.out.below c5
        have u5 := H_u4.out.below c5
        have l5 := H_l4.out.below c5
        have g5 := H_g4.out.below c5
        have H_b5 := Lib.hid b5; clear b5; have H_c5 := Lib.hid c5; clear c5; have H_bb5 := Lib.hid bb5; clear bb5; have H_t5 := Lib.hid t5; clear t5; have H_z5 := Lib.hid z5; clear z5; have H_u5 := Lib.hid u5; clear u5; have H_l5 := Lib.hid l5; clear l5; have H_g5 := Lib.hid g5; clear g5
        have d5 : Blk w5 w4.heap.size #[.int .i64 Z0.s, .int .i64 Z0.c, .slice X1 Z0.l.length k1, .int .u64 Z0.u, .int .i64 y.s, .int .i64 y.c, .slice X2 y.l.length k2, .int .u64 y.u] := (blk_new rfl).below H_b5.out
        have r5 := H_o1.out.below H_c5.out
        have f5 := H_o2.out.below H_c5.out
        have H_d5 := Lib.hid d5; clear d5; have H_r5 := Lib.hid r5; clear r5; have H_f5 := Lib.hid f5; clear f5
        go_wp2_with fail
        have g0 := (H_g5.out 0 _ rfl).at
        have g1 := (H_g5.out 1 _ rfl).at
        have g2 := (H_g5.out 2 _ rfl).at
        have g3 := (H_g5.out 3 _ rfl).at
        have g4 := (H_g5.out 4 _ rfl).at
        have g5 := (H_g5.out 5 _ rfl).at
        have g6 := (H_g5.out 6 _ rfl).at
        have g7 := (H_g5.out 7 _ rfl).at
        have d0 := (H_d5.out 0 _ rfl).at
        have d1 := (H_d5.out 1 _ rfl).at
        have d2 := (H_d5.out 2 _ rfl).at
        have d3 := (H_d5.out 3 _ rfl).at
        have d4 := (H_d5.out 4 _ rfl).at
        have d5 := (H_d5.out 5 _ rfl).at
        have d6 := (H_d5.out 6 _ rfl).at
        have d7 := (H_d5.out 7 _ rfl).at
        have lg := (H_g5.out 0 _ rfl).lt; have ld := (H_d5.out 0 _ rfl).lt
        go_region_held3 (fun W => (∀ b o, b < w5.heap.size → W.cell? ⟨b, o, none⟩ = w5.cell? ⟨b, o, none⟩) ∧ Below w5.heap.size w5 W) (first | (refine ext_mk ?_; (repeat (first | with_reducible exact Below.refl _ _ | with_reducible exact Nat.le_refl _ | with_reducible assumption | with_reducible refine Below.drew ?_ | with_reducible refine below_drewN ?_ _ | with_reducible refine Below.alloc ?_ ?_ _ | with_reducible refine Below.setCell ?_ ?_ _ | with_reducible exact And.right (by assumption) | with_reducible refine Below.trans ?_ (Below.mono (by assumption) ?_) | with_reducible exact Below.size (And.right (by assumption)) | (focus omega) | (focus (simp; done)) | (focus (simp; omega)) | (focus (simp at *; omega)))))) (first | (go_at_call 36; (with_reducible refine (H_q6.out _ ?_ ?_).mono ?_); (focus (exact H_f5.out.below (And.right (by assumption : _ ∧ Below w5.heap.size w5 _)))); (focus (exact H_u5.out.below (And.right (by assumption : _ ∧ Below w5.heap.size w5 _)))); rintro e w6 ⟨rfl, hbw6⟩; have gw6 := Below.trans (And.right (by assumption : _ ∧ Below w5.heap.size w5 _)) (hbw6.mono (Below.size (And.right (by assumption : _ ∧ Below w5.heap.size w5 _)))); have gsw6 := gw6.size; have hcf := bcell hbw6; have hcw6 := hcf.1; have hfw6 := hcf.2; have hsw6 := hbw6.size; (try simp only [World.size_alloc, World.heap_drewN, heap_drew] at hsw6); clear hbw6 hcf; (try have hzw6 : w5.heap.size < w6.heap.size := by omega)))
        have c6 : Below w5.heap.size w5 w6 := And.right (by assumption)
        clear lg ld hcw6 hfw6 gw6 gsw6 hsw6
        clear g0 g1 g2 g3 g4 g5 g6 g7
        clear d0 d1 d2 d3 d4 d5 d6 d7
        have s6 := c6.size
        have bb6 := H_bb5.out.trans (c6.mono H_bb5.out.size)
        have g6 := H_g5.out.below c6
        have d6 := H_d5.out.below c6
        have r6 := H_r5.out.below c6
        have f6 := H_f5.out.below c6
        have l6 := H_l5.out.below c6
        have H_c6 := Lib.hid c6; clear c6; have H_bb6 := Lib.hid bb6; clear bb6; have H_g6 := Lib.hid g6; clear g6; have H_d6 := Lib.hid d6; clear d6; have H_r6 := Lib.hid r6; clear r6; have H_f6 := Lib.hid f6; clear f6; have H_l6 := Lib.hid l6; clear l6
        go_wp2_with fail
        have e7 := H_e7.out
        have e8 : IntKind.i64.wrap 0 = 0 := IntWalk.i64_in _ (by omega)
        have g0 := (H_g6.out 0 _ rfl).at
        have g1 := (H_g6.out 1 _ rfl).at
        have g2 := (H_g6.out 2 _ rfl).at
        have g3 := (H_g6.out 3 _ rfl).at
        have g4 := (H_g6.out 4 _ rfl).at
        have g5 := (H_g6.out 5 _ rfl).at
        have g6 := (H_g6.out 6 _ rfl).at
        have g7 := (H_g6.out 7 _ rfl).at
        have d0 := (H_d6.out 0 _ rfl).at
        have d1 := (H_d6.out 1 _ rfl).at
        have d2 := (H_d6.out 2 _ rfl).at
        have d3 := (H_d6.out 3 _ rfl).at
        have d4 := (H_d6.out 4 _ rfl).at
        have d5 := (H_d6.out 5 _ rfl).at
        have d6 := (H_d6.out 6 _ rfl).at
        have d7 := (H_d6.out 7 _ rfl).at
        have lg := (H_g6.out 0 _ rfl).lt; have ld := (H_d6.out 0 _ rfl).lt
        rw [H_hser.out] at d0
        refine wp_region_held_drew (S := (fun W => (∀ b o, b < w6.heap.size → W.cell? ⟨b, o, none⟩ = w6.cell? ⟨b, o, none⟩) ∧ Below w6.heap.size w6 W)) (by kernel_rfl) ?_ (fun hHeld => ?_)
        · (try dsimp only); (first | (refine ext_mk ?_; (repeat (first | with_reducible exact Below.refl _ _ | with_reducible exact Nat.le_refl _ | with_reducible assumption | with_reducible refine Below.drew ?_ | with_reducible refine below_drewN ?_ _ | with_reducible refine Below.alloc ?_ ?_ _ | with_reducible refine Below.setCell ?_ ?_ _ | with_reducible exact And.right (by assumption) | with_reducible refine Below.trans ?_ (Below.mono (by assumption) ?_) | with_reducible exact Below.size (And.right (by assumption)) | (focus omega) | (focus (simp; done)) | (focus (simp; omega)) | (focus (simp at *; omega))))))
        refine take_at (i := 0) (some 97) rfl rfl (by kernel_rfl) (fun _ _ _ h => h) (by rfl) (v := ?_) ?_ (by assumption) ?_
        rotate_left
        · intro W hSw; (try dsimp only at hSw); go_simp; (try with_reducible rfl)
        (try simp only [Act.put, List.setIfInBounds_toArray, List.set_cons_zero, List.set_cons_succ])
        refine take_at (i := 1) (some 98) rfl rfl (by kernel_rfl) (fun _ _ _ h => h) (by rfl) (v := ?_) ?_ (by assumption) ?_
        rotate_left
        · intro W hSw; (try dsimp only at hSw); go_simp; (try with_reducible rfl)
        (try simp only [Act.put, List.setIfInBounds_toArray, List.set_cons_zero, List.set_cons_succ])
        refine take_at (i := 2) (some 99) rfl rfl (by kernel_rfl) (fun _ _ _ h => h) (by rfl) (v := ?_) ?_ (by assumption) ?_
        rotate_left
        · intro W hSw; (try dsimp only at hSw); go_simp; (try with_reducible rfl)
        (try simp only [Act.put, List.setIfInBounds_toArray, List.set_cons_zero, List.set_cons_succ])
        refine take_at (i := 3) (some 100) rfl rfl (by kernel_rfl) (fun _ _ _ h => h) (by rfl) (v := ?_) ?_ (by assumption) ?_
        rotate_left
        · intro W hSw; (try dsimp only at hSw); go_simp; (try with_reducible rfl)
        (try simp only [Act.put, List.setIfInBounds_toArray, List.set_cons_zero, List.set_cons_succ])
        refine take_at (i := 4) (some 101) rfl rfl (by kernel_rfl) (fun _ _ _ h => h) (by rfl) (v := ?_) ?_ (by assumption) ?_
        rotate_left
        · intro W hSw; (try dsimp only at hSw); go_simp; (try with_reducible rfl)
        (try simp only [Act.put, List.setIfInBounds_toArray, List.set_cons_zero, List.set_cons_succ])
        refine take_at (i := 5) (some 102) rfl rfl (by kernel_rfl) (fun _ _ _ h => h) (by rfl) (v := ?_) ?_ (by assumption) ?_
        rotate_left
        · intro W hSw; (try dsimp only at hSw); go_simp; (try with_reducible rfl)
        (try simp only [Act.put, List.setIfInBounds_toArray, List.set_cons_zero, List.set_cons_succ])
        refine take_at (i := 6) (some 103) rfl rfl (by kernel_rfl) (fun _ _ _ h => h) (by rfl) (v := ?_) ?_ (by assumption) ?_
        rotate_left
        · intro W hSw; (try dsimp only at hSw); go_simp; (try with_reducible rfl)
        (try simp only [Act.put, List.setIfInBounds_toArray, List.set_cons_zero, List.set_cons_succ])
        refine take_at (i := 7) (some 104) rfl rfl (by kernel_rfl) (fun _ _ _ h => h) (by rfl) (v := ?_) ?_ (by assumption) ?_
        rotate_left
        · intro W hSw; (try dsimp only at hSw); go_simp; (try with_reducible rfl)
        (try simp only [Act.put, List.setIfInBounds_toArray, List.set_cons_zero, List.set_cons_succ])
        refine take_at (i := 8) (some 105) rfl rfl (by kernel_rfl) (fun _ _ _ h => h) (by rfl) (v := ?_) ?_ (by assumption) ?_
        rotate_left
        · intro W hSw; (try dsimp only at hSw); go_simp; (try with_reducible rfl)
        (try simp only [Act.put, List.setIfInBounds_toArray, List.set_cons_zero, List.set_cons_succ])
        refine take_at (i := 9) (some 106) rfl rfl (by kernel_rfl) (fun _ _ _ h => h) (by rfl) (v := ?_) ?_ (by assumption) ?_
        rotate_left
        · intro W hSw; (try dsimp only at hSw); go_simp; (try with_reducible rfl)
        (try simp only [Act.put, List.setIfInBounds_toArray, List.set_cons_zero, List.set_cons_succ])
        refine take_at (i := 10) (some 107) rfl rfl (by kernel_rfl) (fun _ _ _ h => h) (by rfl) (v := ?_) ?_ (by assumption) ?_
        rotate_left
        · intro W hSw; (try dsimp only at hSw); go_simp; (try with_reducible rfl)
        (try simp only [Act.put, List.setIfInBounds_toArray, List.set_cons_zero, List.set_cons_succ])
        refine take_at (i := 11) (some 108) rfl rfl (by kernel_rfl) (fun _ _ _ h => h) (by rfl) (v := ?_) ?_ (by assumption) ?_
        rotate_left
        · intro W hSw; (try dsimp only at hSw); go_simp; (try with_reducible rfl)
        (try simp only [Act.put, List.setIfInBounds_toArray, List.set_cons_zero, List.set_cons_succ])
        refine take_at (i := 12) (some 109) rfl rfl (by kernel_rfl) (fun _ _ _ h => h) (by rfl) (v := ?_) ?_ (by assumption) ?_
        rotate_left
        · intro W hSw; (try dsimp only at hSw); go_simp; (try with_reducible rfl)
        (try simp only [Act.put, List.setIfInBounds_toArray, List.set_cons_zero, List.set_cons_succ])
        refine wpAnyH_ready (rs := [13]) (by kernel_rfl) (by simp) ?_
        refine AllReadyH.cons rfl (fun K hK => ?_) AllReadyH.nil
        go_simp
        (go_at_call 42; (with_reducible refine (H_q7.out _ X1 k1 ?_ ?_).mono ?_); (focus (exact H_r6.out.below (And.right (by assumption : _ ∧ Below w6.heap.size w6 _)))); (focus (exact H_l6.out.below (And.right (by assumption : _ ∧ Below w6.heap.size w6 _)))); rintro e w7 ⟨rfl, hbw7⟩; have gw7 := Below.trans (And.right (by assumption : _ ∧ Below w6.heap.size w6 _)) (hbw7.mono (Below.size (And.right (by assumption : _ ∧ Below w6.heap.size w6 _)))); have gsw7 := gw7.size; have hcf := bcell hbw7; have hcw7 := hcf.1; have hfw7 := hcf.2; have hsw7 := hbw7.size; (try simp only [World.size_alloc, World.heap_drewN, heap_drew] at hsw7); clear hbw7 hcf; (try have hzw7 : w6.heap.size < w7.heap.size := by omega))
        refine hK.out _ _ ?_ (fun hHeld => ?_)
        · (try dsimp only); (first | (refine ext_mk ?_; (repeat (first | with_reducible exact Below.refl _ _ | with_reducible exact Nat.le_refl _ | with_reducible assumption | with_reducible refine Below.drew ?_ | with_reducible refine below_drewN ?_ _ | with_reducible refine Below.alloc ?_ ?_ _ | with_reducible refine Below.setCell ?_ ?_ _ | with_reducible exact And.right (by assumption) | with_reducible refine Below.trans ?_ (Below.mono (by assumption) ?_) | with_reducible exact Below.size (And.right (by assumption)) | (focus omega) | (focus (simp; done)) | (focus (simp; omega)) | (focus (simp at *; omega))))))
        clear hK K
        (try simp only [Act.put, List.setIfInBounds_toArray, List.set_cons_zero, List.set_cons_succ])
        refine take_at (i := 14) (some 111) rfl rfl (by kernel_rfl) (fun _ _ _ h => h) (by rfl) (v := ?_) ?_ (by assumption) ?_
        rotate_left
        · intro W hSw; (try dsimp only at hSw); go_simp; (try with_reducible rfl)
        (try simp only [Act.put, List.setIfInBounds_toArray, List.set_cons_zero, List.set_cons_succ])
        refine take_at (i := 15) (some 112) rfl rfl (by kernel_rfl) (fun _ _ _ h => h) (by rfl) (v := ?_) ?_ (by assumption) ?_
        rotate_left
        · intro W hSw; (try dsimp only at hSw); go_simp; (try with_reducible rfl)
        (try simp only [Act.put, List.setIfInBounds_toArray, List.set_cons_zero, List.set_cons_succ])
        refine take_at (i := 16) (some 113) rfl rfl (by kernel_rfl) (fun _ _ _ h => h) (by rfl) (v := ?_) ?_ (by assumption) ?_
        rotate_left
        · intro W hSw; (try dsimp only at hSw); go_simp; (try with_reducible rfl)
        (try simp only [Act.put, List.setIfInBounds_toArray, List.set_cons_zero, List.set_cons_succ])
        refine take_at (i := 17) (some 114) rfl rfl (by kernel_rfl) (fun _ _ _ h => h) (by rfl) (v := ?_) ?_ (by assumption) ?_
        rotate_left
        · intro W hSw; (try dsimp only at hSw); go_simp; (try with_reducible rfl)
        (try simp only [Act.put, List.setIfInBounds_toArray, List.set_cons_zero, List.set_cons_succ])
        refine take_at (i := 18) (some 115) rfl rfl (by kernel_rfl) (fun _ _ _ h => h) (by rfl) (v := ?_) ?_ (by assumption) ?_
        rotate_left
        · intro W hSw; (try dsimp only at hSw); go_simp; (try with_reducible rfl)
        (try simp only [Act.put, List.setIfInBounds_toArray, List.set_cons_zero, List.set_cons_succ])
        refine take_at (i := 19) (some 116) rfl rfl (by kernel_rfl) (fun _ _ _ h => h) (by rfl) (v := ?_) ?_ (by assumption) ?_
        rotate_left
        · intro W hSw; (try dsimp only at hSw); go_simp; (try with_reducible rfl)
        (try simp only [Act.put, List.setIfInBounds_toArray, List.set_cons_zero, List.set_cons_succ])
        refine take_at (i := 20) (some 117) rfl rfl (by kernel_rfl) (fun _ _ _ h => h) (by rfl) (v := ?_) ?_ (by assumption) ?_
        rotate_left
        · intro W hSw; (try dsimp only at hSw); go_simp; (try with_reducible rfl)
        (try simp only [Act.put, List.setIfInBounds_toArray, List.set_cons_zero, List.set_cons_succ])
        refine take_at (i := 21) (some 118) rfl rfl (by kernel_rfl) (fun _ _ _ h => h) (by rfl) (v := ?_) ?_ (by assumption) ?_
        rotate_left
        · intro W hSw; (try dsimp only at hSw); go_simp; (try with_reducible rfl)
        (try simp only [Act.put, List.setIfInBounds_toArray, List.set_cons_zero, List.set_cons_succ])
        refine take_at (i := 22) (some 119) rfl rfl (by kernel_rfl) (fun _ _ _ h => h) (by rfl) (v := ?_) ?_ (by assumption) ?_
        rotate_left
        · intro W hSw; (try dsimp only at hSw); go_simp; (try with_reducible rfl)
        (try simp only [Act.put, List.setIfInBounds_toArray, List.set_cons_zero, List.set_cons_succ])
        refine take_at (i := 23) (some 120) rfl rfl (by kernel_rfl) (fun _ _ _ h => h) (by rfl) (v := ?_) ?_ (by assumption) ?_
        rotate_left
        · intro W hSw; (try dsimp only at hSw); go_simp; (try with_reducible rfl)
        (try simp only [Act.put, List.setIfInBounds_toArray, List.set_cons_zero, List.set_cons_succ])
        refine take_at (i := 24) (some 121) rfl rfl (by kernel_rfl) (fun _ _ _ h => h) (by rfl) (v := ?_) ?_ (by assumption) ?_
        rotate_left
        · intro W hSw; (try dsimp only at hSw); go_simp; (try with_reducible rfl)
        (try simp only [Act.put, List.setIfInBounds_toArray, List.set_cons_zero, List.set_cons_succ])
        refine take_at (i := 25) (some 122) rfl rfl (by kernel_rfl) (fun _ _ _ h => h) (by rfl) (v := ?_) ?_ (by assumption) ?_
        rotate_left
        · intro W hSw; (try dsimp only at hSw); go_simp; (try with_reducible rfl)
        (try simp only [Act.put, List.setIfInBounds_toArray, List.set_cons_zero, List.set_cons_succ])
        refine take_at (i := 26) (some 123) rfl rfl (by kernel_rfl) (fun _ _ _ h => h) (by rfl) (v := ?_) ?_ (by assumption) ?_
        rotate_left
        · intro W hSw; (try dsimp only at hSw); go_simp; (try with_reducible rfl)
        (try simp only [Act.put, List.setIfInBounds_toArray, List.set_cons_zero, List.set_cons_succ])
        refine take_at (i := 27) (some 8) rfl rfl (by kernel_rfl) (fun _ _ _ h => h) (by rfl) (v := ?_) ?_ (by assumption) ?_
        rotate_left
        · intro W hSw; (try dsimp only at hSw); go_simp; (try with_reducible rfl)
        (try simp only [Act.put, List.setIfInBounds_toArray, List.set_cons_zero, List.set_cons_succ])
        refine wpAnyH_done (by kernel_rfl) ?_ _
        all_goals
          have gF : Below w6.heap.size w6 w7 := And.right (by assumption)
          clear e7 e8 hcw7 hfw7 gw7 gsw7 hsw7 lg ld
          clear g0 g1 g2 g3 g4 g5 g6 g7
          clear d0 d1 d2 d3 d4 d5 d6 d7
          have H_gF := Lib.hid gF; clear gF
          go_wp2_with fail
          go_ret
          exact ⟨rfl, H_bw.out.trans ((H_bb6.out.trans (H_gF.out.mono H_bb6.out.size)).mono H_bw.out.size)⟩
end Go.Proofs.YtncfilbpgomncaaDoor

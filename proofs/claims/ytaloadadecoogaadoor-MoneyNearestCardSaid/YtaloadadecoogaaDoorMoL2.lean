/- The walk of MoneyNearest. -/
import Derived.Test.YtaloadadecoogaaDoorMnZ
import Derived.Test.YtaloadadecoogaaDoorOpnM
namespace Go.Proofs.YtaloadadecoogaaDoor
set_option linter.unusedSimpArgs false
set_option linter.unusedVariables false
set_option maxRecDepth 100000
open Go.RowKit Go.Maps

theorem wf_2 {n : Int} (h : (Lit.int .i64 n).wf = true) : -9223372036854775808 ≤ n ∧ n ≤ 9223372036854775807 := wf_i64 h
set_option maxRecDepth 100000 in
set_option maxHeartbeats 16000000 in
theorem moneyNearest_walk (A : Option Addr) (cp : Nat) (l : List Exc) (m c t : Int) (w : World) (hl : Excs w A l) (hlc : l.length ≤ cp) (hcm : cp ≤ maxLen) (hm0 : (Lit.int .i64 m).wf = true) (hc0 : (Lit.int .i64 c).wf = true) (ht0 : (Lit.int .i64 t).wf = true) (ht : Tab w) :
    Calls Tryd.prog 4 #[.slice A l.length cp, .agg #[.int .i64 m, .int .i64 c], .int .i64 t] w fun e w' => e = .returned (.bool true) ∧ Below w.heap.size w w' := by
  have hm := wf_2 hm0
  have hc := wf_2 hc0
  have hT := wf_2 ht0
  obtain ⟨n, hln⟩ : ∃ n, l.length = n := ⟨_, rfl⟩
  rw [hln] at hlc ⊢
  have hnm : n ≤ 9223372036854775807 := by unfold maxLen at hcm; omega
  obtain ⟨w0, hw0⟩ : ∃ W, w.alloc (.cells #[.int .i64 m, .int .i64 c] 24) = W := ⟨_, rfl⟩
  have bb0 : Below w.heap.size w w0 := by rw [← hw0]; exact (Below.refl _ _).alloc (Nat.le_refl _) _
  have k0 : Blk w0 w.heap.size #[.int .i64 m, .int .i64 c] := by rw [← hw0]; exact blk_new rfl
  have t0 := ht.below bb0
  have i0 := hl.below bb0
  have qh := head06_any w0 t0
  by_cases h40 : 40 < n
  · have i1 : decide ((40 : Int) < (n : Int)) = true := decide_eq_true (by omega)
    have H_hw0 := Lib.hid hw0; clear hw0; have H_bb0 := Lib.hid bb0; clear bb0; have H_k0 := Lib.hid k0; clear k0; have H_t0 := Lib.hid t0; clear t0; have H_i0 := Lib.hid i0; clear i0; have H_qh := Lib.hid qh; clear qh; have H_hl := Lib.hid hl; clear hl; have H_ht := Lib.hid ht; clear ht; have H_hln := Lib.hid hln; clear hln
    go_enter Tryd.func4, Tryd.ntmps4
    go_upto_region 1 with (fail)
    rw [H_hw0.out]
    go_wp2_with fail
    (with_reducible refine (H_qh.out).mono ?_)
    rintro e w1 ⟨rfl, b1⟩
    have c1 : Below w0.heap.size w0 w1 := Below.trans (by (repeat (first | with_reducible exact Below.refl _ _ | with_reducible exact Nat.le_refl _ | with_reducible assumption | with_reducible refine Below.drew ?_ | with_reducible refine below_drewN ?_ _ | with_reducible refine Below.alloc ?_ ?_ _ | with_reducible refine Below.setCell ?_ ?_ _ | with_reducible exact And.right (by assumption) | with_reducible refine Below.trans ?_ (Below.mono (by assumption) ?_) | with_reducible exact Below.size (And.right (by assumption)) | (focus omega) | (focus (simp; done)) | (focus (simp; omega)) | (focus (simp at *; omega))))) (b1.mono (by first | exact Nat.le_refl _ | omega | (simp; done) | (simp; omega)))
    have s1 := c1.size
    have bb1 := H_bb0.out.trans (c1.mono H_bb0.out.size)
    have H_b1 := Lib.hid b1; clear b1; have H_c1 := Lib.hid c1; clear c1; have H_bb1 := Lib.hid bb1; clear bb1
    go_wp2_with fail
    go_ret
    exact ⟨rfl, H_bb1.out⟩
  have i1 : decide ((40 : Int) < (n : Int)) = false := decide_eq_false (by omega)
  have q1 := fun W h => mconvert_any A cp n l m c t hln (by omega) hm hc hT W h
  have q2 := fun W h => lrate_any A cp n l c t hln (by omega) W h
  by_cases hE : cvE l m c t = 0
  rotate_left
  · obtain ⟨eM, eC⟩ := cv_err hE
    have e1 : (cvE l m c t != 0) = true := by rw [bne_iff_ne]; exact hE
    generalize cvE l m c t = E0 at *
    generalize cvM l m c t = M0 at *
    generalize cvC l m c t = C0 at *
    generalize rtN l c t = N0 at *
    generalize rtD l c t = D0 at *
    generalize rtB l c t = B0 at *
    have H_hw0 := Lib.hid hw0; clear hw0; have H_bb0 := Lib.hid bb0; clear bb0; have H_k0 := Lib.hid k0; clear k0; have H_t0 := Lib.hid t0; clear t0; have H_i0 := Lib.hid i0; clear i0; have H_qh := Lib.hid qh; clear qh; have H_q1 := Lib.hid q1; clear q1; have H_q2 := Lib.hid q2; clear q2; have H_hl := Lib.hid hl; clear hl; have H_ht := Lib.hid ht; clear ht; have H_hln := Lib.hid hln; clear hln; have H_eM := Lib.hid eM; clear eM; have H_eC := Lib.hid eC; clear eC; have H_hE := Lib.hid hE; clear hE
    go_enter Tryd.func4, Tryd.ntmps4
    go_upto_region 1 with (fail)
    rw [H_hw0.out]
    go_wp2_with fail
    (with_reducible refine (H_qh.out).mono ?_)
    rintro e w1 ⟨rfl, b1⟩
    have c1 : Below w0.heap.size w0 w1 := Below.trans (by (repeat (first | with_reducible exact Below.refl _ _ | with_reducible exact Nat.le_refl _ | with_reducible assumption | with_reducible refine Below.drew ?_ | with_reducible refine below_drewN ?_ _ | with_reducible refine Below.alloc ?_ ?_ _ | with_reducible refine Below.setCell ?_ ?_ _ | with_reducible exact And.right (by assumption) | with_reducible refine Below.trans ?_ (Below.mono (by assumption) ?_) | with_reducible exact Below.size (And.right (by assumption)) | (focus omega) | (focus (simp; done)) | (focus (simp; omega)) | (focus (simp at *; omega))))) (b1.mono (by first | exact Nat.le_refl _ | omega | (simp; done) | (simp; omega)))
    have s1 := c1.size
    have bb1 := H_bb0.out.trans (c1.mono H_bb0.out.size)
    have k1 := H_k0.out.below c1
    have i1 := H_i0.out.below c1
    have H_b1 := Lib.hid b1; clear b1; have H_c1 := Lib.hid c1; clear c1; have H_bb1 := Lib.hid bb1; clear bb1; have H_k1 := Lib.hid k1; clear k1; have H_i1 := Lib.hid i1; clear i1
    have y0 := (H_k1.out 0 _ rfl).at
    have y1 := (H_k1.out 1 _ rfl).at
    have ly := (H_k1.out 0 _ rfl).lt
    go_wp2_with fail
    (with_reducible refine (H_q1.out _ ?_).mono ?_)
    · exact H_i1.out.below (show Below w1.heap.size w1 _ by (repeat (first | with_reducible exact Below.refl _ _ | with_reducible exact Nat.le_refl _ | with_reducible assumption | with_reducible refine Below.drew ?_ | with_reducible refine below_drewN ?_ _ | with_reducible refine Below.alloc ?_ ?_ _ | with_reducible refine Below.setCell ?_ ?_ _ | with_reducible exact And.right (by assumption) | with_reducible refine Below.trans ?_ (Below.mono (by assumption) ?_) | with_reducible exact Below.size (And.right (by assumption)) | (focus omega) | (focus (simp; done)) | (focus (simp; omega)) | (focus (simp at *; omega)))))
    rintro e w2 ⟨rfl, b2⟩
    have c2 : Below w1.heap.size w1 w2 := Below.trans (by (repeat (first | with_reducible exact Below.refl _ _ | with_reducible exact Nat.le_refl _ | with_reducible assumption | with_reducible refine Below.drew ?_ | with_reducible refine below_drewN ?_ _ | with_reducible refine Below.alloc ?_ ?_ _ | with_reducible refine Below.setCell ?_ ?_ _ | with_reducible exact And.right (by assumption) | with_reducible refine Below.trans ?_ (Below.mono (by assumption) ?_) | with_reducible exact Below.size (And.right (by assumption)) | (focus omega) | (focus (simp; done)) | (focus (simp; omega)) | (focus (simp at *; omega))))) (b2.mono (by first | exact Nat.le_refl _ | omega | (simp; done) | (simp; omega)))
    have s2 := c2.size
    have bb2 := H_bb1.out.trans (c2.mono H_bb1.out.size)
    have k2 := H_k1.out.below c2
    have i2 := H_i1.out.below c2
    have H_b2 := Lib.hid b2; clear b2; have H_c2 := Lib.hid c2; clear c2; have H_bb2 := Lib.hid bb2; clear bb2; have H_k2 := Lib.hid k2; clear k2; have H_i2 := Lib.hid i2; clear i2
    clear y0 y1
    clear ly
    have y0 := (H_k2.out 0 _ rfl).at
    have y1 := (H_k2.out 1 _ rfl).at
    have ly := (H_k2.out 0 _ rfl).lt
    go_wp2_with fail
    (with_reducible refine (H_q2.out _ ?_).mono ?_)
    · exact H_i2.out.below (show Below w2.heap.size w2 _ by (repeat (first | with_reducible exact Below.refl _ _ | with_reducible exact Nat.le_refl _ | with_reducible assumption | with_reducible refine Below.drew ?_ | with_reducible refine below_drewN ?_ _ | with_reducible refine Below.alloc ?_ ?_ _ | with_reducible refine Below.setCell ?_ ?_ _ | with_reducible exact And.right (by assumption) | with_reducible refine Below.trans ?_ (Below.mono (by assumption) ?_) | with_reducible exact Below.size (And.right (by assumption)) | (focus omega) | (focus (simp; done)) | (focus (simp; omega)) | (focus (simp at *; omega)))))
    rintro e w3 ⟨rfl, b3⟩
    have c3 : Below w2.heap.size w2 w3 := Below.trans (by (repeat (first | with_reducible exact Below.refl _ _ | with_reducible exact Nat.le_refl _ | with_reducible assumption | with_reducible refine Below.drew ?_ | with_reducible refine below_drewN ?_ _ | with_reducible refine Below.alloc ?_ ?_ _ | with_reducible refine Below.setCell ?_ ?_ _ | with_reducible exact And.right (by assumption) | with_reducible refine Below.trans ?_ (Below.mono (by assumption) ?_) | with_reducible exact Below.size (And.right (by assumption)) | (focus omega) | (focus (simp; done)) | (focus (simp; omega)) | (focus (simp at *; omega))))) (b3.mono (by first | exact Nat.le_refl _ | omega | (simp; done) | (simp; omega)))
    have s3 := c3.size
    have bb3 := H_bb2.out.trans (c3.mono H_bb2.out.size)
    have k3 := H_k2.out.below c3
    have i3 := H_i2.out.below c3
    have H_b3 := Lib.hid b3; clear b3; have H_c3 := Lib.hid c3; clear c3; have H_bb3 := Lib.hid bb3; clear bb3; have H_k3 := Lib.hid k3; clear k3; have H_i3 := Lib.hid i3; clear i3
    have u3 : Blk w3 w2.heap.size #[.int .i64 M0, .int .i64 C0] := (blk_new rfl).below H_b3.out
    go_upto_region 6 with (fail)
    obtain ⟨w4, hw4⟩ : ∃ W, w3.alloc (.cells #[.int .i64 N0, .int .i64 D0] 40) = W := ⟨_, rfl⟩
    rw [hw4]
    have c4 : Below w3.heap.size w3 w4 := by rw [← hw4]; exact (Below.refl _ _).alloc (Nat.le_refl _) _
    have v4 : Blk w4 w3.heap.size #[.int .i64 N0, .int .i64 D0] := by rw [← hw4]; exact blk_new rfl
    have bb4 := H_bb3.out.trans (c4.mono H_bb3.out.size)
    have u4 := u3.below c4
    have k4 := H_k3.out.below c4
    clear y0 y1
    clear ly
    have H_hw4 := Lib.hid hw4; clear hw4; have H_c4 := Lib.hid c4; clear c4; have H_v4 := Lib.hid v4; clear v4; have H_bb4 := Lib.hid bb4; clear bb4; have H_u3 := Lib.hid u3; clear u3; have H_u4 := Lib.hid u4; clear u4; have H_k4 := Lib.hid k4; clear k4
    have y0 := (H_k4.out 0 _ rfl).at
    have y1 := (H_k4.out 1 _ rfl).at
    have u0 := (H_u4.out 0 _ rfl).at
    have u1 := (H_u4.out 1 _ rfl).at
    have v0 := (H_v4.out 0 _ rfl).at
    have v1 := (H_v4.out 1 _ rfl).at
    have ly := (H_k4.out 0 _ rfl).lt
    have lu := (H_u4.out 0 _ rfl).lt
    have lv := (H_v4.out 0 _ rfl).lt
    go_wp2_with fail
    go_ret
    exact ⟨rfl, H_bb4.out⟩
  have eC : cvC l m c t = t := by rw [cvC, if_pos hE]
  by_cases hct : c = t
  · have eM : cvM l m c t = m := by rw [cvM, if_pos hE, if_pos hct]
    have e1 : (c == t) = true := by rw [beq_iff_eq]; exact hct
    have eq := fun W => eq_money m t m c hm hT hm hc (R := true) (by simp [hct]) W
    rw [hE, eM, eC] at q1
    generalize rtN l c t = N0 at *
    generalize rtD l c t = D0 at *
    generalize rtB l c t = B0 at *
    have H_hw0 := Lib.hid hw0; clear hw0; have H_bb0 := Lib.hid bb0; clear bb0; have H_k0 := Lib.hid k0; clear k0; have H_t0 := Lib.hid t0; clear t0; have H_i0 := Lib.hid i0; clear i0; have H_qh := Lib.hid qh; clear qh; have H_q1 := Lib.hid q1; clear q1; have H_q2 := Lib.hid q2; clear q2; have H_hl := Lib.hid hl; clear hl; have H_ht := Lib.hid ht; clear ht; have H_hln := Lib.hid hln; clear hln; have H_eM := Lib.hid eM; clear eM; have H_eC := Lib.hid eC; clear eC; have H_hE := Lib.hid hE; clear hE; have H_hct := Lib.hid hct; clear hct
    go_enter Tryd.func4, Tryd.ntmps4
    go_upto_region 1 with (fail)
    rw [H_hw0.out]
    go_wp2_with fail
    (with_reducible refine (H_qh.out).mono ?_)
    rintro e w1 ⟨rfl, b1⟩
    have c1 : Below w0.heap.size w0 w1 := Below.trans (by (repeat (first | with_reducible exact Below.refl _ _ | with_reducible exact Nat.le_refl _ | with_reducible assumption | with_reducible refine Below.drew ?_ | with_reducible refine below_drewN ?_ _ | with_reducible refine Below.alloc ?_ ?_ _ | with_reducible refine Below.setCell ?_ ?_ _ | with_reducible exact And.right (by assumption) | with_reducible refine Below.trans ?_ (Below.mono (by assumption) ?_) | with_reducible exact Below.size (And.right (by assumption)) | (focus omega) | (focus (simp; done)) | (focus (simp; omega)) | (focus (simp at *; omega))))) (b1.mono (by first | exact Nat.le_refl _ | omega | (simp; done) | (simp; omega)))
    have s1 := c1.size
    have bb1 := H_bb0.out.trans (c1.mono H_bb0.out.size)
    have k1 := H_k0.out.below c1
    have i1 := H_i0.out.below c1
    have H_b1 := Lib.hid b1; clear b1; have H_c1 := Lib.hid c1; clear c1; have H_bb1 := Lib.hid bb1; clear bb1; have H_k1 := Lib.hid k1; clear k1; have H_i1 := Lib.hid i1; clear i1
    have y0 := (H_k1.out 0 _ rfl).at
    have y1 := (H_k1.out 1 _ rfl).at
    have ly := (H_k1.out 0 _ rfl).lt
    go_wp2_with fail
    (with_reducible refine (H_q1.out _ ?_).mono ?_)
    · exact H_i1.out.below (show Below w1.heap.size w1 _ by (repeat (first | with_reducible exact Below.refl _ _ | with_reducible exact Nat.le_refl _ | with_reducible assumption | with_reducible refine Below.drew ?_ | with_reducible refine below_drewN ?_ _ | with_reducible refine Below.alloc ?_ ?_ _ | with_reducible refine Below.setCell ?_ ?_ _ | with_reducible exact And.right (by assumption) | with_reducible refine Below.trans ?_ (Below.mono (by assumption) ?_) | with_reducible exact Below.size (And.right (by assumption)) | (focus omega) | (focus (simp; done)) | (focus (simp; omega)) | (focus (simp at *; omega)))))
    rintro e w2 ⟨rfl, b2⟩
    have c2 : Below w1.heap.size w1 w2 := Below.trans (by (repeat (first | with_reducible exact Below.refl _ _ | with_reducible exact Nat.le_refl _ | with_reducible assumption | with_reducible refine Below.drew ?_ | with_reducible refine below_drewN ?_ _ | with_reducible refine Below.alloc ?_ ?_ _ | with_reducible refine Below.setCell ?_ ?_ _ | with_reducible exact And.right (by assumption) | with_reducible refine Below.trans ?_ (Below.mono (by assumption) ?_) | with_reducible exact Below.size (And.right (by assumption)) | (focus omega) | (focus (simp; done)) | (focus (simp; omega)) | (focus (simp at *; omega))))) (b2.mono (by first | exact Nat.le_refl _ | omega | (simp; done) | (simp; omega)))
    have s2 := c2.size
    have bb2 := H_bb1.out.trans (c2.mono H_bb1.out.size)
    have k2 := H_k1.out.below c2
    have i2 := H_i1.out.below c2
    have H_b2 := Lib.hid b2; clear b2; have H_c2 := Lib.hid c2; clear c2; have H_bb2 := Lib.hid bb2; clear bb2; have H_k2 := Lib.hid k2; clear k2; have H_i2 := Lib.hid i2; clear i2
    clear y0 y1
    clear ly
    have y0 := (H_k2.out 0 _ rfl).at
    have y1 := (H_k2.out 1 _ rfl).at
    have ly := (H_k2.out 0 _ rfl).lt
    go_wp2_with fail
    (with_reducible refine (H_q2.out _ ?_).mono ?_)
    · exact H_i2.out.below (show Below w2.heap.size w2 _ by (repeat (first | with_reducible exact Below.refl _ _ | with_reducible exact Nat.le_refl _ | with_reducible assumption | with_reducible refine Below.drew ?_ | with_reducible refine below_drewN ?_ _ | with_reducible refine Below.alloc ?_ ?_ _ | with_reducible refine Below.setCell ?_ ?_ _ | with_reducible exact And.right (by assumption) | with_reducible refine Below.trans ?_ (Below.mono (by assumption) ?_) | with_reducible exact Below.size (And.right (by assumption)) | (focus omega) | (focus (simp; done)) | (focus (simp; omega)) | (focus (simp at *; omega)))))
    rintro e w3 ⟨rfl, b3⟩
    have c3 : Below w2.heap.size w2 w3 := Below.trans (by (repeat (first | with_reducible exact Below.refl _ _ | with_reducible exact Nat.le_refl _ | with_reducible assumption | with_reducible refine Below.drew ?_ | with_reducible refine below_drewN ?_ _ | with_reducible refine Below.alloc ?_ ?_ _ | with_reducible refine Below.setCell ?_ ?_ _ | with_reducible exact And.right (by assumption) | with_reducible refine Below.trans ?_ (Below.mono (by assumption) ?_) | with_reducible exact Below.size (And.right (by assumption)) | (focus omega) | (focus (simp; done)) | (focus (simp; omega)) | (focus (simp at *; omega))))) (b3.mono (by first | exact Nat.le_refl _ | omega | (simp; done) | (simp; omega)))
    have s3 := c3.size
    have bb3 := H_bb2.out.trans (c3.mono H_bb2.out.size)
    have k3 := H_k2.out.below c3
    have i3 := H_i2.out.below c3
    have H_b3 := Lib.hid b3; clear b3; have H_c3 := Lib.hid c3; clear c3; have H_bb3 := Lib.hid bb3; clear bb3; have H_k3 := Lib.hid k3; clear k3; have H_i3 := Lib.hid i3; clear i3
    have u3 : Blk w3 w2.heap.size #[.int .i64 m, .int .i64 t] := (blk_new rfl).below H_b3.out
    go_upto_region 6 with (fail)
    obtain ⟨w4, hw4⟩ : ∃ W, w3.alloc (.cells #[.int .i64 N0, .int .i64 D0] 40) = W := ⟨_, rfl⟩
    rw [hw4]
    have c4 : Below w3.heap.size w3 w4 := by rw [← hw4]; exact (Below.refl _ _).alloc (Nat.le_refl _) _
    have v4 : Blk w4 w3.heap.size #[.int .i64 N0, .int .i64 D0] := by rw [← hw4]; exact blk_new rfl
    have bb4 := H_bb3.out.trans (c4.mono H_bb3.out.size)
    have u4 := u3.below c4
    have k4 := H_k3.out.below c4
    clear y0 y1
    clear ly
    have H_hw4 := Lib.hid hw4; clear hw4; have H_c4 := Lib.hid c4; clear c4; have H_v4 := Lib.hid v4; clear v4; have H_bb4 := Lib.hid bb4; clear bb4; have H_u3 := Lib.hid u3; clear u3; have H_u4 := Lib.hid u4; clear u4; have H_k4 := Lib.hid k4; clear k4
    have y0 := (H_k4.out 0 _ rfl).at
    have y1 := (H_k4.out 1 _ rfl).at
    have u0 := (H_u4.out 0 _ rfl).at
    have u1 := (H_u4.out 1 _ rfl).at
    have v0 := (H_v4.out 0 _ rfl).at
    have v1 := (H_v4.out 1 _ rfl).at
    have ly := (H_k4.out 0 _ rfl).lt
    have lu := (H_u4.out 0 _ rfl).lt
    have lv := (H_v4.out 0 _ rfl).lt
    go_wp2_with fail
    go_ret
    exact ⟨rfl, H_bb4.out⟩
  have e1 : (c == t) = false := by rw [beq_eq_false_iff_ne]; exact hct
  obtain ⟨x, hf, hd, hn, ha, n1, n2, n3⟩ := near_law hE hct
  have hmb := amtB_iff.1 (cv_ok hE).2.1
  have hV := amtB_iff.1 ha
  rw [hE, eC] at q1
  rw [show rtN l c t = x.n by rw [rtN, hf], show rtD l c t = x.d by rw [rtD, hf], show rtB l c t = true by rw [rtB, hf]; rfl] at q2
  generalize cvM l m c t = V at *
  generalize x.n = N at *
  generalize x.d = D at *
  have m1 := mul_in hV (S := D) (by omega)
  have m2 : -1000000000000000000 ≤ m * N ∧ m * N ≤ 1000000000000000000 := by
    have h := Nat.mul_le_mul (show m.natAbs ≤ 1000000000 by omega) (show N.natAbs ≤ 1000000000 by omega)
    rw [← Int.natAbs_mul] at h
    omega
  have k1 : IntKind.i64.wrap (V * D) = V * D := IntWalk.i64_in _ (by omega)
  have k2 : IntKind.i64.wrap (m * N) = m * N := IntWalk.i64_in _ (by omega)
  have k3 : IntKind.i64.wrap (V * D - m * N) = V * D - m * N := IntWalk.i64_in _ (by omega)
  obtain ⟨E, hEE⟩ : ∃ E, 2 * (V * D - m * N) = E := ⟨_, rfl⟩
  rw [hEE] at n1 n2 n3
  have k4 : IntKind.i64.wrap E = E := IntWalk.i64_in _ (by omega)
  have k5 : IntKind.i64.wrap (-E) = -E := IntWalk.i64_in _ (by omega)
  have tb : -2 < V.tmod 2 ∧ V.tmod 2 < 2 := ⟨Int.lt_tmod_of_pos _ (by omega), Int.tmod_lt_of_pos _ (by omega)⟩
  have k6 : IntKind.i64.wrap (V.tmod 2) = V.tmod 2 := IntWalk.i64_in _ (by omega)
  have ev : (E = D ∨ E = -D) → V.tmod 2 = 0 := fun h => Int.tmod_eq_zero_of_dvd ⟨V / 2, by have := n3 h; omega⟩
  clear m1 m2
  by_cases hneg : E < 0
  · have f1 : decide (E < 0) = true := decide_eq_true hneg
    have f2 : decide (-E ≤ D) = true := decide_eq_true (by omega)
    by_cases hlt : -E < D
    · have f3 : decide (-E < D) = true := decide_eq_true hlt
      have H_hw0 := Lib.hid hw0; clear hw0; have H_bb0 := Lib.hid bb0; clear bb0; have H_k0 := Lib.hid k0; clear k0; have H_t0 := Lib.hid t0; clear t0; have H_i0 := Lib.hid i0; clear i0; have H_qh := Lib.hid qh; clear qh; have H_q1 := Lib.hid q1; clear q1; have H_q2 := Lib.hid q2; clear q2; have H_hl := Lib.hid hl; clear hl; have H_ht := Lib.hid ht; clear ht; have H_hln := Lib.hid hln; clear hln; have H_eC := Lib.hid eC; clear eC; have H_hE := Lib.hid hE; clear hE; have H_hct := Lib.hid hct; clear hct; have H_hf := Lib.hid hf; clear hf; have H_hd := Lib.hid hd; clear hd; have H_hn := Lib.hid hn; clear hn; have H_ha := Lib.hid ha; clear ha; have H_n1 := Lib.hid n1; clear n1; have H_n2 := Lib.hid n2; clear n2; have H_n3 := Lib.hid n3; clear n3; have H_hmb := Lib.hid hmb; clear hmb; have H_hV := Lib.hid hV; clear hV; have H_tb := Lib.hid tb; clear tb; have H_ev := Lib.hid ev; clear ev; have H_hlt := Lib.hid hlt; clear hlt; have H_hneg := Lib.hid hneg; clear hneg
      go_enter Tryd.func4, Tryd.ntmps4
      go_upto_region 1 with (fail)
      rw [H_hw0.out]
      go_wp2_with fail
      (with_reducible refine (H_qh.out).mono ?_)
      rintro e w1 ⟨rfl, b1⟩
      have c1 : Below w0.heap.size w0 w1 := Below.trans (by (repeat (first | with_reducible exact Below.refl _ _ | with_reducible exact Nat.le_refl _ | with_reducible assumption | with_reducible refine Below.drew ?_ | with_reducible refine below_drewN ?_ _ | with_reducible refine Below.alloc ?_ ?_ _ | with_reducible refine Below.setCell ?_ ?_ _ | with_reducible exact And.right (by assumption) | with_reducible refine Below.trans ?_ (Below.mono (by assumption) ?_) | with_reducible exact Below.size (And.right (by assumption)) | (focus omega) | (focus (simp; done)) | (focus (simp; omega)) | (focus (simp at *; omega))))) (b1.mono (by first | exact Nat.le_refl _ | omega | (simp; done) | (simp; omega)))
      have s1 := c1.size
      have bb1 := H_bb0.out.trans (c1.mono H_bb0.out.size)
      have k1 := H_k0.out.below c1
      have i1 := H_i0.out.below c1
      have H_b1 := Lib.hid b1; clear b1; have H_c1 := Lib.hid c1; clear c1; have H_bb1 := Lib.hid bb1; clear bb1; have H_k1 := Lib.hid k1; clear k1; have H_i1 := Lib.hid i1; clear i1
      have y0 := (H_k1.out 0 _ rfl).at
      have y1 := (H_k1.out 1 _ rfl).at
      have ly := (H_k1.out 0 _ rfl).lt
      go_wp2_with fail
      (with_reducible refine (H_q1.out _ ?_).mono ?_)
      · exact H_i1.out.below (show Below w1.heap.size w1 _ by (repeat (first | with_reducible exact Below.refl _ _ | with_reducible exact Nat.le_refl _ | with_reducible assumption | with_reducible refine Below.drew ?_ | with_reducible refine below_drewN ?_ _ | with_reducible refine Below.alloc ?_ ?_ _ | with_reducible refine Below.setCell ?_ ?_ _ | with_reducible exact And.right (by assumption) | with_reducible refine Below.trans ?_ (Below.mono (by assumption) ?_) | with_reducible exact Below.size (And.right (by assumption)) | (focus omega) | (focus (simp; done)) | (focus (simp; omega)) | (focus (simp at *; omega)))))
      rintro e w2 ⟨rfl, b2⟩
      have c2 : Below w1.heap.size w1 w2 := Below.trans (by (repeat (first | with_reducible exact Below.refl _ _ | with_reducible exact Nat.le_refl _ | with_reducible assumption | with_reducible refine Below.drew ?_ | with_reducible refine below_drewN ?_ _ | with_reducible refine Below.alloc ?_ ?_ _ | with_reducible refine Below.setCell ?_ ?_ _ | with_reducible exact And.right (by assumption) | with_reducible refine Below.trans ?_ (Below.mono (by assumption) ?_) | with_reducible exact Below.size (And.right (by assumption)) | (focus omega) | (focus (simp; done)) | (focus (simp; omega)) | (focus (simp at *; omega))))) (b2.mono (by first | exact Nat.le_refl _ | omega | (simp; done) | (simp; omega)))
      have s2 := c2.size
      have bb2 := H_bb1.out.trans (c2.mono H_bb1.out.size)
      have k2 := H_k1.out.below c2
      have i2 := H_i1.out.below c2
      have H_b2 := Lib.hid b2; clear b2; have H_c2 := Lib.hid c2; clear c2; have H_bb2 := Lib.hid bb2; clear bb2; have H_k2 := Lib.hid k2; clear k2; have H_i2 := Lib.hid i2; clear i2
      clear y0 y1
      clear ly
      have y0 := (H_k2.out 0 _ rfl).at
      have y1 := (H_k2.out 1 _ rfl).at
      have ly := (H_k2.out 0 _ rfl).lt
      go_wp2_with fail
      (with_reducible refine (H_q2.out _ ?_).mono ?_)
      · exact H_i2.out.below (show Below w2.heap.size w2 _ by (repeat (first | with_reducible exact Below.refl _ _ | with_reducible exact Nat.le_refl _ | with_reducible assumption | with_reducible refine Below.drew ?_ | with_reducible refine below_drewN ?_ _ | with_reducible refine Below.alloc ?_ ?_ _ | with_reducible refine Below.setCell ?_ ?_ _ | with_reducible exact And.right (by assumption) | with_reducible refine Below.trans ?_ (Below.mono (by assumption) ?_) | with_reducible exact Below.size (And.right (by assumption)) | (focus omega) | (focus (simp; done)) | (focus (simp; omega)) | (focus (simp at *; omega)))))
      rintro e w3 ⟨rfl, b3⟩
      have c3 : Below w2.heap.size w2 w3 := Below.trans (by (repeat (first | with_reducible exact Below.refl _ _ | with_reducible exact Nat.le_refl _ | with_reducible assumption | with_reducible refine Below.drew ?_ | with_reducible refine below_drewN ?_ _ | with_reducible refine Below.alloc ?_ ?_ _ | with_reducible refine Below.setCell ?_ ?_ _ | with_reducible exact And.right (by assumption) | with_reducible refine Below.trans ?_ (Below.mono (by assumption) ?_) | with_reducible exact Below.size (And.right (by assumption)) | (focus omega) | (focus (simp; done)) | (focus (simp; omega)) | (focus (simp at *; omega))))) (b3.mono (by first | exact Nat.le_refl _ | omega | (simp; done) | (simp; omega)))
      have s3 := c3.size
      have bb3 := H_bb2.out.trans (c3.mono H_bb2.out.size)
      have k3 := H_k2.out.below c3
      have i3 := H_i2.out.below c3
      have H_b3 := Lib.hid b3; clear b3; have H_c3 := Lib.hid c3; clear c3; have H_bb3 := Lib.hid bb3; clear bb3; have H_k3 := Lib.hid k3; clear k3; have H_i3 := Lib.hid i3; clear i3
      have u3 : Blk w3 w2.heap.size #[.int .i64 V, .int .i64 t] := (blk_new rfl).below H_b3.out
      go_upto_region 6 with (fail)
      obtain ⟨w4, hw4⟩ : ∃ W, w3.alloc (.cells #[.int .i64 N, .int .i64 D] 40) = W := ⟨_, rfl⟩
      rw [hw4]
      have c4 : Below w3.heap.size w3 w4 := by rw [← hw4]; exact (Below.refl _ _).alloc (Nat.le_refl _) _
      have v4 : Blk w4 w3.heap.size #[.int .i64 N, .int .i64 D] := by rw [← hw4]; exact blk_new rfl
      have bb4 := H_bb3.out.trans (c4.mono H_bb3.out.size)
      have u4 := u3.below c4
      have k4 := H_k3.out.below c4
      clear y0 y1
      clear ly
      have H_hw4 := Lib.hid hw4; clear hw4; have H_c4 := Lib.hid c4; clear c4; have H_v4 := Lib.hid v4; clear v4; have H_bb4 := Lib.hid bb4; clear bb4; have H_u3 := Lib.hid u3; clear u3; have H_u4 := Lib.hid u4; clear u4; have H_k4 := Lib.hid k4; clear k4
      have y0 := (H_k4.out 0 _ rfl).at
      have y1 := (H_k4.out 1 _ rfl).at
      have u0 := (H_u4.out 0 _ rfl).at
      have u1 := (H_u4.out 1 _ rfl).at
      have v0 := (H_v4.out 0 _ rfl).at
      have v1 := (H_v4.out 1 _ rfl).at
      have ly := (H_k4.out 0 _ rfl).lt
      have lu := (H_u4.out 0 _ rfl).lt
      have lv := (H_v4.out 0 _ rfl).lt
      go_wp2_with fail
      go_ret
      exact ⟨rfl, H_bb4.out⟩
    · have f3 : decide (-E < D) = false := decide_eq_false hlt
      have f4 := ev (by omega)
      have H_hw0 := Lib.hid hw0; clear hw0; have H_bb0 := Lib.hid bb0; clear bb0; have H_k0 := Lib.hid k0; clear k0; have H_t0 := Lib.hid t0; clear t0; have H_i0 := Lib.hid i0; clear i0; have H_qh := Lib.hid qh; clear qh; have H_q1 := Lib.hid q1; clear q1; have H_q2 := Lib.hid q2; clear q2; have H_hl := Lib.hid hl; clear hl; have H_ht := Lib.hid ht; clear ht; have H_hln := Lib.hid hln; clear hln; have H_eC := Lib.hid eC; clear eC; have H_hE := Lib.hid hE; clear hE; have H_hct := Lib.hid hct; clear hct; have H_hf := Lib.hid hf; clear hf; have H_hd := Lib.hid hd; clear hd; have H_hn := Lib.hid hn; clear hn; have H_ha := Lib.hid ha; clear ha; have H_n1 := Lib.hid n1; clear n1; have H_n2 := Lib.hid n2; clear n2; have H_n3 := Lib.hid n3; clear n3; have H_hmb := Lib.hid hmb; clear hmb; have H_hV := Lib.hid hV; clear hV; have H_tb := Lib.hid tb; clear tb; have H_ev := Lib.hid ev; clear ev; have H_hlt := Lib.hid hlt; clear hlt; have H_hneg := Lib.hid hneg; clear hneg
      go_enter Tryd.func4, Tryd.ntmps4
      go_upto_region 1 with (fail)
      rw [H_hw0.out]
      go_wp2_with fail
      (with_reducible refine (H_qh.out).mono ?_)
      rintro e w1 ⟨rfl, b1⟩
      have c1 : Below w0.heap.size w0 w1 := Below.trans (by (repeat (first | with_reducible exact Below.refl _ _ | with_reducible exact Nat.le_refl _ | with_reducible assumption | with_reducible refine Below.drew ?_ | with_reducible refine below_drewN ?_ _ | with_reducible refine Below.alloc ?_ ?_ _ | with_reducible refine Below.setCell ?_ ?_ _ | with_reducible exact And.right (by assumption) | with_reducible refine Below.trans ?_ (Below.mono (by assumption) ?_) | with_reducible exact Below.size (And.right (by assumption)) | (focus omega) | (focus (simp; done)) | (focus (simp; omega)) | (focus (simp at *; omega))))) (b1.mono (by first | exact Nat.le_refl _ | omega | (simp; done) | (simp; omega)))
      have s1 := c1.size
      have bb1 := H_bb0.out.trans (c1.mono H_bb0.out.size)
      have k1 := H_k0.out.below c1
      have i1 := H_i0.out.below c1
      have H_b1 := Lib.hid b1; clear b1; have H_c1 := Lib.hid c1; clear c1; have H_bb1 := Lib.hid bb1; clear bb1; have H_k1 := Lib.hid k1; clear k1; have H_i1 := Lib.hid i1; clear i1
      have y0 := (H_k1.out 0 _ rfl).at
      have y1 := (H_k1.out 1 _ rfl).at
      have ly := (H_k1.out 0 _ rfl).lt
      go_wp2_with fail
      (with_reducible refine (H_q1.out _ ?_).mono ?_)
      · exact H_i1.out.below (show Below w1.heap.size w1 _ by (repeat (first | with_reducible exact Below.refl _ _ | with_reducible exact Nat.le_refl _ | with_reducible assumption | with_reducible refine Below.drew ?_ | with_reducible refine below_drewN ?_ _ | with_reducible refine Below.alloc ?_ ?_ _ | with_reducible refine Below.setCell ?_ ?_ _ | with_reducible exact And.right (by assumption) | with_reducible refine Below.trans ?_ (Below.mono (by assumption) ?_) | with_reducible exact Below.size (And.right (by assumption)) | (focus omega) | (focus (simp; done)) | (focus (simp; omega)) | (focus (simp at *; omega)))))
      rintro e w2 ⟨rfl, b2⟩
      have c2 : Below w1.heap.size w1 w2 := Below.trans (by (repeat (first | with_reducible exact Below.refl _ _ | with_reducible exact Nat.le_refl _ | with_reducible assumption | with_reducible refine Below.drew ?_ | with_reducible refine below_drewN ?_ _ | with_reducible refine Below.alloc ?_ ?_ _ | with_reducible refine Below.setCell ?_ ?_ _ | with_reducible exact And.right (by assumption) | with_reducible refine Below.trans ?_ (Below.mono (by assumption) ?_) | with_reducible exact Below.size (And.right (by assumption)) | (focus omega) | (focus (simp; done)) | (focus (simp; omega)) | (focus (simp at *; omega))))) (b2.mono (by first | exact Nat.le_refl _ | omega | (simp; done) | (simp; omega)))
      have s2 := c2.size
      have bb2 := H_bb1.out.trans (c2.mono H_bb1.out.size)
      have k2 := H_k1.out.below c2
      have i2 := H_i1.out.below c2
      have H_b2 := Lib.hid b2; clear b2; have H_c2 := Lib.hid c2; clear c2; have H_bb2 := Lib.hid bb2; clear bb2; have H_k2 := Lib.hid k2; clear k2; have H_i2 := Lib.hid i2; clear i2
      clear y0 y1
      clear ly
      have y0 := (H_k2.out 0 _ rfl).at
      have y1 := (H_k2.out 1 _ rfl).at
      have ly := (H_k2.out 0 _ rfl).lt
      go_wp2_with fail
      (with_reducible refine (H_q2.out _ ?_).mono ?_)
      · exact H_i2.out.below (show Below w2.heap.size w2 _ by (repeat (first | with_reducible exact Below.refl _ _ | with_reducible exact Nat.le_refl _ | with_reducible assumption | with_reducible refine Below.drew ?_ | with_reducible refine below_drewN ?_ _ | with_reducible refine Below.alloc ?_ ?_ _ | with_reducible refine Below.setCell ?_ ?_ _ | with_reducible exact And.right (by assumption) | with_reducible refine Below.trans ?_ (Below.mono (by assumption) ?_) | with_reducible exact Below.size (And.right (by assumption)) | (focus omega) | (focus (simp; done)) | (focus (simp; omega)) | (focus (simp at *; omega)))))
      rintro e w3 ⟨rfl, b3⟩
      have c3 : Below w2.heap.size w2 w3 := Below.trans (by (repeat (first | with_reducible exact Below.refl _ _ | with_reducible exact Nat.le_refl _ | with_reducible assumption | with_reducible refine Below.drew ?_ | with_reducible refine below_drewN ?_ _ | with_reducible refine Below.alloc ?_ ?_ _ | with_reducible refine Below.setCell ?_ ?_ _ | with_reducible exact And.right (by assumption) | with_reducible refine Below.trans ?_ (Below.mono (by assumption) ?_) | with_reducible exact Below.size (And.right (by assumption)) | (focus omega) | (focus (simp; done)) | (focus (simp; omega)) | (focus (simp at *; omega))))) (b3.mono (by first | exact Nat.le_refl _ | omega | (simp; done) | (simp; omega)))
      have s3 := c3.size
      have bb3 := H_bb2.out.trans (c3.mono H_bb2.out.size)
      have k3 := H_k2.out.below c3
      have i3 := H_i2.out.below c3
      have H_b3 := Lib.hid b3; clear b3; have H_c3 := Lib.hid c3; clear c3; have H_bb3 := Lib.hid bb3; clear bb3; have H_k3 := Lib.hid k3; clear k3; have H_i3 := Lib.hid i3; clear i3
      have u3 : Blk w3 w2.heap.size #[.int .i64 V, .int .i64 t] := (blk_new rfl).below H_b3.out
      go_upto_region 6 with (fail)
      obtain ⟨w4, hw4⟩ : ∃ W, w3.alloc (.cells #[.int .i64 N, .int .i64 D] 40) = W := ⟨_, rfl⟩
      rw [hw4]
      have c4 : Below w3.heap.size w3 w4 := by rw [← hw4]; exact (Below.refl _ _).alloc (Nat.le_refl _) _
      have v4 : Blk w4 w3.heap.size #[.int .i64 N, .int .i64 D] := by rw [← hw4]; exact blk_new rfl
      have bb4 := H_bb3.out.trans (c4.mono H_bb3.out.size)
      have u4 := u3.below c4
      have k4 := H_k3.out.below c4
      clear y0 y1
      clear ly
      have H_hw4 := Lib.hid hw4; clear hw4; have H_c4 := Lib.hid c4; clear c4; have H_v4 := Lib.hid v4; clear v4; have H_bb4 := Lib.hid bb4; clear bb4; have H_u3 := Lib.hid u3; clear u3; have H_u4 := Lib.hid u4; clear u4; have H_k4 := Lib.hid k4; clear k4
      have y0 := (H_k4.out 0 _ rfl).at
      have y1 := (H_k4.out 1 _ rfl).at
      have u0 := (H_u4.out 0 _ rfl).at
      have u1 := (H_u4.out 1 _ rfl).at
      have v0 := (H_v4.out 0 _ rfl).at
      have v1 := (H_v4.out 1 _ rfl).at
      have ly := (H_k4.out 0 _ rfl).lt
      have lu := (H_u4.out 0 _ rfl).lt
      have lv := (H_v4.out 0 _ rfl).lt
      go_wp2_with fail
      go_ret
      exact ⟨rfl, H_bb4.out⟩
  · have f1 : decide (E < 0) = false := decide_eq_false hneg
    have f2 : decide (E ≤ D) = true := decide_eq_true (by omega)
    by_cases hlt : E < D
    · have f3 : decide (E < D) = true := decide_eq_true hlt
      have H_hw0 := Lib.hid hw0; clear hw0; have H_bb0 := Lib.hid bb0; clear bb0; have H_k0 := Lib.hid k0; clear k0; have H_t0 := Lib.hid t0; clear t0; have H_i0 := Lib.hid i0; clear i0; have H_qh := Lib.hid qh; clear qh; have H_q1 := Lib.hid q1; clear q1; have H_q2 := Lib.hid q2; clear q2; have H_hl := Lib.hid hl; clear hl; have H_ht := Lib.hid ht; clear ht; have H_hln := Lib.hid hln; clear hln; have H_eC := Lib.hid eC; clear eC; have H_hE := Lib.hid hE; clear hE; have H_hct := Lib.hid hct; clear hct; have H_hf := Lib.hid hf; clear hf; have H_hd := Lib.hid hd; clear hd; have H_hn := Lib.hid hn; clear hn; have H_ha := Lib.hid ha; clear ha; have H_n1 := Lib.hid n1; clear n1; have H_n2 := Lib.hid n2; clear n2; have H_n3 := Lib.hid n3; clear n3; have H_hmb := Lib.hid hmb; clear hmb; have H_hV := Lib.hid hV; clear hV; have H_tb := Lib.hid tb; clear tb; have H_ev := Lib.hid ev; clear ev; have H_hlt := Lib.hid hlt; clear hlt; have H_hneg := Lib.hid hneg; clear hneg
      go_enter Tryd.func4, Tryd.ntmps4
      go_upto_region 1 with (fail)
      rw [H_hw0.out]
      go_wp2_with fail
      (with_reducible refine (H_qh.out).mono ?_)
      rintro e w1 ⟨rfl, b1⟩
      have c1 : Below w0.heap.size w0 w1 := Below.trans (by (repeat (first | with_reducible exact Below.refl _ _ | with_reducible exact Nat.le_refl _ | with_reducible assumption | with_reducible refine Below.drew ?_ | with_reducible refine below_drewN ?_ _ | with_reducible refine Below.alloc ?_ ?_ _ | with_reducible refine Below.setCell ?_ ?_ _ | with_reducible exact And.right (by assumption) | with_reducible refine Below.trans ?_ (Below.mono (by assumption) ?_) | with_reducible exact Below.size (And.right (by assumption)) | (focus omega) | (focus (simp; done)) | (focus (simp; omega)) | (focus (simp at *; omega))))) (b1.mono (by first | exact Nat.le_refl _ | omega | (simp; done) | (simp; omega)))
      have s1 := c1.size
      have bb1 := H_bb0.out.trans (c1.mono H_bb0.out.size)
      have k1 := H_k0.out.below c1
      have i1 := H_i0.out.below c1
      have H_b1 := Lib.hid b1; clear b1; have H_c1 := Lib.hid c1; clear c1; have H_bb1 := Lib.hid bb1; clear bb1; have H_k1 := Lib.hid k1; clear k1; have H_i1 := Lib.hid i1; clear i1
      have y0 := (H_k1.out 0 _ rfl).at
      have y1 := (H_k1.out 1 _ rfl).at
      have ly := (H_k1.out 0 _ rfl).lt
      go_wp2_with fail
      (with_reducible refine (H_q1.out _ ?_).mono ?_)
      · exact H_i1.out.below (show Below w1.heap.size w1 _ by (repeat (first | with_reducible exact Below.refl _ _ | with_reducible exact Nat.le_refl _ | with_reducible assumption | with_reducible refine Below.drew ?_ | with_reducible refine below_drewN ?_ _ | with_reducible refine Below.alloc ?_ ?_ _ | with_reducible refine Below.setCell ?_ ?_ _ | with_reducible exact And.right (by assumption) | with_reducible refine Below.trans ?_ (Below.mono (by assumption) ?_) | with_reducible exact Below.size (And.right (by assumption)) | (focus omega) | (focus (simp; done)) | (focus (simp; omega)) | (focus (simp at *; omega)))))
      rintro e w2 ⟨rfl, b2⟩
      have c2 : Below w1.heap.size w1 w2 := Below.trans (by (repeat (first | with_reducible exact Below.refl _ _ | with_reducible exact Nat.le_refl _ | with_reducible assumption | with_reducible refine Below.drew ?_ | with_reducible refine below_drewN ?_ _ | with_reducible refine Below.alloc ?_ ?_ _ | with_reducible refine Below.setCell ?_ ?_ _ | with_reducible exact And.right (by assumption) | with_reducible refine Below.trans ?_ (Below.mono (by assumption) ?_) | with_reducible exact Below.size (And.right (by assumption)) | (focus omega) | (focus (simp; done)) | (focus (simp; omega)) | (focus (simp at *; omega))))) (b2.mono (by first | exact Nat.le_refl _ | omega | (simp; done) | (simp; omega)))
      have s2 := c2.size
      have bb2 := H_bb1.out.trans (c2.mono H_bb1.out.size)
      have k2 := H_k1.out.below c2
      have i2 := H_i1.out.below c2
      have H_b2 := Lib.hid b2; clear b2; have H_c2 := Lib.hid c2; clear c2; have H_bb2 := Lib.hid bb2; clear bb2; have H_k2 := Lib.hid k2; clear k2; have H_i2 := Lib.hid i2; clear i2
      clear y0 y1
      clear ly
      have y0 := (H_k2.out 0 _ rfl).at
      have y1 := (H_k2.out 1 _ rfl).at
      have ly := (H_k2.out 0 _ rfl).lt
      go_wp2_with fail
      (with_reducible refine (H_q2.out _ ?_).mono ?_)
      · exact H_i2.out.below (show Below w2.heap.size w2 _ by (repeat (first | with_reducible exact Below.refl _ _ | with_reducible exact Nat.le_refl _ | with_reducible assumption | with_reducible refine Below.drew ?_ | with_reducible refine below_drewN ?_ _ | with_reducible refine Below.alloc ?_ ?_ _ | with_reducible refine Below.setCell ?_ ?_ _ | with_reducible exact And.right (by assumption) | with_reducible refine Below.trans ?_ (Below.mono (by assumption) ?_) | with_reducible exact Below.size (And.right (by assumption)) | (focus omega) | (focus (simp; done)) | (focus (simp; omega)) | (focus (simp at *; omega)))))
      rintro e w3 ⟨rfl, b3⟩
      have c3 : Below w2.heap.size w2 w3 := Below.trans (by (repeat (first | with_reducible exact Below.refl _ _ | with_reducible exact Nat.le_refl _ | with_reducible assumption | with_reducible refine Below.drew ?_ | with_reducible refine below_drewN ?_ _ | with_reducible refine Below.alloc ?_ ?_ _ | with_reducible refine Below.setCell ?_ ?_ _ | with_reducible exact And.right (by assumption) | with_reducible refine Below.trans ?_ (Below.mono (by assumption) ?_) | with_reducible exact Below.size (And.right (by assumption)) | (focus omega) | (focus (simp; done)) | (focus (simp; omega)) | (focus (simp at *; omega))))) (b3.mono (by first | exact Nat.le_refl _ | omega | (simp; done) | (simp; omega)))
      have s3 := c3.size
      have bb3 := H_bb2.out.trans (c3.mono H_bb2.out.size)
      have k3 := H_k2.out.below c3
      have i3 := H_i2.out.below c3
      have H_b3 := Lib.hid b3; clear b3; have H_c3 := Lib.hid c3; clear c3; have H_bb3 := Lib.hid bb3; clear bb3; have H_k3 := Lib.hid k3; clear k3; have H_i3 := Lib.hid i3; clear i3
      have u3 : Blk w3 w2.heap.size #[.int .i64 V, .int .i64 t] := (blk_new rfl).below H_b3.out
      go_upto_region 6 with (fail)
      obtain ⟨w4, hw4⟩ : ∃ W, w3.alloc (.cells #[.int .i64 N, .int .i64 D] 40) = W := ⟨_, rfl⟩
      rw [hw4]
      have c4 : Below w3.heap.size w3 w4 := by rw [← hw4]; exact (Below.refl _ _).alloc (Nat.le_refl _) _
      have v4 : Blk w4 w3.heap.size #[.int .i64 N, .int .i64 D] := by rw [← hw4]; exact blk_new rfl
      have bb4 := H_bb3.out.trans (c4.mono H_bb3.out.size)
      have u4 := u3.below c4
      have k4 := H_k3.out.below c4
      clear y0 y1
      clear ly
      have H_hw4 := Lib.hid hw4; clear hw4; have H_c4 := Lib.hid c4; clear c4; have H_v4 := Lib.hid v4; clear v4; have H_bb4 := Lib.hid bb4; clear bb4; have H_u3 := Lib.hid u3; clear u3; have H_u4 := Lib.hid u4; clear u4; have H_k4 := Lib.hid k4; clear k4
      have y0 := (H_k4.out 0 _ rfl).at
      have y1 := (H_k4.out 1 _ rfl).at
      have u0 := (H_u4.out 0 _ rfl).at
      have u1 := (H_u4.out 1 _ rfl).at
      have v0 := (H_v4.out 0 _ rfl).at
      have v1 := (H_v4.out 1 _ rfl).at
      have ly := (H_k4.out 0 _ rfl).lt
      have lu := (H_u4.out 0 _ rfl).lt
      have lv := (H_v4.out 0 _ rfl).lt
      go_wp2_with fail
      go_ret
      exact ⟨rfl, H_bb4.out⟩
    · have f3 : decide (E < D) = false := decide_eq_false hlt
      have f4 := ev (by omega)
      have H_hw0 := Lib.hid hw0; clear hw0; have H_bb0 := Lib.hid bb0; clear bb0; have H_k0 := Lib.hid k0; clear k0; have H_t0 := Lib.hid t0; clear t0; have H_i0 := Lib.hid i0; clear i0; have H_qh := Lib.hid qh; clear qh; have H_q1 := Lib.hid q1; clear q1; have H_q2 := Lib.hid q2; clear q2; have H_hl := Lib.hid hl; clear hl; have H_ht := Lib.hid ht; clear ht; have H_hln := Lib.hid hln; clear hln; have H_eC := Lib.hid eC; clear eC; have H_hE := Lib.hid hE; clear hE; have H_hct := Lib.hid hct; clear hct; have H_hf := Lib.hid hf; clear hf; have H_hd := Lib.hid hd; clear hd; have H_hn := Lib.hid hn; clear hn; have H_ha := Lib.hid ha; clear ha; have H_n1 := Lib.hid n1; clear n1; have H_n2 := Lib.hid n2; clear n2; have H_n3 := Lib.hid n3; clear n3; have H_hmb := Lib.hid hmb; clear hmb; have H_hV := Lib.hid hV; clear hV; have H_tb := Lib.hid tb; clear tb; have H_ev := Lib.hid ev; clear ev; have H_hlt := Lib.hid hlt; clear hlt; have H_hneg := Lib.hid hneg; clear hneg
      go_enter Tryd.func4, Tryd.ntmps4
      go_upto_region 1 with (fail)
      rw [H_hw0.out]
      go_wp2_with fail
      (with_reducible refine (H_qh.out).mono ?_)
      rintro e w1 ⟨rfl, b1⟩
      have c1 : Below w0.heap.size w0 w1 := Below.trans (by (repeat (first | with_reducible exact Below.refl _ _ | with_reducible exact Nat.le_refl _ | with_reducible assumption | with_reducible refine Below.drew ?_ | with_reducible refine below_drewN ?_ _ | with_reducible refine Below.alloc ?_ ?_ _ | with_reducible refine Below.setCell ?_ ?_ _ | with_reducible exact And.right (by assumption) | with_reducible refine Below.trans ?_ (Below.mono (by assumption) ?_) | with_reducible exact Below.size (And.right (by assumption)) | (focus omega) | (focus (simp; done)) | (focus (simp; omega)) | (focus (simp at *; omega))))) (b1.mono (by first | exact Nat.le_refl _ | omega | (simp; done) | (simp; omega)))
      have s1 := c1.size
      have bb1 := H_bb0.out.trans (c1.mono H_bb0.out.size)
      have k1 := H_k0.out.below c1
      have i1 := H_i0.out.below c1
      have H_b1 := Lib.hid b1; clear b1; have H_c1 := Lib.hid c1; clear c1; have H_bb1 := Lib.hid bb1; clear bb1; have H_k1 := Lib.hid k1; clear k1; have H_i1 := Lib.hid i1; clear i1
      have y0 := (H_k1.out 0 _ rfl).at
      have y1 := (H_k1.out 1 _ rfl).at
      have ly := (H_k1.out 0 _ rfl).lt
      go_wp2_with fail
      (with_reducible refine (H_q1.out _ ?_).mono ?_)
      · exact H_i1.out.below (show Below w1.heap.size w1 _ by (repeat (first | with_reducible exact Below.refl _ _ | with_reducible exact Nat.le_refl _ | with_reducible assumption | with_reducible refine Below.drew ?_ | with_reducible refine below_drewN ?_ _ | with_reducible refine Below.alloc ?_ ?_ _ | with_reducible refine Below.setCell ?_ ?_ _ | with_reducible exact And.right (by assumption) | with_reducible refine Below.trans ?_ (Below.mono (by assumption) ?_) | with_reducible exact Below.size (And.right (by assumption)) | (focus omega) | (focus (simp; done)) | (focus (simp; omega)) | (focus (simp at *; omega)))))
      rintro e w2 ⟨rfl, b2⟩
      have c2 : Below w1.heap.size w1 w2 := Below.trans (by (repeat (first | with_reducible exact Below.refl _ _ | with_reducible exact Nat.le_refl _ | with_reducible assumption | with_reducible refine Below.drew ?_ | with_reducible refine below_drewN ?_ _ | with_reducible refine Below.alloc ?_ ?_ _ | with_reducible refine Below.setCell ?_ ?_ _ | with_reducible exact And.right (by assumption) | with_reducible refine Below.trans ?_ (Below.mono (by assumption) ?_) | with_reducible exact Below.size (And.right (by assumption)) | (focus omega) | (focus (simp; done)) | (focus (simp; omega)) | (focus (simp at *; omega))))) (b2.mono (by first | exact Nat.le_refl _ | omega | (simp; done) | (simp; omega)))
      have s2 := c2.size
      have bb2 := H_bb1.out.trans (c2.mono H_bb1.out.size)
      have k2 := H_k1.out.below c2
      have i2 := H_i1.out.below c2
      have H_b2 := Lib.hid b2; clear b2; have H_c2 := Lib.hid c2; clear c2; have H_bb2 := Lib.hid bb2; clear bb2; have H_k2 := Lib.hid k2; clear k2; have H_i2 := Lib.hid i2; clear i2
      clear y0 y1
      clear ly
      have y0 := (H_k2.out 0 _ rfl).at
      have y1 := (H_k2.out 1 _ rfl).at
      have ly := (H_k2.out 0 _ rfl).lt
      go_wp2_with fail
      (with_reducible refine (H_q2.out _ ?_).mono ?_)
      · exact H_i2.out.below (show Below w2.heap.size w2 _ by (repeat (first | with_reducible exact Below.refl _ _ | with_reducible exact Nat.le_refl _ | with_reducible assumption | with_reducible refine Below.drew ?_ | with_reducible refine below_drewN ?_ _ | with_reducible refine Below.alloc ?_ ?_ _ | with_reducible refine Below.setCell ?_ ?_ _ | with_reducible exact And.right (by assumption) | with_reducible refine Below.trans ?_ (Below.mono (by assumption) ?_) | with_reducible exact Below.size (And.right (by assumption)) | (focus omega) | (focus (simp; done)) | (focus (simp; omega)) | (focus (simp at *; omega)))))
      rintro e w3 ⟨rfl, b3⟩
      have c3 : Below w2.heap.size w2 w3 := Below.trans (by (repeat (first | with_reducible exact Below.refl _ _ | with_reducible exact Nat.le_refl _ | with_reducible assumption | with_reducible refine Below.drew ?_ | with_reducible refine below_drewN ?_ _ | with_reducible refine Below.alloc ?_ ?_ _ | with_reducible refine Below.setCell ?_ ?_ _ | with_reducible exact And.right (by assumption) | with_reducible refine Below.trans ?_ (Below.mono (by assumption) ?_) | with_reducible exact Below.size (And.right (by assumption)) | (focus omega) | (focus (simp; done)) | (focus (simp; omega)) | (focus (simp at *; omega))))) (b3.mono (by first | exact Nat.le_refl _ | omega | (simp; done) | (simp; omega)))
      have s3 := c3.size
      have bb3 := H_bb2.out.trans (c3.mono H_bb2.out.size)
      have k3 := H_k2.out.below c3
      have i3 := H_i2.out.below c3
      have H_b3 := Lib.hid b3; clear b3; have H_c3 := Lib.hid c3; clear c3; have H_bb3 := Lib.hid bb3; clear bb3; have H_k3 := Lib.hid k3; clear k3; have H_i3 := Lib.hid i3; clear i3
      have u3 : Blk w3 w2.heap.size #[.int .i64 V, .int .i64 t] := (blk_new rfl).below H_b3.out
      go_upto_region 6 with (fail)
      obtain ⟨w4, hw4⟩ : ∃ W, w3.alloc (.cells #[.int .i64 N, .int .i64 D] 40) = W := ⟨_, rfl⟩
      rw [hw4]
      have c4 : Below w3.heap.size w3 w4 := by rw [← hw4]; exact (Below.refl _ _).alloc (Nat.le_refl _) _
      have v4 : Blk w4 w3.heap.size #[.int .i64 N, .int .i64 D] := by rw [← hw4]; exact blk_new rfl
      have bb4 := H_bb3.out.trans (c4.mono H_bb3.out.size)
      have u4 := u3.below c4
      have k4 := H_k3.out.below c4
      clear y0 y1
      clear ly
      have H_hw4 := Lib.hid hw4; clear hw4; have H_c4 := Lib.hid c4; clear c4; have H_v4 := Lib.hid v4; clear v4; have H_bb4 := Lib.hid bb4; clear bb4; have H_u3 := Lib.hid u3; clear u3; have H_u4 := Lib.hid u4; clear u4; have H_k4 := Lib.hid k4; clear k4
      have y0 := (H_k4.out 0 _ rfl).at
      have y1 := (H_k4.out 1 _ rfl).at
      have u0 := (H_u4.out 0 _ rfl).at
      have u1 := (H_u4.out 1 _ rfl).at
      have v0 := (H_v4.out 0 _ rfl).at
      have v1 := (H_v4.out 1 _ rfl).at
      have ly := (H_k4.out 0 _ rfl).lt
      have lu := (H_u4.out 0 _ rfl).lt
      have lv := (H_v4.out 0 _ rfl).lt
      go_wp2_with fail
      go_ret
      exact ⟨rfl, H_bb4.out⟩
end Go.Proofs.YtaloadadecoogaaDoor

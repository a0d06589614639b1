/- Contracts of packages innkeeperref01 (Part) and innkeeperref06 (Amount, Currency, Valid). -/
import Derived.Test.YtaloadadecoogaaDoorMnN
namespace Go.Proofs.YtaloadadecoogaaDoor
set_option linter.unusedSimpArgs false
set_option linter.unusedVariables false
set_option maxRecDepth 100000
open Go.RowKit Go.Maps

set_option maxHeartbeats 4000000 in
theorem qpart_any (n N D : Int) (hn : -9223372036854775808 ≤ n ∧ n ≤ 9223372036854775807) (hN : -9223372036854775808 ≤ N ∧ N ≤ 9223372036854775807) (hD : -9223372036854775808 ≤ D ∧ D ≤ 9223372036854775807) (w : World) :
    Calls Tryd.prog 29 #[.int .i64 n, .agg #[.int .i64 N, .int .i64 D], .int .i64 3] w fun e w' => e = .returned (.tuple #[.int .i64 (ptV n N D), .int .i64 (ptE n N D)]) ∧ Below w.heap.size w w' := by
  obtain ⟨w0, hw0⟩ : ∃ W, w.alloc (.cells #[.int .i64 N, .int .i64 D] 40) = W := ⟨_, rfl⟩
  have bb0 : Below w.heap.size w w0 := by rw [← hw0]; exact (Below.refl _ _).alloc (Nat.le_refl _) _
  have k0 : Blk w0 w.heap.size #[.int .i64 N, .int .i64 D] := by rw [← hw0]; exact blk_new rfl
  have y0 := (k0 0 _ rfl).at
  have y1 := (k0 1 _ rfl).at
  have ly := (k0 0 _ rfl).lt
  have q2 := fun W => qrat_any N D hN hD W
  by_cases h1 : n < -1000000000
  · have i1 : decide (n < -1000000000) = true := decide_eq_true h1
    have e2 : ptE n N D = 1 := by rw [ptE, if_neg (by rw [amtB_iff]; omega)]
    have e1 : ptV n N D = 0 := by rw [ptV, e2, if_neg (by omega)]
    have H_hw0 := Lib.hid hw0; clear hw0; have H_bb0 := Lib.hid bb0; clear bb0; have H_k0 := Lib.hid k0; clear k0; have H_q2 := Lib.hid q2; clear q2; have H_hn := Lib.hid hn; clear hn; have H_hN := Lib.hid hN; clear hN; have H_hD := Lib.hid hD; clear hD; have H_e1 := Lib.hid e1; clear e1; have H_e2 := Lib.hid e2; clear e2
    go_enter Tryd.func29, Tryd.ntmps29
    go_wp2_with fail
    rw [H_hw0.out]
    go_wp2_with fail
    (with_reducible refine (H_q2.out _).mono ?_)
    rintro e w2 ⟨rfl, b2⟩
    have c2 : Below w0.heap.size w0 w2 := Below.trans (by (repeat (first | with_reducible exact Below.refl _ _ | with_reducible exact Nat.le_refl _ | with_reducible assumption | with_reducible refine Below.drew ?_ | with_reducible refine below_drewN ?_ _ | with_reducible refine Below.alloc ?_ ?_ _ | with_reducible refine Below.setCell ?_ ?_ _ | with_reducible exact And.right (by assumption) | with_reducible refine Below.trans ?_ (Below.mono (by assumption) ?_) | with_reducible exact Below.size (And.right (by assumption)) | (focus omega) | (focus (simp; done)) | (focus (simp; omega)) | (focus (simp at *; omega))))) (b2.mono (by first | exact Nat.le_refl _ | omega | (simp; done) | (simp; omega)))
    have s2 := c2.size
    have bb2 := H_bb0.out.trans (c2.mono H_bb0.out.size)
    have k2 := H_k0.out.below c2
    have H_b2 := Lib.hid b2; clear b2; have H_c2 := Lib.hid c2; clear c2; have H_bb2 := Lib.hid bb2; clear bb2; have H_k2 := Lib.hid k2; clear k2
    clear y0 y1 ly
    go_wp2_with fail
    go_ret2
    exact ⟨by rw [H_e1.out, H_e2.out]; rfl, H_bb2.out⟩
  have i1 : decide (n < -1000000000) = false := decide_eq_false h1
  by_cases h2 : 1000000000 < n
  · have i2 : decide (1000000000 < n) = true := decide_eq_true h2
    have e2 : ptE n N D = 1 := by rw [ptE, if_neg (by rw [amtB_iff]; omega)]
    have e1 : ptV n N D = 0 := by rw [ptV, e2, if_neg (by omega)]
    have H_hw0 := Lib.hid hw0; clear hw0; have H_bb0 := Lib.hid bb0; clear bb0; have H_k0 := Lib.hid k0; clear k0; have H_q2 := Lib.hid q2; clear q2; have H_hn := Lib.hid hn; clear hn; have H_hN := Lib.hid hN; clear hN; have H_hD := Lib.hid hD; clear hD; have H_e1 := Lib.hid e1; clear e1; have H_e2 := Lib.hid e2; clear e2
    go_enter Tryd.func29, Tryd.ntmps29
    go_wp2_with fail
    rw [H_hw0.out]
    go_wp2_with fail
    (with_reducible refine (H_q2.out _).mono ?_)
    rintro e w2 ⟨rfl, b2⟩
    have c2 : Below w0.heap.size w0 w2 := Below.trans (by (repeat (first | with_reducible exact Below.refl _ _ | with_reducible exact Nat.le_refl _ | with_reducible assumption | with_reducible refine Below.drew ?_ | with_reducible refine below_drewN ?_ _ | with_reducible refine Below.alloc ?_ ?_ _ | with_reducible refine Below.setCell ?_ ?_ _ | with_reducible exact And.right (by assumption) | with_reducible refine Below.trans ?_ (Below.mono (by assumption) ?_) | with_reducible exact Below.size (And.right (by assumption)) | (focus omega) | (focus (simp; done)) | (focus (simp; omega)) | (focus (simp at *; omega))))) (b2.mono (by first | exact Nat.le_refl _ | omega | (simp; done) | (simp; omega)))
    have s2 := c2.size
    have bb2 := H_bb0.out.trans (c2.mono H_bb0.out.size)
    have k2 := H_k0.out.below c2
    have H_b2 := Lib.hid b2; clear b2; have H_c2 := Lib.hid c2; clear c2; have H_bb2 := Lib.hid bb2; clear bb2; have H_k2 := Lib.hid k2; clear k2
    clear y0 y1 ly
    go_wp2_with fail
    go_ret2
    exact ⟨by rw [H_e1.out, H_e2.out]; rfl, H_bb2.out⟩
  have i2 : decide (1000000000 < n) = false := decide_eq_false h2
  by_cases hv : ratB N D = true
  rotate_left
  · have hv := Bool.eq_false_iff.2 hv
    rw [hv] at q2
    have e2 : ptE n N D = 1 := by rw [ptE, if_neg (by simp [hv])]
    have e1 : ptV n N D = 0 := by rw [ptV, e2, if_neg (by omega)]
    have H_hw0 := Lib.hid hw0; clear hw0; have H_bb0 := Lib.hid bb0; clear bb0; have H_k0 := Lib.hid k0; clear k0; have H_q2 := Lib.hid q2; clear q2; have H_hn := Lib.hid hn; clear hn; have H_hN := Lib.hid hN; clear hN; have H_hD := Lib.hid hD; clear hD; have H_e1 := Lib.hid e1; clear e1; have H_e2 := Lib.hid e2; clear e2
    go_enter Tryd.func29, Tryd.ntmps29
    go_wp2_with fail
    rw [H_hw0.out]
    go_wp2_with fail
    (with_reducible refine (H_q2.out _).mono ?_)
    rintro e w2 ⟨rfl, b2⟩
    have c2 : Below w0.heap.size w0 w2 := Below.trans (by (repeat (first | with_reducible exact Below.refl _ _ | with_reducible exact Nat.le_refl _ | with_reducible assumption | with_reducible refine Below.drew ?_ | with_reducible refine below_drewN ?_ _ | with_reducible refine Below.alloc ?_ ?_ _ | with_reducible refine Below.setCell ?_ ?_ _ | with_reducible exact And.right (by assumption) | with_reducible refine Below.trans ?_ (Below.mono (by assumption) ?_) | with_reducible exact Below.size (And.right (by assumption)) | (focus omega) | (focus (simp; done)) | (focus (simp; omega)) | (focus (simp at *; omega))))) (b2.mono (by first | exact Nat.le_refl _ | omega | (simp; done) | (simp; omega)))
    have s2 := c2.size
    have bb2 := H_bb0.out.trans (c2.mono H_bb0.out.size)
    have k2 := H_k0.out.below c2
    have H_b2 := Lib.hid b2; clear b2; have H_c2 := Lib.hid c2; clear c2; have H_bb2 := Lib.hid bb2; clear bb2; have H_k2 := Lib.hid k2; clear k2
    clear y0 y1 ly
    go_wp2_with fail
    go_ret2
    exact ⟨by rw [H_e1.out, H_e2.out]; rfl, H_bb2.out⟩
  rw [hv] at q2
  have ha : amtB n = true := amtB_iff.2 (by omega)
  have hr := hv
  simp only [ratB, Bool.and_eq_true, amtB_iff, decide_eq_true_eq] at hr
  have hx : -1000000000000000000 ≤ n * N ∧ n * N ≤ 1000000000000000000 := by
    have h := Nat.mul_le_mul (show n.natAbs ≤ 1000000000 by omega) (show N.natAbs ≤ 1000000000 by omega)
    rw [← Int.natAbs_mul] at h
    omega
  have k1 : IntKind.i64.wrap (n * N) = n * N := IntWalk.i64_in _ (by omega)
  have q3 := fun W => qround_any (n * N) D hx (by omega) W
  have bR : -1000000000000000001 ≤ rdE (n * N) D ∧ rdE (n * N) D ≤ 1000000000000000001 := by
    have a := rdE_le (x := n * N) (d := D) (B := 1000000000000000000) (by omega) (by omega) (by omega)
    have b := rdE_ge (x := n * N) (d := D) (B := 1000000000000000000) (by omega) (by omega) (by omega)
    omega
  have eE : ptE n N D = if amtB (rdE (n * N) D) = true then 0 else 3 := by rw [ptE, if_pos ⟨hv, ha⟩]
  have eV : ptV n N D = if amtB (rdE (n * N) D) = true then rdE (n * N) D else 0 := by
    rw [ptV, eE]
    by_cases h : amtB (rdE (n * N) D) = true
    · rw [if_pos h, if_pos rfl, if_pos h]
    · rw [if_neg h, if_neg (by omega), if_neg h]
  rw [eE, eV]
  clear eE eV
  generalize rdE (n * N) D = R at *
  by_cases j1 : R < -1000000000
  · have i3 : decide (R < -1000000000) = true := decide_eq_true j1
    have hm : ¬ amtB R = true := by rw [amtB_iff]; omega
    rw [if_neg hm, if_neg hm]
    have H_hw0 := Lib.hid hw0; clear hw0; have H_bb0 := Lib.hid bb0; clear bb0; have H_k0 := Lib.hid k0; clear k0; have H_q2 := Lib.hid q2; clear q2; have H_hn := Lib.hid hn; clear hn; have H_hN := Lib.hid hN; clear hN; have H_hD := Lib.hid hD; clear hD; have H_hv := Lib.hid hv; clear hv; have H_hr := Lib.hid hr; clear hr; have H_hx := Lib.hid hx; clear hx; have H_bR := Lib.hid bR; clear bR; have H_h1 := Lib.hid h1; clear h1; have H_h2 := Lib.hid h2; clear h2; have H_ha := Lib.hid ha; clear ha; have H_q3 := Lib.hid q3; clear q3; have H_hm := Lib.hid hm; clear hm
    go_enter Tryd.func29, Tryd.ntmps29
    go_wp2_with fail
    rw [H_hw0.out]
    go_wp2_with fail
    (with_reducible refine (H_q2.out _).mono ?_)
    rintro e w2 ⟨rfl, b2⟩
    have c2 : Below w0.heap.size w0 w2 := Below.trans (by (repeat (first | with_reducible exact Below.refl _ _ | with_reducible exact Nat.le_refl _ | with_reducible assumption | with_reducible refine Below.drew ?_ | with_reducible refine below_drewN ?_ _ | with_reducible refine Below.alloc ?_ ?_ _ | with_reducible refine Below.setCell ?_ ?_ _ | with_reducible exact And.right (by assumption) | with_reducible refine Below.trans ?_ (Below.mono (by assumption) ?_) | with_reducible exact Below.size (And.right (by assumption)) | (focus omega) | (focus (simp; done)) | (focus (simp; omega)) | (focus (simp at *; omega))))) (b2.mono (by first | exact Nat.le_refl _ | omega | (simp; done) | (simp; omega)))
    have s2 := c2.size
    have bb2 := H_bb0.out.trans (c2.mono H_bb0.out.size)
    have k2 := H_k0.out.below c2
    have H_b2 := Lib.hid b2; clear b2; have H_c2 := Lib.hid c2; clear c2; have H_bb2 := Lib.hid bb2; clear bb2; have H_k2 := Lib.hid k2; clear k2
    clear y0 y1 ly
    have y0 := (H_k2.out 0 _ rfl).at
    have y1 := (H_k2.out 1 _ rfl).at
    go_wp2_with fail
    (with_reducible refine (H_q3.out _).mono ?_)
    rintro e w_ ⟨rfl, rfl⟩
    go_wp2_with fail
    go_ret2
    exact ⟨rfl, H_bb2.out⟩
  have i3 : decide (R < -1000000000) = false := decide_eq_false j1
  by_cases j2 : 1000000000 < R
  · have i4 : decide (1000000000 < R) = true := decide_eq_true j2
    have hm : ¬ amtB R = true := by rw [amtB_iff]; omega
    rw [if_neg hm, if_neg hm]
    have H_hw0 := Lib.hid hw0; clear hw0; have H_bb0 := Lib.hid bb0; clear bb0; have H_k0 := Lib.hid k0; clear k0; have H_q2 := Lib.hid q2; clear q2; have H_hn := Lib.hid hn; clear hn; have H_hN := Lib.hid hN; clear hN; have H_hD := Lib.hid hD; clear hD; have H_hv := Lib.hid hv; clear hv; have H_hr := Lib.hid hr; clear hr; have H_hx := Lib.hid hx; clear hx; have H_bR := Lib.hid bR; clear bR; have H_h1 := Lib.hid h1; clear h1; have H_h2 := Lib.hid h2; clear h2; have H_ha := Lib.hid ha; clear ha; have H_q3 := Lib.hid q3; clear q3; have H_hm := Lib.hid hm; clear hm
    go_enter Tryd.func29, Tryd.ntmps29
    go_wp2_with fail
    rw [H_hw0.out]
    go_wp2_with fail
    (with_reducible refine (H_q2.out _).mono ?_)
    rintro e w2 ⟨rfl, b2⟩
    have c2 : Below w0.heap.size w0 w2 := Below.trans (by (repeat (first | with_reducible exact Below.refl _ _ | with_reducible exact Nat.le_refl _ | with_reducible assumption | with_reducible refine Below.drew ?_ | with_reducible refine below_drewN ?_ _ | with_reducible refine Below.alloc ?_ ?_ _ | with_reducible refine Below.setCell ?_ ?_ _ | with_reducible exact And.right (by assumption) | with_reducible refine Below.trans ?_ (Below.mono (by assumption) ?_) | with_reducible exact Below.size (And.right (by assumption)) | (focus omega) | (focus (simp; done)) | (focus (simp; omega)) | (focus (simp at *; omega))))) (b2.mono (by first | exact Nat.le_refl _ | omega | (simp; done) | (simp; omega)))
    have s2 := c2.size
    have bb2 := H_bb0.out.trans (c2.mono H_bb0.out.size)
    have k2 := H_k0.out.below c2
    have H_b2 := Lib.hid b2; clear b2; have H_c2 := Lib.hid c2; clear c2; have H_bb2 := Lib.hid bb2; clear bb2; have H_k2 := Lib.hid k2; clear k2
    clear y0 y1 ly
    have y0 := (H_k2.out 0 _ rfl).at
    have y1 := (H_k2.out 1 _ rfl).at
    go_wp2_with fail
    (with_reducible refine (H_q3.out _).mono ?_)
    rintro e w_ ⟨rfl, rfl⟩
    go_wp2_with fail
    go_ret2
    exact ⟨rfl, H_bb2.out⟩
  have i4 : decide (1000000000 < R) = false := decide_eq_false j2
  have hm : amtB R = true := by rw [amtB_iff]; omega
  rw [if_pos hm, if_pos hm]
  have H_hw0 := Lib.hid hw0; clear hw0; have H_bb0 := Lib.hid bb0; clear bb0; have H_k0 := Lib.hid k0; clear k0; have H_q2 := Lib.hid q2; clear q2; have H_hn := Lib.hid hn; clear hn; have H_hN := Lib.hid hN; clear hN; have H_hD := Lib.hid hD; clear hD; have H_hv := Lib.hid hv; clear hv; have H_hr := Lib.hid hr; clear hr; have H_hx := Lib.hid hx; clear hx; have H_bR := Lib.hid bR; clear bR; have H_h1 := Lib.hid h1; clear h1; have H_h2 := Lib.hid h2; clear h2; have H_ha := Lib.hid ha; clear ha; have H_q3 := Lib.hid q3; clear q3; have H_hm := Lib.hid hm; clear hm
  go_enter Tryd.func29, Tryd.ntmps29
  go_wp2_with fail
  rw [H_hw0.out]
  go_wp2_with fail
  (with_reducible refine (H_q2.out _).mono ?_)
  rintro e w2 ⟨rfl, b2⟩
  have c2 : Below w0.heap.size w0 w2 := Below.trans (by (repeat (first | with_reducible exact Below.refl _ _ | with_reducible exact Nat.le_refl _ | with_reducible assumption | with_reducible refine Below.drew ?_ | with_reducible refine below_drewN ?_ _ | with_reducible refine Below.alloc ?_ ?_ _ | with_reducible refine Below.setCell ?_ ?_ _ | with_reducible exact And.right (by assumption) | with_reducible refine Below.trans ?_ (Below.mono (by assumption) ?_) | with_reducible exact Below.size (And.right (by assumption)) | (focus omega) | (focus (simp; done)) | (focus (simp; omega)) | (focus (simp at *; omega))))) (b2.mono (by first | exact Nat.le_refl _ | omega | (simp; done) | (simp; omega)))
  have s2 := c2.size
  have bb2 := H_bb0.out.trans (c2.mono H_bb0.out.size)
  have k2 := H_k0.out.below c2
  have H_b2 := Lib.hid b2; clear b2; have H_c2 := Lib.hid c2; clear c2; have H_bb2 := Lib.hid bb2; clear bb2; have H_k2 := Lib.hid k2; clear k2
  clear y0 y1 ly
  have y0 := (H_k2.out 0 _ rfl).at
  have y1 := (H_k2.out 1 _ rfl).at
  go_wp2_with fail
  (with_reducible refine (H_q3.out _).mono ?_)
  rintro e w_ ⟨rfl, rfl⟩
  go_wp2_with fail
  go_ret2
  exact ⟨rfl, H_bb2.out⟩
theorem ramount_any (n : Int) (w : World) : Calls Tryd.prog 22 #[.int .i64 n] w fun e w' => e = .returned (.bool (amtB n)) ∧ w = w' := by
  by_cases h1 : -1000000000 ≤ n
  · have i1 : decide (-1000000000 ≤ n) = true := decide_eq_true h1
    have e : amtB n = decide (n ≤ 1000000000) := by rw [amtB, i1, Bool.true_and]
    have H_e := Lib.hid e; clear e
    go_enter Tryd.func22, Tryd.ntmps22
    go_wp2_with fail
    go_ret
    exact ⟨ret_bool H_e.out.symm, rfl⟩
  · have i1 : decide (-1000000000 ≤ n) = false := decide_eq_false h1
    have e : amtB n = false := by rw [amtB, i1, Bool.false_and]
    have H_e := Lib.hid e; clear e
    go_enter Tryd.func22, Tryd.ntmps22
    go_wp2_with fail
    go_ret
    exact ⟨ret_bool H_e.out.symm, rfl⟩
theorem rcurrency_any (n : Int) (w : World) : Calls Tryd.prog 28 #[.int .i64 n] w fun e w' => e = .returned (.bool (curB n)) ∧ w = w' := by
  by_cases h1 : 1 ≤ n
  · have i1 : decide (1 ≤ n) = true := decide_eq_true h1
    have e : curB n = decide (n ≤ 9) := by rw [curB, i1, Bool.true_and]
    have H_e := Lib.hid e; clear e
    go_enter Tryd.func28, Tryd.ntmps28
    go_wp2_with fail
    go_ret
    exact ⟨ret_bool H_e.out.symm, rfl⟩
  · have i1 : decide (1 ≤ n) = false := decide_eq_false h1
    have e : curB n = false := by rw [curB, i1, Bool.false_and]
    have H_e := Lib.hid e; clear e
    go_enter Tryd.func28, Tryd.ntmps28
    go_wp2_with fail
    go_ret
    exact ⟨ret_bool H_e.out.symm, rfl⟩
end Go.Proofs.YtaloadadecoogaaDoor

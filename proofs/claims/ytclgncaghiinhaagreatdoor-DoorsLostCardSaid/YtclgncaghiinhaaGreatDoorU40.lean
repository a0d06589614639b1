/- Contracts of the reference of card. -/
import Derived.DeepKeys
import Derived.Test.YtclgncaghiinhaaGreatDoorU1
import Derived.Test.YtclgncaghiinhaaGreatDoorU10
import Derived.Test.YtclgncaghiinhaaGreatDoorU15
import Derived.Test.YtclgncaghiinhaaGreatDoorU36
set_option linter.unusedSimpArgs false
set_option linter.unusedVariables false
set_option maxRecDepth 100000
namespace Go.Proofs.YtclgncaghiinhaaGreatDoor
open Go.RowKit
section
open Go.RowKit Go.Maps
theorem rin_any (n lo hi : Int) (w : World) : Calls Tryz.prog 52 #[.int .i64 n, .int .i64 lo, .int .i64 hi] w fun e w' => e = .returned (.bool (wB n lo hi)) ∧ w = w' := by
 by_cases h1 : lo ≤ n
 ·by_cases h2 : n ≤ hi
  ·have e : wB n lo hi = true := by simp [wB, h1, h2]
   have He := Lib.hid e; clear e
   go_enter Tryz.func52, Tryz.ntmps52
   go_wp2
   go_ret
   exact ⟨ret_bool (by rw [He.out]), rfl⟩
  ·have e : wB n lo hi = false := by simp [wB, h2]
   have h3 : decide (n ≤ hi) = false := by simpa using h2
   have He := Lib.hid e; clear e
   go_enter Tryz.func52, Tryz.ntmps52
   go_wp2
   go_ret
   exact ⟨ret_bool (by rw [He.out]), rfl⟩
 ·have e : wB n lo hi = false := by simp [wB, h1]
  have h3 : decide (lo ≤ n) = false := by simpa using h1
  have He := Lib.hid e; clear e
  go_enter Tryz.func52, Tryz.ntmps52
  go_wp2
  go_ret
  exact ⟨ret_bool (by rw [He.out]), rfl⟩
set_option maxHeartbeats 8000000 in
theorem rvalid1 (c : Crd) (hc : CFit c) (hk : c.k = 1) (w : World) : Calls Tryz.prog 20 #[.agg c.cells.toArray] w fun e w' => e = .returned (.bool (cvB c)) ∧ Below w.heap.size w w' := by
 obtain ⟨w1, hw1⟩ : ∃ w1, w.alloc (.cells c.cells.toArray 28) = w1 := ⟨_, rfl⟩
 have q1 := rin_any c.i 1 1000000 w1
 have q2 := rExponent_any c.e w1
 have q3 := rExponent_any c.s w1
 have q4 := rin_any c.d 1 400 w1
 have q5 := rin_any c.n 1 1000000000 w1
 have q6 := rin_any c.l 0 0 w1
 rw [← hw1] at q1 q2 q3 q4 q5 q6
 clear hw1
 have x1 := @wB_iff c.i 1 1000000
 have x2 := @wthB_iff c.e 0
 have x3 := @wthB_iff c.s 0
 have x4 := @wB_iff c.d 1 400
 have x5 := @wB_iff c.n 1 1000000000
 have x6 := @wB_iff c.l 0 0
 generalize wB c.i 1 1000000 = b1 at *
 generalize wthB c.e 0 = b2 at *
 generalize wthB c.s 0 = b3 at *
 generalize wB c.d 1 400 = b4 at *
 generalize wB c.n 1 1000000000 = b5 at *
 generalize wB c.l 0 0 = b6 at *
 have m1 : (c.k == 1) = true := by simp [hk]
 have m2 : (c.k == 2) = false := by simp [hk]
 have m3 : (c.k == 3) = false := by simp [hk]
 unfold Crd.cells at q1 q2 q3 q4 q5 q6 ⊢
 have ⟨Hhk, Hhc⟩ := hid2 hk hc; clear hk hc
 cases b2
 rotate_left
 cases b3
 rotate_left
 cases b1
 rotate_left
 by_cases h1 : c.f < 0
 have dh1 : decide (c.f < 0) = true := decide_eq_true h1
 rotate_left
 have dh1 : decide (c.f < 0) = false := decide_eq_false h1
 by_cases h2 : c.u ≤ c.f
 have dh2 : decide (c.u ≤ c.f) = true := decide_eq_true h2
 rotate_left
 have dh2 : decide (c.u ≤ c.f) = false := decide_eq_false h2
 by_cases h3 : 1000000000 < c.u
 have dh3 : decide (1000000000 < c.u) = true := decide_eq_true h3
 rotate_left
 have dh3 : decide (1000000000 < c.u) = false := decide_eq_false h3
 cases b4
 rotate_left
 cases b5
 rotate_left
 ·by_cases hel : c.l = 0
  rotate_left
  ·have del : (c.l == 0) = false := by rw [beq_eq_false_iff_ne]; exact hel
   have ⟨Hq1, Hq2, Hq3, Hq4, Hq5, Hq6, Hx1, Hx2⟩ := hid8 q1 q2 q3 q4 q5 q6 x1 x2; clear q1 q2 q3 q4 q5 q6 x1 x2; have ⟨Hx3, Hx4, Hx5, Hx6⟩ := hid4 x3 x4 x5 x6; clear x3 x4 x5 x6
   go_enter Tryz.func20, Tryz.ntmps20
   go_wp2_with (first | (go_at_call 52; ((with_reducible refine (Hq1.out).mono ?_); rintro e w_ ⟨rfl, rfl⟩)) | (go_at_call 52; ((with_reducible refine (Hq4.out).mono ?_); rintro e w_ ⟨rfl, rfl⟩)) | (go_at_call 52; ((with_reducible refine (Hq5.out).mono ?_); rintro e w_ ⟨rfl, rfl⟩)) | (go_at_call 52; ((with_reducible refine (Hq6.out).mono ?_); rintro e w_ ⟨rfl, rfl⟩)) | (go_at_call 51; ((with_reducible refine (Hq2.out).mono ?_); rintro e w_ ⟨rfl, rfl⟩)) | (go_at_call 51; ((with_reducible refine (Hq3.out).mono ?_); rintro e w_ ⟨rfl, rfl⟩)))
   go_ret
   refine ⟨ret_bool ?_, (Below.refl _ _).alloc (Nat.le_refl _) _⟩
   have x1 := Hx1.out; have x2 := Hx2.out; have x3 := Hx3.out; have x4 := Hx4.out; have x5 := Hx5.out; have x6 := Hx6.out
   have hk := Hhk.out
   clear Hx1 Hx2 Hx3 Hx4 Hx5 Hx6 Hq1 Hq2 Hq3 Hq4 Hq5 Hq6
   try simp at x1 x2 x3 x4 x5 x6
   first | (symm; rw [cvB_no]; unfold baseP kindP; rintro ⟨h1, h2⟩; omega) | (symm; rw [cvB_iff]; unfold baseP kindP; omega)
  have del : (c.l == 0) = true := by rw [hel]; rfl
  have Hhel := Lib.hid hel; clear hel
  have ⟨Hq1, Hq2, Hq3, Hq4, Hq5, Hq6, Hx1, Hx2⟩ := hid8 q1 q2 q3 q4 q5 q6 x1 x2; clear q1 q2 q3 q4 q5 q6 x1 x2; have ⟨Hx3, Hx4, Hx5, Hx6⟩ := hid4 x3 x4 x5 x6; clear x3 x4 x5 x6
  go_enter Tryz.func20, Tryz.ntmps20
  go_wp2_with (first | (go_at_call 52; ((with_reducible refine (Hq1.out).mono ?_); rintro e w_ ⟨rfl, rfl⟩)) | (go_at_call 52; ((with_reducible refine (Hq4.out).mono ?_); rintro e w_ ⟨rfl, rfl⟩)) | (go_at_call 52; ((with_reducible refine (Hq5.out).mono ?_); rintro e w_ ⟨rfl, rfl⟩)) | (go_at_call 52; ((with_reducible refine (Hq6.out).mono ?_); rintro e w_ ⟨rfl, rfl⟩)) | (go_at_call 51; ((with_reducible refine (Hq2.out).mono ?_); rintro e w_ ⟨rfl, rfl⟩)) | (go_at_call 51; ((with_reducible refine (Hq3.out).mono ?_); rintro e w_ ⟨rfl, rfl⟩)))
  go_ret
  refine ⟨ret_bool ?_, (Below.refl _ _).alloc (Nat.le_refl _) _⟩
  have x1 := Hx1.out; have x2 := Hx2.out; have x3 := Hx3.out; have x4 := Hx4.out; have x5 := Hx5.out; have x6 := Hx6.out
  have hel := Hhel.out
  have hk := Hhk.out
  clear Hx1 Hx2 Hx3 Hx4 Hx5 Hx6 Hq1 Hq2 Hq3 Hq4 Hq5 Hq6
  try simp at x1 x2 x3 x4 x5 x6
  first | (symm; rw [cvB_no]; unfold baseP kindP; rintro ⟨h1, h2⟩; omega) | (symm; rw [cvB_iff]; unfold baseP kindP; omega)
 all_goals
  have ⟨Hq1, Hq2, Hq3, Hq4, Hq5, Hq6, Hx1, Hx2⟩ := hid8 q1 q2 q3 q4 q5 q6 x1 x2; clear q1 q2 q3 q4 q5 q6 x1 x2; have ⟨Hx3, Hx4, Hx5, Hx6⟩ := hid4 x3 x4 x5 x6; clear x3 x4 x5 x6
  go_enter Tryz.func20, Tryz.ntmps20
  go_wp2_with (first | (go_at_call 52; ((with_reducible refine (Hq1.out).mono ?_); rintro e w_ ⟨rfl, rfl⟩)) | (go_at_call 52; ((with_reducible refine (Hq4.out).mono ?_); rintro e w_ ⟨rfl, rfl⟩)) | (go_at_call 52; ((with_reducible refine (Hq5.out).mono ?_); rintro e w_ ⟨rfl, rfl⟩)) | (go_at_call 52; ((with_reducible refine (Hq6.out).mono ?_); rintro e w_ ⟨rfl, rfl⟩)) | (go_at_call 51; ((with_reducible refine (Hq2.out).mono ?_); rintro e w_ ⟨rfl, rfl⟩)) | (go_at_call 51; ((with_reducible refine (Hq3.out).mono ?_); rintro e w_ ⟨rfl, rfl⟩)))
  go_ret
  refine ⟨ret_bool ?_, (Below.refl _ _).alloc (Nat.le_refl _) _⟩
  have x1 := Hx1.out; have x2 := Hx2.out; have x3 := Hx3.out; have x4 := Hx4.out; have x5 := Hx5.out; have x6 := Hx6.out
  have hk := Hhk.out
  clear Hx1 Hx2 Hx3 Hx4 Hx5 Hx6 Hq1 Hq2 Hq3 Hq4 Hq5 Hq6
  try simp at x1 x2 x3 x4 x5 x6
  first | (symm; rw [cvB_no]; unfold baseP kindP; rintro ⟨h1, h2⟩; omega) | (symm; rw [cvB_iff]; unfold baseP kindP; omega)
set_option maxHeartbeats 8000000 in
theorem rvalid2 (c : Crd) (hc : CFit c) (hk : c.k = 2) (w : World) : Calls Tryz.prog 20 #[.agg c.cells.toArray] w fun e w' => e = .returned (.bool (cvB c)) ∧ Below w.heap.size w w' := by
 obtain ⟨w1, hw1⟩ : ∃ w1, w.alloc (.cells c.cells.toArray 28) = w1 := ⟨_, rfl⟩
 have q1 := rin_any c.i 1 1000000 w1
 have q2 := rExponent_any c.e w1
 have q3 := rExponent_any c.s w1
 have q4 := rin_any c.d 0 400 w1
 have q5 := rin_any c.n 0 0 w1
 have q6 := rin_any c.l 0 0 w1
 rw [← hw1] at q1 q2 q3 q4 q5 q6
 clear hw1
 have x1 := @wB_iff c.i 1 1000000
 have x2 := @wthB_iff c.e 0
 have x3 := @wthB_iff c.s 0
 have x4 := @wB_iff c.d 0 400
 have x5 := @wB_iff c.n 0 0
 have x6 := @wB_iff c.l 0 0
 generalize wB c.i 1 1000000 = b1 at *
 generalize wthB c.e 0 = b2 at *
 generalize wthB c.s 0 = b3 at *
 generalize wB c.d 0 400 = b4 at *
 generalize wB c.n 0 0 = b5 at *
 generalize wB c.l 0 0 = b6 at *
 have m1 : (c.k == 1) = false := by simp [hk]
 have m2 : (c.k == 2) = true := by simp [hk]
 have m3 : (c.k == 3) = false := by simp [hk]
 unfold Crd.cells at q1 q2 q3 q4 q5 q6 ⊢
 have ⟨Hhk, Hhc⟩ := hid2 hk hc; clear hk hc
 cases b2
 rotate_left
 cases b3
 rotate_left
 cases b1
 rotate_left
 by_cases h1 : c.f < 0
 have dh1 : decide (c.f < 0) = true := decide_eq_true h1
 rotate_left
 have dh1 : decide (c.f < 0) = false := decide_eq_false h1
 by_cases h2 : c.u ≤ c.f
 have dh2 : decide (c.u ≤ c.f) = true := decide_eq_true h2
 rotate_left
 have dh2 : decide (c.u ≤ c.f) = false := decide_eq_false h2
 by_cases h3 : 1000000000 < c.u
 have dh3 : decide (1000000000 < c.u) = true := decide_eq_true h3
 rotate_left
 have dh3 : decide (1000000000 < c.u) = false := decide_eq_false h3
 cases b4
 rotate_left
 ·by_cases hen : c.n = 0
  rotate_left
  ·have den : (c.n == 0) = false := by rw [beq_eq_false_iff_ne]; exact hen
   have ⟨Hq1, Hq2, Hq3, Hq4, Hq5, Hq6, Hx1, Hx2⟩ := hid8 q1 q2 q3 q4 q5 q6 x1 x2; clear q1 q2 q3 q4 q5 q6 x1 x2; have ⟨Hx3, Hx4, Hx5, Hx6⟩ := hid4 x3 x4 x5 x6; clear x3 x4 x5 x6
   go_enter Tryz.func20, Tryz.ntmps20
   go_wp2_with (first | (go_at_call 52; ((with_reducible refine (Hq1.out).mono ?_); rintro e w_ ⟨rfl, rfl⟩)) | (go_at_call 52; ((with_reducible refine (Hq4.out).mono ?_); rintro e w_ ⟨rfl, rfl⟩)) | (go_at_call 52; ((with_reducible refine (Hq5.out).mono ?_); rintro e w_ ⟨rfl, rfl⟩)) | (go_at_call 52; ((with_reducible refine (Hq6.out).mono ?_); rintro e w_ ⟨rfl, rfl⟩)) | (go_at_call 51; ((with_reducible refine (Hq2.out).mono ?_); rintro e w_ ⟨rfl, rfl⟩)) | (go_at_call 51; ((with_reducible refine (Hq3.out).mono ?_); rintro e w_ ⟨rfl, rfl⟩)))
   go_ret
   refine ⟨ret_bool ?_, (Below.refl _ _).alloc (Nat.le_refl _) _⟩
   have x1 := Hx1.out; have x2 := Hx2.out; have x3 := Hx3.out; have x4 := Hx4.out; have x5 := Hx5.out; have x6 := Hx6.out
   have hk := Hhk.out
   clear Hx1 Hx2 Hx3 Hx4 Hx5 Hx6 Hq1 Hq2 Hq3 Hq4 Hq5 Hq6
   try simp at x1 x2 x3 x4 x5 x6
   first | (symm; rw [cvB_no]; unfold baseP kindP; rintro ⟨h1, h2⟩; omega) | (symm; rw [cvB_iff]; unfold baseP kindP; omega)
  have den : (c.n == 0) = true := by rw [hen]; rfl
  have Hhen := Lib.hid hen; clear hen
  by_cases hel : c.l = 0
  rotate_left
  ·have del : (c.l == 0) = false := by rw [beq_eq_false_iff_ne]; exact hel
   have ⟨Hq1, Hq2, Hq3, Hq4, Hq5, Hq6, Hx1, Hx2⟩ := hid8 q1 q2 q3 q4 q5 q6 x1 x2; clear q1 q2 q3 q4 q5 q6 x1 x2; have ⟨Hx3, Hx4, Hx5, Hx6⟩ := hid4 x3 x4 x5 x6; clear x3 x4 x5 x6
   go_enter Tryz.func20, Tryz.ntmps20
   go_wp2_with (first | (go_at_call 52; ((with_reducible refine (Hq1.out).mono ?_); rintro e w_ ⟨rfl, rfl⟩)) | (go_at_call 52; ((with_reducible refine (Hq4.out).mono ?_); rintro e w_ ⟨rfl, rfl⟩)) | (go_at_call 52; ((with_reducible refine (Hq5.out).mono ?_); rintro e w_ ⟨rfl, rfl⟩)) | (go_at_call 52; ((with_reducible refine (Hq6.out).mono ?_); rintro e w_ ⟨rfl, rfl⟩)) | (go_at_call 51; ((with_reducible refine (Hq2.out).mono ?_); rintro e w_ ⟨rfl, rfl⟩)) | (go_at_call 51; ((with_reducible refine (Hq3.out).mono ?_); rintro e w_ ⟨rfl, rfl⟩)))
   go_ret
   refine ⟨ret_bool ?_, (Below.refl _ _).alloc (Nat.le_refl _) _⟩
   have x1 := Hx1.out; have x2 := Hx2.out; have x3 := Hx3.out; have x4 := Hx4.out; have x5 := Hx5.out; have x6 := Hx6.out
   have hk := Hhk.out
   clear Hx1 Hx2 Hx3 Hx4 Hx5 Hx6 Hq1 Hq2 Hq3 Hq4 Hq5 Hq6
   try simp at x1 x2 x3 x4 x5 x6
   first | (symm; rw [cvB_no]; unfold baseP kindP; rintro ⟨h1, h2⟩; omega) | (symm; rw [cvB_iff]; unfold baseP kindP; omega)
  have del : (c.l == 0) = true := by rw [hel]; rfl
  have Hhel := Lib.hid hel; clear hel
  have ⟨Hq1, Hq2, Hq3, Hq4, Hq5, Hq6, Hx1, Hx2⟩ := hid8 q1 q2 q3 q4 q5 q6 x1 x2; clear q1 q2 q3 q4 q5 q6 x1 x2; have ⟨Hx3, Hx4, Hx5, Hx6⟩ := hid4 x3 x4 x5 x6; clear x3 x4 x5 x6
  go_enter Tryz.func20, Tryz.ntmps20
  go_wp2_with (first | (go_at_call 52; ((with_reducible refine (Hq1.out).mono ?_); rintro e w_ ⟨rfl, rfl⟩)) | (go_at_call 52; ((with_reducible refine (Hq4.out).mono ?_); rintro e w_ ⟨rfl, rfl⟩)) | (go_at_call 52; ((with_reducible refine (Hq5.out).mono ?_); rintro e w_ ⟨rfl, rfl⟩)) | (go_at_call 52; ((with_reducible refine (Hq6.out).mono ?_); rintro e w_ ⟨rfl, rfl⟩)) | (go_at_call 51; ((with_reducible refine (Hq2.out).mono ?_); rintro e w_ ⟨rfl, rfl⟩)) | (go_at_call 51; ((with_reducible refine (Hq3.out).mono ?_); rintro e w_ ⟨rfl, rfl⟩)))
  go_ret
  refine ⟨ret_bool ?_, (Below.refl _ _).alloc (Nat.le_refl _) _⟩
  have x1 := Hx1.out; have x2 := Hx2.out; have x3 := Hx3.out; have x4 := Hx4.out; have x5 := Hx5.out; have x6 := Hx6.out
  have hen := Hhen.out; have hel := Hhel.out
  have hk := Hhk.out
  clear Hx1 Hx2 Hx3 Hx4 Hx5 Hx6 Hq1 Hq2 Hq3 Hq4 Hq5 Hq6
  try simp at x1 x2 x3 x4 x5 x6
  first | (symm; rw [cvB_no]; unfold baseP kindP; rintro ⟨h1, h2⟩; omega) | (symm; rw [cvB_iff]; unfold baseP kindP; omega)
 all_goals
  have ⟨Hq1, Hq2, Hq3, Hq4, Hq5, Hq6, Hx1, Hx2⟩ := hid8 q1 q2 q3 q4 q5 q6 x1 x2; clear q1 q2 q3 q4 q5 q6 x1 x2; have ⟨Hx3, Hx4, Hx5, Hx6⟩ := hid4 x3 x4 x5 x6; clear x3 x4 x5 x6
  go_enter Tryz.func20, Tryz.ntmps20
  go_wp2_with (first | (go_at_call 52; ((with_reducible refine (Hq1.out).mono ?_); rintro e w_ ⟨rfl, rfl⟩)) | (go_at_call 52; ((with_reducible refine (Hq4.out).mono ?_); rintro e w_ ⟨rfl, rfl⟩)) | (go_at_call 52; ((with_reducible refine (Hq5.out).mono ?_); rintro e w_ ⟨rfl, rfl⟩)) | (go_at_call 52; ((with_reducible refine (Hq6.out).mono ?_); rintro e w_ ⟨rfl, rfl⟩)) | (go_at_call 51; ((with_reducible refine (Hq2.out).mono ?_); rintro e w_ ⟨rfl, rfl⟩)) | (go_at_call 51; ((with_reducible refine (Hq3.out).mono ?_); rintro e w_ ⟨rfl, rfl⟩)))
  go_ret
  refine ⟨ret_bool ?_, (Below.refl _ _).alloc (Nat.le_refl _) _⟩
  have x1 := Hx1.out; have x2 := Hx2.out; have x3 := Hx3.out; have x4 := Hx4.out; have x5 := Hx5.out; have x6 := Hx6.out
  have hk := Hhk.out
  clear Hx1 Hx2 Hx3 Hx4 Hx5 Hx6 Hq1 Hq2 Hq3 Hq4 Hq5 Hq6
  try simp at x1 x2 x3 x4 x5 x6
  first | (symm; rw [cvB_no]; unfold baseP kindP; rintro ⟨h1, h2⟩; omega) | (symm; rw [cvB_iff]; unfold baseP kindP; omega)
set_option maxHeartbeats 8000000 in
theorem rvalid3 (c : Crd) (hc : CFit c) (hk : c.k = 3) (w : World) : Calls Tryz.prog 20 #[.agg c.cells.toArray] w fun e w' => e = .returned (.bool (cvB c)) ∧ Below w.heap.size w w' := by
 obtain ⟨w1, hw1⟩ : ∃ w1, w.alloc (.cells c.cells.toArray 28) = w1 := ⟨_, rfl⟩
 have q1 := rin_any c.i 1 1000000 w1
 have q2 := rExponent_any c.e w1
 have q3 := rExponent_any c.s w1
 have q4 := rin_any c.d 0 400 w1
 have q5 := rin_any c.n 0 0 w1
 have q6 := rin_any c.l 1 1000000 w1
 rw [← hw1] at q1 q2 q3 q4 q5 q6
 clear hw1
 have x1 := @wB_iff c.i 1 1000000
 have x2 := @wthB_iff c.e 0
 have x3 := @wthB_iff c.s 0
 have x4 := @wB_iff c.d 0 400
 have x5 := @wB_iff c.n 0 0
 have x6 := @wB_iff c.l 1 1000000
 generalize wB c.i 1 1000000 = b1 at *
 generalize wthB c.e 0 = b2 at *
 generalize wthB c.s 0 = b3 at *
 generalize wB c.d 0 400 = b4 at *
 generalize wB c.n 0 0 = b5 at *
 generalize wB c.l 1 1000000 = b6 at *
 have m1 : (c.k == 1) = false := by simp [hk]
 have m2 : (c.k == 2) = false := by simp [hk]
 have m3 : (c.k == 3) = true := by simp [hk]
 unfold Crd.cells at q1 q2 q3 q4 q5 q6 ⊢
 have ⟨Hhk, Hhc⟩ := hid2 hk hc; clear hk hc
 cases b2
 rotate_left
 cases b3
 rotate_left
 cases b1
 rotate_left
 by_cases h1 : c.f < 0
 have dh1 : decide (c.f < 0) = true := decide_eq_true h1
 rotate_left
 have dh1 : decide (c.f < 0) = false := decide_eq_false h1
 by_cases h2 : c.u ≤ c.f
 have dh2 : decide (c.u ≤ c.f) = true := decide_eq_true h2
 rotate_left
 have dh2 : decide (c.u ≤ c.f) = false := decide_eq_false h2
 by_cases h3 : 1000000000 < c.u
 have dh3 : decide (1000000000 < c.u) = true := decide_eq_true h3
 rotate_left
 have dh3 : decide (1000000000 < c.u) = false := decide_eq_false h3
 cases b4
 rotate_left
 ·by_cases hen : c.n = 0
  rotate_left
  ·have den : (c.n == 0) = false := by rw [beq_eq_false_iff_ne]; exact hen
   have ⟨Hq1, Hq2, Hq3, Hq4, Hq5, Hq6, Hx1, Hx2⟩ := hid8 q1 q2 q3 q4 q5 q6 x1 x2; clear q1 q2 q3 q4 q5 q6 x1 x2; have ⟨Hx3, Hx4, Hx5, Hx6⟩ := hid4 x3 x4 x5 x6; clear x3 x4 x5 x6
   go_enter Tryz.func20, Tryz.ntmps20
   go_wp2_with (first | (go_at_call 52; ((with_reducible refine (Hq1.out).mono ?_); rintro e w_ ⟨rfl, rfl⟩)) | (go_at_call 52; ((with_reducible refine (Hq4.out).mono ?_); rintro e w_ ⟨rfl, rfl⟩)) | (go_at_call 52; ((with_reducible refine (Hq5.out).mono ?_); rintro e w_ ⟨rfl, rfl⟩)) | (go_at_call 52; ((with_reducible refine (Hq6.out).mono ?_); rintro e w_ ⟨rfl, rfl⟩)) | (go_at_call 51; ((with_reducible refine (Hq2.out).mono ?_); rintro e w_ ⟨rfl, rfl⟩)) | (go_at_call 51; ((with_reducible refine (Hq3.out).mono ?_); rintro e w_ ⟨rfl, rfl⟩)))
   go_ret
   refine ⟨ret_bool ?_, (Below.refl _ _).alloc (Nat.le_refl _) _⟩
   have x1 := Hx1.out; have x2 := Hx2.out; have x3 := Hx3.out; have x4 := Hx4.out; have x5 := Hx5.out; have x6 := Hx6.out
   have hk := Hhk.out
   clear Hx1 Hx2 Hx3 Hx4 Hx5 Hx6 Hq1 Hq2 Hq3 Hq4 Hq5 Hq6
   try simp at x1 x2 x3 x4 x5 x6
   first | (symm; rw [cvB_no]; unfold baseP kindP; rintro ⟨h1, h2⟩; omega) | (symm; rw [cvB_iff]; unfold baseP kindP; omega)
  have den : (c.n == 0) = true := by rw [hen]; rfl
  have Hhen := Lib.hid hen; clear hen
  cases b6 with
  | false =>
   have ⟨Hq1, Hq2, Hq3, Hq4, Hq5, Hq6, Hx1, Hx2⟩ := hid8 q1 q2 q3 q4 q5 q6 x1 x2; clear q1 q2 q3 q4 q5 q6 x1 x2; have ⟨Hx3, Hx4, Hx5, Hx6⟩ := hid4 x3 x4 x5 x6; clear x3 x4 x5 x6
   go_enter Tryz.func20, Tryz.ntmps20
   go_wp2_with (first | (go_at_call 52; ((with_reducible refine (Hq1.out).mono ?_); rintro e w_ ⟨rfl, rfl⟩)) | (go_at_call 52; ((with_reducible refine (Hq4.out).mono ?_); rintro e w_ ⟨rfl, rfl⟩)) | (go_at_call 52; ((with_reducible refine (Hq5.out).mono ?_); rintro e w_ ⟨rfl, rfl⟩)) | (go_at_call 52; ((with_reducible refine (Hq6.out).mono ?_); rintro e w_ ⟨rfl, rfl⟩)) | (go_at_call 51; ((with_reducible refine (Hq2.out).mono ?_); rintro e w_ ⟨rfl, rfl⟩)) | (go_at_call 51; ((with_reducible refine (Hq3.out).mono ?_); rintro e w_ ⟨rfl, rfl⟩)))
   go_ret
   refine ⟨ret_bool ?_, (Below.refl _ _).alloc (Nat.le_refl _) _⟩
   have x1 := Hx1.out; have x2 := Hx2.out; have x3 := Hx3.out; have x4 := Hx4.out; have x5 := Hx5.out; have x6 := Hx6.out
   have hk := Hhk.out
   clear Hx1 Hx2 Hx3 Hx4 Hx5 Hx6 Hq1 Hq2 Hq3 Hq4 Hq5 Hq6
   try simp at x1 x2 x3 x4 x5 x6
   first | (symm; rw [cvB_no]; unfold baseP kindP; rintro ⟨h1, h2⟩; omega) | (symm; rw [cvB_iff]; unfold baseP kindP; omega)
  | true =>
   by_cases hli : c.l = c.i
   ·have dli : (c.l != c.i) = false := by simp [hli]
    have ⟨Hq1, Hq2, Hq3, Hq4, Hq5, Hq6, Hx1, Hx2⟩ := hid8 q1 q2 q3 q4 q5 q6 x1 x2; clear q1 q2 q3 q4 q5 q6 x1 x2; have ⟨Hx3, Hx4, Hx5, Hx6, Hhli⟩ := hid5 x3 x4 x5 x6 hli; clear x3 x4 x5 x6 hli
    go_enter Tryz.func20, Tryz.ntmps20
    go_wp2_with (first | (go_at_call 52; ((with_reducible refine (Hq1.out).mono ?_); rintro e w_ ⟨rfl, rfl⟩)) | (go_at_call 52; ((with_reducible refine (Hq4.out).mono ?_); rintro e w_ ⟨rfl, rfl⟩)) | (go_at_call 52; ((with_reducible refine (Hq5.out).mono ?_); rintro e w_ ⟨rfl, rfl⟩)) | (go_at_call 52; ((with_reducible refine (Hq6.out).mono ?_); rintro e w_ ⟨rfl, rfl⟩)) | (go_at_call 51; ((with_reducible refine (Hq2.out).mono ?_); rintro e w_ ⟨rfl, rfl⟩)) | (go_at_call 51; ((with_reducible refine (Hq3.out).mono ?_); rintro e w_ ⟨rfl, rfl⟩)))
    go_ret
    refine ⟨ret_bool ?_, (Below.refl _ _).alloc (Nat.le_refl _) _⟩
    have x1 := Hx1.out; have x2 := Hx2.out; have x3 := Hx3.out; have x4 := Hx4.out; have x5 := Hx5.out; have x6 := Hx6.out
    have hk := Hhk.out
    clear Hx1 Hx2 Hx3 Hx4 Hx5 Hx6 Hq1 Hq2 Hq3 Hq4 Hq5 Hq6
    try simp at x1 x2 x3 x4 x5 x6
    have hli := Hhli.out; first | (symm; rw [cvB_no]; unfold baseP kindP; rintro ⟨h1, h2⟩; omega) | (symm; rw [cvB_iff]; unfold baseP kindP; omega)
   have dli : (c.l != c.i) = true := by simp [hli]
   have ⟨Hq1, Hq2, Hq3, Hq4, Hq5, Hq6, Hx1, Hx2⟩ := hid8 q1 q2 q3 q4 q5 q6 x1 x2; clear q1 q2 q3 q4 q5 q6 x1 x2; have ⟨Hx3, Hx4, Hx5, Hx6⟩ := hid4 x3 x4 x5 x6; clear x3 x4 x5 x6
   go_enter Tryz.func20, Tryz.ntmps20
   go_wp2_with (first | (go_at_call 52; ((with_reducible refine (Hq1.out).mono ?_); rintro e w_ ⟨rfl, rfl⟩)) | (go_at_call 52; ((with_reducible refine (Hq4.out).mono ?_); rintro e w_ ⟨rfl, rfl⟩)) | (go_at_call 52; ((with_reducible refine (Hq5.out).mono ?_); rintro e w_ ⟨rfl, rfl⟩)) | (go_at_call 52; ((with_reducible refine (Hq6.out).mono ?_); rintro e w_ ⟨rfl, rfl⟩)) | (go_at_call 51; ((with_reducible refine (Hq2.out).mono ?_); rintro e w_ ⟨rfl, rfl⟩)) | (go_at_call 51; ((with_reducible refine (Hq3.out).mono ?_); rintro e w_ ⟨rfl, rfl⟩)))
   go_ret
   refine ⟨ret_bool ?_, (Below.refl _ _).alloc (Nat.le_refl _) _⟩
   have x1 := Hx1.out; have x2 := Hx2.out; have x3 := Hx3.out; have x4 := Hx4.out; have x5 := Hx5.out; have x6 := Hx6.out
   have hen := Hhen.out
   have hk := Hhk.out
   clear Hx1 Hx2 Hx3 Hx4 Hx5 Hx6 Hq1 Hq2 Hq3 Hq4 Hq5 Hq6
   try simp at x1 x2 x3 x4 x5 x6
   first | (symm; rw [cvB_no]; unfold baseP kindP; rintro ⟨h1, h2⟩; omega) | (symm; rw [cvB_iff]; unfold baseP kindP; omega)
 all_goals
  have ⟨Hq1, Hq2, Hq3, Hq4, Hq5, Hq6, Hx1, Hx2⟩ := hid8 q1 q2 q3 q4 q5 q6 x1 x2; clear q1 q2 q3 q4 q5 q6 x1 x2; have ⟨Hx3, Hx4, Hx5, Hx6⟩ := hid4 x3 x4 x5 x6; clear x3 x4 x5 x6
  go_enter Tryz.func20, Tryz.ntmps20
  go_wp2_with (first | (go_at_call 52; ((with_reducible refine (Hq1.out).mono ?_); rintro e w_ ⟨rfl, rfl⟩)) | (go_at_call 52; ((with_reducible refine (Hq4.out).mono ?_); rintro e w_ ⟨rfl, rfl⟩)) | (go_at_call 52; ((with_reducible refine (Hq5.out).mono ?_); rintro e w_ ⟨rfl, rfl⟩)) | (go_at_call 52; ((with_reducible refine (Hq6.out).mono ?_); rintro e w_ ⟨rfl, rfl⟩)) | (go_at_call 51; ((with_reducible refine (Hq2.out).mono ?_); rintro e w_ ⟨rfl, rfl⟩)) | (go_at_call 51; ((with_reducible refine (Hq3.out).mono ?_); rintro e w_ ⟨rfl, rfl⟩)))
  go_ret
  refine ⟨ret_bool ?_, (Below.refl _ _).alloc (Nat.le_refl _) _⟩
  have x1 := Hx1.out; have x2 := Hx2.out; have x3 := Hx3.out; have x4 := Hx4.out; have x5 := Hx5.out; have x6 := Hx6.out
  have hk := Hhk.out
  clear Hx1 Hx2 Hx3 Hx4 Hx5 Hx6 Hq1 Hq2 Hq3 Hq4 Hq5 Hq6
  try simp at x1 x2 x3 x4 x5 x6
  first | (symm; rw [cvB_no]; unfold baseP kindP; rintro ⟨h1, h2⟩; omega) | (symm; rw [cvB_iff]; unfold baseP kindP; omega)
set_option maxHeartbeats 8000000 in
theorem rvalid0 (c : Crd) (hc : CFit c) (hk : (c.k ≠ 1 ∧ c.k ≠ 2 ∧ c.k ≠ 3)) (w : World) : Calls Tryz.prog 20 #[.agg c.cells.toArray] w fun e w' => e = .returned (.bool (cvB c)) ∧ Below w.heap.size w w' := by
 obtain ⟨w1, hw1⟩ : ∃ w1, w.alloc (.cells c.cells.toArray 28) = w1 := ⟨_, rfl⟩
 have q1 := rin_any c.i 1 1000000 w1
 have q2 := rExponent_any c.e w1
 have q3 := rExponent_any c.s w1
 have q4 := rin_any c.d 0 0 w1
 have q5 := rin_any c.n 0 0 w1
 have q6 := rin_any c.l 0 0 w1
 rw [← hw1] at q1 q2 q3 q4 q5 q6
 clear hw1
 have x1 := @wB_iff c.i 1 1000000
 have x2 := @wthB_iff c.e 0
 have x3 := @wthB_iff c.s 0
 have x4 := @wB_iff c.d 0 0
 have x5 := @wB_iff c.n 0 0
 have x6 := @wB_iff c.l 0 0
 generalize wB c.i 1 1000000 = b1 at *
 generalize wthB c.e 0 = b2 at *
 generalize wthB c.s 0 = b3 at *
 generalize wB c.d 0 0 = b4 at *
 generalize wB c.n 0 0 = b5 at *
 generalize wB c.l 0 0 = b6 at *
 have m1 : (c.k == 1) = false := by simp [hk]
 have m2 : (c.k == 2) = false := by simp [hk]
 have m3 : (c.k == 3) = false := by simp [hk]
 unfold Crd.cells at q1 q2 q3 q4 q5 q6 ⊢
 have ⟨Hhk, Hhc⟩ := hid2 hk hc; clear hk hc
 cases b2
 rotate_left
 cases b3
 rotate_left
 cases b1
 rotate_left
 by_cases h1 : c.f < 0
 have dh1 : decide (c.f < 0) = true := decide_eq_true h1
 rotate_left
 have dh1 : decide (c.f < 0) = false := decide_eq_false h1
 by_cases h2 : c.u ≤ c.f
 have dh2 : decide (c.u ≤ c.f) = true := decide_eq_true h2
 rotate_left
 have dh2 : decide (c.u ≤ c.f) = false := decide_eq_false h2
 by_cases h3 : 1000000000 < c.u
 have dh3 : decide (1000000000 < c.u) = true := decide_eq_true h3
 rotate_left
 have dh3 : decide (1000000000 < c.u) = false := decide_eq_false h3
 rotate_left
 all_goals
  have ⟨Hq1, Hq2, Hq3, Hq4, Hq5, Hq6, Hx1, Hx2⟩ := hid8 q1 q2 q3 q4 q5 q6 x1 x2; clear q1 q2 q3 q4 q5 q6 x1 x2; have ⟨Hx3, Hx4, Hx5, Hx6⟩ := hid4 x3 x4 x5 x6; clear x3 x4 x5 x6
  go_enter Tryz.func20, Tryz.ntmps20
  go_wp2_with (first | (go_at_call 52; ((with_reducible refine (Hq1.out).mono ?_); rintro e w_ ⟨rfl, rfl⟩)) | (go_at_call 52; ((with_reducible refine (Hq4.out).mono ?_); rintro e w_ ⟨rfl, rfl⟩)) | (go_at_call 52; ((with_reducible refine (Hq5.out).mono ?_); rintro e w_ ⟨rfl, rfl⟩)) | (go_at_call 52; ((with_reducible refine (Hq6.out).mono ?_); rintro e w_ ⟨rfl, rfl⟩)) | (go_at_call 51; ((with_reducible refine (Hq2.out).mono ?_); rintro e w_ ⟨rfl, rfl⟩)) | (go_at_call 51; ((with_reducible refine (Hq3.out).mono ?_); rintro e w_ ⟨rfl, rfl⟩)))
  go_ret
  refine ⟨ret_bool ?_, (Below.refl _ _).alloc (Nat.le_refl _) _⟩
  have x1 := Hx1.out; have x2 := Hx2.out; have x3 := Hx3.out; have x4 := Hx4.out; have x5 := Hx5.out; have x6 := Hx6.out
  have hk := Hhk.out
  clear Hx1 Hx2 Hx3 Hx4 Hx5 Hx6 Hq1 Hq2 Hq3 Hq4 Hq5 Hq6
  try simp at x1 x2 x3 x4 x5 x6
  first | (symm; rw [cvB_no]; unfold baseP kindP; rintro ⟨h1, h2⟩; omega) | (symm; rw [cvB_iff]; unfold baseP kindP; omega)
theorem rcvalid_any (c : Crd) (hc : CFit c) (w : World) : Calls Tryz.prog 20 #[.agg c.cells.toArray] w fun e w' => e = .returned (.bool (cvB c)) ∧ Below w.heap.size w w' := by
 by_cases h1 : c.k = 1
 ·exact rvalid1 c hc h1 w
 ·by_cases h2 : c.k = 2
  ·exact rvalid2 c hc h2 w
  ·by_cases h3 : c.k = 3
   ·exact rvalid3 c hc h3 w
   ·exact rvalid0 c hc ⟨h1, h2, h3⟩ w
end
end Go.Proofs.YtclgncaghiinhaaGreatDoor

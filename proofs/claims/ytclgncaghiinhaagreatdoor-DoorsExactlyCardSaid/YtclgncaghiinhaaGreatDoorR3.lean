/- Contracts of the reference of card. -/
import Derived.Test.YtclgncaghiinhaaGreatDoorM1
import Derived.Test.YtclgncaghiinhaaGreatDoorM2
import Derived.Test.YtclgncaghiinhaaGreatDoorM3
import Derived.Test.YtclgncaghiinhaaGreatDoorM4
import Derived.Test.YtclgncaghiinhaaGreatDoorM5
import Derived.Test.YtclgncaghiinhaaGreatDoorM6
import Derived.Test.YtclgncaghiinhaaGreatDoorM7
import Derived.Test.YtclgncaghiinhaaGreatDoorM8
import Derived.Test.YtclgncaghiinhaaGreatDoorM9
import Derived.Test.YtclgncaghiinhaaGreatDoorM10
import Derived.Test.YtclgncaghiinhaaGreatDoorM11
import Derived.Test.YtclgncaghiinhaaGreatDoorM12
import Derived.Test.YtclgncaghiinhaaGreatDoorM13
import Derived.Test.YtclgncaghiinhaaGreatDoorM14
import Derived.Test.YtclgncaghiinhaaGreatDoorM15
import Derived.Test.YtclgncaghiinhaaGreatDoorM16
import Derived.Test.YtclgncaghiinhaaGreatDoorM17
import Derived.Test.YtclgncaghiinhaaGreatDoorM18
import Derived.Test.YtclgncaghiinhaaGreatDoorM19
import Derived.Test.YtclgncaghiinhaaGreatDoorM20
import Derived.Test.YtclgncaghiinhaaGreatDoorM21
import Derived.Test.YtclgncaghiinhaaGreatDoorM22
import Derived.Test.YtclgncaghiinhaaGreatDoorM23
import Derived.Test.YtclgncaghiinhaaGreatDoorM24
import Derived.Test.YtclgncaghiinhaaGreatDoorM25
import Derived.Test.YtclgncaghiinhaaGreatDoorM26
import Derived.Test.YtclgncaghiinhaaGreatDoorM27
import Derived.Test.YtclgncaghiinhaaGreatDoorM28
import Derived.Test.YtclgncaghiinhaaGreatDoorM29
import Derived.Test.YtclgncaghiinhaaGreatDoorM30
import Derived.Test.YtclgncaghiinhaaGreatDoorM31
import Derived.Test.YtclgncaghiinhaaGreatDoorM32
import Derived.Test.YtclgncaghiinhaaGreatDoorM33
import Derived.Test.YtclgncaghiinhaaGreatDoorM34
import Derived.Test.YtclgncaghiinhaaGreatDoorM35
import Derived.Test.YtclgncaghiinhaaGreatDoorM36
import Derived.Test.YtclgncaghiinhaaGreatDoorM37
import Derived.Test.YtclgncaghiinhaaGreatDoorM38
import Derived.Test.YtclgncaghiinhaaGreatDoorM39
import Derived.Test.YtclgncaghiinhaaGreatDoorM40
import Derived.Test.YtclgncaghiinhaaGreatDoorM41
import Derived.Test.YtclgncaghiinhaaGreatDoorM42
import Derived.Test.YtclgncaghiinhaaGreatDoorM43
import Derived.Test.YtclgncaghiinhaaGreatDoorM44
import Derived.Test.YtclgncaghiinhaaGreatDoorM45
import Derived.Test.YtclgncaghiinhaaGreatDoorM46
import Derived.Test.YtclgncaghiinhaaGreatDoorR1
import Derived.Test.YtclgncaghiinhaaGreatDoorR2
set_option linter.unusedSimpArgs false
set_option linter.unusedVariables false
set_option maxRecDepth 100000
namespace Go.Proofs.YtclgncaghiinhaaGreatDoor
open Go.RowKit
section
open Go.RowKit Go.Maps
theorem rin_any (n lo hi : Int) (w : World) : Calls Tryz.prog 52 #[.int .i64 n, .int .i64 lo, .int .i64 hi] w fun e w' => e = .returned (.bool (wB n lo hi)) ∧ w = w' := by
  by_cases h1 : lo ≤ n
  · by_cases h2 : n ≤ hi
    · have e : wB n lo hi = true := by simp [wB, h1, h2]
      have H_e := Lib.hid e; clear e
      go_enter Tryz.func52, Tryz.ntmps52
      go_wp2
      go_ret
      exact ⟨ret_bool (by rw [H_e.out]), rfl⟩
    · have e : wB n lo hi = false := by simp [wB, h2]
      have h3 : decide (n ≤ hi) = false := by simpa using h2
      have H_e := Lib.hid e; clear e
      go_enter Tryz.func52, Tryz.ntmps52
      go_wp2
      go_ret
      exact ⟨ret_bool (by rw [H_e.out]), rfl⟩
  · have e : wB n lo hi = false := by simp [wB, h1]
    have h3 : decide (lo ≤ n) = false := by simpa using h1
    have H_e := Lib.hid e; clear e
    go_enter Tryz.func52, Tryz.ntmps52
    go_wp2
    go_ret
    exact ⟨ret_bool (by rw [H_e.out]), rfl⟩
set_option maxHeartbeats 8000000 in
theorem rvalid1 (c : Crd) (hc : CFit c) (hk : c.k = 1) (w : World) : Calls Tryz.prog 20 #[.agg c.cells.toArray] w fun e w' => e = .returned (.bool (cvB c)) ∧ Below w.heap.size w w' := by
  obtain ⟨w1, hw1⟩ : ∃ w1, w.alloc (.cells c.cells.toArray 28) = w1 := ⟨_, rfl⟩
  have q1 := rin_any c.i 1 1000000 w1
  have q2 := rExponent_any c.e w1
  have q3 := rExponent_any c.s w1
  have q4 := rin_any c.d 1 400 w1
  have q5 := rin_any c.n 1 1000000000 w1
  have q6 := rin_any c.l 0 0 w1
  rw [← hw1] at q1 q2 q3 q4 q5 q6
  clear hw1
  have x1 := @wB_iff c.i 1 1000000
  have x2 := @wthB_iff c.e 0
  have x3 := @wthB_iff c.s 0
  have x4 := @wB_iff c.d 1 400
  have x5 := @wB_iff c.n 1 1000000000
  have x6 := @wB_iff c.l 0 0
  generalize wB c.i 1 1000000 = b1 at *
  generalize wthB c.e 0 = b2 at *
  generalize wthB c.s 0 = b3 at *
  generalize wB c.d 1 400 = b4 at *
  generalize wB c.n 1 1000000000 = b5 at *
  generalize wB c.l 0 0 = b6 at *
  have m1 : (c.k == 1) = true := by simp [hk]
  have m2 : (c.k == 2) = false := by simp [hk]
  have m3 : (c.k == 3) = false := by simp [hk]
  unfold Crd.cells at q1 q2 q3 q4 q5 q6 ⊢
  have ⟨H_hk, H_hc⟩ := hid2 hk hc; clear hk hc
  cases b2 with
  | false =>
    have ⟨H_q1, H_q2, H_q3, H_q4, H_q5, H_q6, H_x1, H_x2⟩ := hid8 q1 q2 q3 q4 q5 q6 x1 x2; clear q1 q2 q3 q4 q5 q6 x1 x2; have ⟨H_x3, H_x4, H_x5, H_x6⟩ := hid4 x3 x4 x5 x6; clear x3 x4 x5 x6
    go_enter Tryz.func20, Tryz.ntmps20
    go_wp2_with (first | (go_at_call 52; ((with_reducible refine (H_q1.out).mono ?_); rintro e w_ ⟨rfl, rfl⟩)) | (go_at_call 52; ((with_reducible refine (H_q4.out).mono ?_); rintro e w_ ⟨rfl, rfl⟩)) | (go_at_call 52; ((with_reducible refine (H_q5.out).mono ?_); rintro e w_ ⟨rfl, rfl⟩)) | (go_at_call 52; ((with_reducible refine (H_q6.out).mono ?_); rintro e w_ ⟨rfl, rfl⟩)) | (go_at_call 51; ((with_reducible refine (H_q2.out).mono ?_); rintro e w_ ⟨rfl, rfl⟩)) | (go_at_call 51; ((with_reducible refine (H_q3.out).mono ?_); rintro e w_ ⟨rfl, rfl⟩)))
    go_ret
    refine ⟨ret_bool ?_, (Below.refl _ _).alloc (Nat.le_refl _) _⟩
    have x1 := H_x1.out; have x2 := H_x2.out; have x3 := H_x3.out; have x4 := H_x4.out; have x5 := H_x5.out; have x6 := H_x6.out
    have hk := H_hk.out
    clear H_x1 H_x2 H_x3 H_x4 H_x5 H_x6 H_q1 H_q2 H_q3 H_q4 H_q5 H_q6
    try simp at x1 x2 x3 x4 x5 x6
    first | (symm; rw [cvB_no]; unfold baseP kindP; rintro ⟨h1, h2⟩; omega) | (symm; rw [cvB_iff]; unfold baseP kindP; omega)
  | true =>
    cases b3 with
    | false =>
      have ⟨H_q1, H_q2, H_q3, H_q4, H_q5, H_q6, H_x1, H_x2⟩ := hid8 q1 q2 q3 q4 q5 q6 x1 x2; clear q1 q2 q3 q4 q5 q6 x1 x2; have ⟨H_x3, H_x4, H_x5, H_x6⟩ := hid4 x3 x4 x5 x6; clear x3 x4 x5 x6
      go_enter Tryz.func20, Tryz.ntmps20
      go_wp2_with (first | (go_at_call 52; ((with_reducible refine (H_q1.out).mono ?_); rintro e w_ ⟨rfl, rfl⟩)) | (go_at_call 52; ((with_reducible refine (H_q4.out).mono ?_); rintro e w_ ⟨rfl, rfl⟩)) | (go_at_call 52; ((with_reducible refine (H_q5.out).mono ?_); rintro e w_ ⟨rfl, rfl⟩)) | (go_at_call 52; ((with_reducible refine (H_q6.out).mono ?_); rintro e w_ ⟨rfl, rfl⟩)) | (go_at_call 51; ((with_reducible refine (H_q2.out).mono ?_); rintro e w_ ⟨rfl, rfl⟩)) | (go_at_call 51; ((with_reducible refine (H_q3.out).mono ?_); rintro e w_ ⟨rfl, rfl⟩)))
      go_ret
      refine ⟨ret_bool ?_, (Below.refl _ _).alloc (Nat.le_refl _) _⟩
      have x1 := H_x1.out; have x2 := H_x2.out; have x3 := H_x3.out; have x4 := H_x4.out; have x5 := H_x5.out; have x6 := H_x6.out
      have hk := H_hk.out
      clear H_x1 H_x2 H_x3 H_x4 H_x5 H_x6 H_q1 H_q2 H_q3 H_q4 H_q5 H_q6
      try simp at x1 x2 x3 x4 x5 x6
      first | (symm; rw [cvB_no]; unfold baseP kindP; rintro ⟨h1, h2⟩; omega) | (symm; rw [cvB_iff]; unfold baseP kindP; omega)
    | true =>
      cases b1 with
      | false =>
        have ⟨H_q1, H_q2, H_q3, H_q4, H_q5, H_q6, H_x1, H_x2⟩ := hid8 q1 q2 q3 q4 q5 q6 x1 x2; clear q1 q2 q3 q4 q5 q6 x1 x2; have ⟨H_x3, H_x4, H_x5, H_x6⟩ := hid4 x3 x4 x5 x6; clear x3 x4 x5 x6
        go_enter Tryz.func20, Tryz.ntmps20
        go_wp2_with (first | (go_at_call 52; ((with_reducible refine (H_q1.out).mono ?_); rintro e w_ ⟨rfl, rfl⟩)) | (go_at_call 52; ((with_reducible refine (H_q4.out).mono ?_); rintro e w_ ⟨rfl, rfl⟩)) | (go_at_call 52; ((with_reducible refine (H_q5.out).mono ?_); rintro e w_ ⟨rfl, rfl⟩)) | (go_at_call 52; ((with_reducible refine (H_q6.out).mono ?_); rintro e w_ ⟨rfl, rfl⟩)) | (go_at_call 51; ((with_reducible refine (H_q2.out).mono ?_); rintro e w_ ⟨rfl, rfl⟩)) | (go_at_call 51; ((with_reducible refine (H_q3.out).mono ?_); rintro e w_ ⟨rfl, rfl⟩)))
        go_ret
        refine ⟨ret_bool ?_, (Below.refl _ _).alloc (Nat.le_refl _) _⟩
        have x1 := H_x1.out; have x2 := H_x2.out; have x3 := H_x3.out; have x4 := H_x4.out; have x5 := H_x5.out; have x6 := H_x6.out
        have hk := H_hk.out
        clear H_x1 H_x2 H_x3 H_x4 H_x5 H_x6 H_q1 H_q2 H_q3 H_q4 H_q5 H_q6
        try simp at x1 x2 x3 x4 x5 x6
        first | (symm; rw [cvB_no]; unfold baseP kindP; rintro ⟨h1, h2⟩; omega) | (symm; rw [cvB_iff]; unfold baseP kindP; omega)
      | true =>
        by_cases h1 : c.f < 0
        · have dh1 : decide (c.f < 0) = true := decide_eq_true h1
          have ⟨H_q1, H_q2, H_q3, H_q4, H_q5, H_q6, H_x1, H_x2⟩ := hid8 q1 q2 q3 q4 q5 q6 x1 x2; clear q1 q2 q3 q4 q5 q6 x1 x2; have ⟨H_x3, H_x4, H_x5, H_x6⟩ := hid4 x3 x4 x5 x6; clear x3 x4 x5 x6
          go_enter Tryz.func20, Tryz.ntmps20
          go_wp2_with (first | (go_at_call 52; ((with_reducible refine (H_q1.out).mono ?_); rintro e w_ ⟨rfl, rfl⟩)) | (go_at_call 52; ((with_reducible refine (H_q4.out).mono ?_); rintro e w_ ⟨rfl, rfl⟩)) | (go_at_call 52; ((with_reducible refine (H_q5.out).mono ?_); rintro e w_ ⟨rfl, rfl⟩)) | (go_at_call 52; ((with_reducible refine (H_q6.out).mono ?_); rintro e w_ ⟨rfl, rfl⟩)) | (go_at_call 51; ((with_reducible refine (H_q2.out).mono ?_); rintro e w_ ⟨rfl, rfl⟩)) | (go_at_call 51; ((with_reducible refine (H_q3.out).mono ?_); rintro e w_ ⟨rfl, rfl⟩)))
          go_ret
          refine ⟨ret_bool ?_, (Below.refl _ _).alloc (Nat.le_refl _) _⟩
          have x1 := H_x1.out; have x2 := H_x2.out; have x3 := H_x3.out; have x4 := H_x4.out; have x5 := H_x5.out; have x6 := H_x6.out
          have hk := H_hk.out
          clear H_x1 H_x2 H_x3 H_x4 H_x5 H_x6 H_q1 H_q2 H_q3 H_q4 H_q5 H_q6
          try simp at x1 x2 x3 x4 x5 x6
          first | (symm; rw [cvB_no]; unfold baseP kindP; rintro ⟨h1, h2⟩; omega) | (symm; rw [cvB_iff]; unfold baseP kindP; omega)
        have dh1 : decide (c.f < 0) = false := decide_eq_false h1
        by_cases h2 : c.u ≤ c.f
        · have dh2 : decide (c.u ≤ c.f) = true := decide_eq_true h2
          have ⟨H_q1, H_q2, H_q3, H_q4, H_q5, H_q6, H_x1, H_x2⟩ := hid8 q1 q2 q3 q4 q5 q6 x1 x2; clear q1 q2 q3 q4 q5 q6 x1 x2; have ⟨H_x3, H_x4, H_x5, H_x6⟩ := hid4 x3 x4 x5 x6; clear x3 x4 x5 x6
          go_enter Tryz.func20, Tryz.ntmps20
          go_wp2_with (first | (go_at_call 52; ((with_reducible refine (H_q1.out).mono ?_); rintro e w_ ⟨rfl, rfl⟩)) | (go_at_call 52; ((with_reducible refine (H_q4.out).mono ?_); rintro e w_ ⟨rfl, rfl⟩)) | (go_at_call 52; ((with_reducible refine (H_q5.out).mono ?_); rintro e w_ ⟨rfl, rfl⟩)) | (go_at_call 52; ((with_reducible refine (H_q6.out).mono ?_); rintro e w_ ⟨rfl, rfl⟩)) | (go_at_call 51; ((with_reducible refine (H_q2.out).mono ?_); rintro e w_ ⟨rfl, rfl⟩)) | (go_at_call 51; ((with_reducible refine (H_q3.out).mono ?_); rintro e w_ ⟨rfl, rfl⟩)))
          go_ret
          refine ⟨ret_bool ?_, (Below.refl _ _).alloc (Nat.le_refl _) _⟩
          have x1 := H_x1.out; have x2 := H_x2.out; have x3 := H_x3.out; have x4 := H_x4.out; have x5 := H_x5.out; have x6 := H_x6.out
          have hk := H_hk.out
          clear H_x1 H_x2 H_x3 H_x4 H_x5 H_x6 H_q1 H_q2 H_q3 H_q4 H_q5 H_q6
          try simp at x1 x2 x3 x4 x5 x6
          first | (symm; rw [cvB_no]; unfold baseP kindP; rintro ⟨h1, h2⟩; omega) | (symm; rw [cvB_iff]; unfold baseP kindP; omega)
        have dh2 : decide (c.u ≤ c.f) = false := decide_eq_false h2
        by_cases h3 : 1000000000 < c.u
        · have dh3 : decide (1000000000 < c.u) = true := decide_eq_true h3
          have ⟨H_q1, H_q2, H_q3, H_q4, H_q5, H_q6, H_x1, H_x2⟩ := hid8 q1 q2 q3 q4 q5 q6 x1 x2; clear q1 q2 q3 q4 q5 q6 x1 x2; have ⟨H_x3, H_x4, H_x5, H_x6⟩ := hid4 x3 x4 x5 x6; clear x3 x4 x5 x6
          go_enter Tryz.func20, Tryz.ntmps20
          go_wp2_with (first | (go_at_call 52; ((with_reducible refine (H_q1.out).mono ?_); rintro e w_ ⟨rfl, rfl⟩)) | (go_at_call 52; ((with_reducible refine (H_q4.out).mono ?_); rintro e w_ ⟨rfl, rfl⟩)) | (go_at_call 52; ((with_reducible refine (H_q5.out).mono ?_); rintro e w_ ⟨rfl, rfl⟩)) | (go_at_call 52; ((with_reducible refine (H_q6.out).mono ?_); rintro e w_ ⟨rfl, rfl⟩)) | (go_at_call 51; ((with_reducible refine (H_q2.out).mono ?_); rintro e w_ ⟨rfl, rfl⟩)) | (go_at_call 51; ((with_reducible refine (H_q3.out).mono ?_); rintro e w_ ⟨rfl, rfl⟩)))
          go_ret
          refine ⟨ret_bool ?_, (Below.refl _ _).alloc (Nat.le_refl _) _⟩
          have x1 := H_x1.out; have x2 := H_x2.out; have x3 := H_x3.out; have x4 := H_x4.out; have x5 := H_x5.out; have x6 := H_x6.out
          have hk := H_hk.out
          clear H_x1 H_x2 H_x3 H_x4 H_x5 H_x6 H_q1 H_q2 H_q3 H_q4 H_q5 H_q6
          try simp at x1 x2 x3 x4 x5 x6
          first | (symm; rw [cvB_no]; unfold baseP kindP; rintro ⟨h1, h2⟩; omega) | (symm; rw [cvB_iff]; unfold baseP kindP; omega)
        have dh3 : decide (1000000000 < c.u) = false := decide_eq_false h3
        cases b4 with
        | false =>
          have ⟨H_q1, H_q2, H_q3, H_q4, H_q5, H_q6, H_x1, H_x2⟩ := hid8 q1 q2 q3 q4 q5 q6 x1 x2; clear q1 q2 q3 q4 q5 q6 x1 x2; have ⟨H_x3, H_x4, H_x5, H_x6⟩ := hid4 x3 x4 x5 x6; clear x3 x4 x5 x6
          go_enter Tryz.func20, Tryz.ntmps20
          go_wp2_with (first | (go_at_call 52; ((with_reducible refine (H_q1.out).mono ?_); rintro e w_ ⟨rfl, rfl⟩)) | (go_at_call 52; ((with_reducible refine (H_q4.out).mono ?_); rintro e w_ ⟨rfl, rfl⟩)) | (go_at_call 52; ((with_reducible refine (H_q5.out).mono ?_); rintro e w_ ⟨rfl, rfl⟩)) | (go_at_call 52; ((with_reducible refine (H_q6.out).mono ?_); rintro e w_ ⟨rfl, rfl⟩)) | (go_at_call 51; ((with_reducible refine (H_q2.out).mono ?_); rintro e w_ ⟨rfl, rfl⟩)) | (go_at_call 51; ((with_reducible refine (H_q3.out).mono ?_); rintro e w_ ⟨rfl, rfl⟩)))
          go_ret
          refine ⟨ret_bool ?_, (Below.refl _ _).alloc (Nat.le_refl _) _⟩
          have x1 := H_x1.out; have x2 := H_x2.out; have x3 := H_x3.out; have x4 := H_x4.out; have x5 := H_x5.out; have x6 := H_x6.out
          have hk := H_hk.out
          clear H_x1 H_x2 H_x3 H_x4 H_x5 H_x6 H_q1 H_q2 H_q3 H_q4 H_q5 H_q6
          try simp at x1 x2 x3 x4 x5 x6
          first | (symm; rw [cvB_no]; unfold baseP kindP; rintro ⟨h1, h2⟩; omega) | (symm; rw [cvB_iff]; unfold baseP kindP; omega)
        | true =>
          cases b5 with
          | false =>
            have ⟨H_q1, H_q2, H_q3, H_q4, H_q5, H_q6, H_x1, H_x2⟩ := hid8 q1 q2 q3 q4 q5 q6 x1 x2; clear q1 q2 q3 q4 q5 q6 x1 x2; have ⟨H_x3, H_x4, H_x5, H_x6⟩ := hid4 x3 x4 x5 x6; clear x3 x4 x5 x6
            go_enter Tryz.func20, Tryz.ntmps20
            go_wp2_with (first | (go_at_call 52; ((with_reducible refine (H_q1.out).mono ?_); rintro e w_ ⟨rfl, rfl⟩)) | (go_at_call 52; ((with_reducible refine (H_q4.out).mono ?_); rintro e w_ ⟨rfl, rfl⟩)) | (go_at_call 52; ((with_reducible refine (H_q5.out).mono ?_); rintro e w_ ⟨rfl, rfl⟩)) | (go_at_call 52; ((with_reducible refine (H_q6.out).mono ?_); rintro e w_ ⟨rfl, rfl⟩)) | (go_at_call 51; ((with_reducible refine (H_q2.out).mono ?_); rintro e w_ ⟨rfl, rfl⟩)) | (go_at_call 51; ((with_reducible refine (H_q3.out).mono ?_); rintro e w_ ⟨rfl, rfl⟩)))
            go_ret
            refine ⟨ret_bool ?_, (Below.refl _ _).alloc (Nat.le_refl _) _⟩
            have x1 := H_x1.out; have x2 := H_x2.out; have x3 := H_x3.out; have x4 := H_x4.out; have x5 := H_x5.out; have x6 := H_x6.out
            have hk := H_hk.out
            clear H_x1 H_x2 H_x3 H_x4 H_x5 H_x6 H_q1 H_q2 H_q3 H_q4 H_q5 H_q6
            try simp at x1 x2 x3 x4 x5 x6
            first | (symm; rw [cvB_no]; unfold baseP kindP; rintro ⟨h1, h2⟩; omega) | (symm; rw [cvB_iff]; unfold baseP kindP; omega)
          | true =>
            by_cases hel : c.l = 0
            rotate_left
            · have del : (c.l == 0) = false := by rw [beq_eq_false_iff_ne]; exact hel
              have ⟨H_q1, H_q2, H_q3, H_q4, H_q5, H_q6, H_x1, H_x2⟩ := hid8 q1 q2 q3 q4 q5 q6 x1 x2; clear q1 q2 q3 q4 q5 q6 x1 x2; have ⟨H_x3, H_x4, H_x5, H_x6⟩ := hid4 x3 x4 x5 x6; clear x3 x4 x5 x6
              go_enter Tryz.func20, Tryz.ntmps20
              go_wp2_with (first | (go_at_call 52; ((with_reducible refine (H_q1.out).mono ?_); rintro e w_ ⟨rfl, rfl⟩)) | (go_at_call 52; ((with_reducible refine (H_q4.out).mono ?_); rintro e w_ ⟨rfl, rfl⟩)) | (go_at_call 52; ((with_reducible refine (H_q5.out).mono ?_); rintro e w_ ⟨rfl, rfl⟩)) | (go_at_call 52; ((with_reducible refine (H_q6.out).mono ?_); rintro e w_ ⟨rfl, rfl⟩)) | (go_at_call 51; ((with_reducible refine (H_q2.out).mono ?_); rintro e w_ ⟨rfl, rfl⟩)) | (go_at_call 51; ((with_reducible refine (H_q3.out).mono ?_); rintro e w_ ⟨rfl, rfl⟩)))
              go_ret
              refine ⟨ret_bool ?_, (Below.refl _ _).alloc (Nat.le_refl _) _⟩
              have x1 := H_x1.out; have x2 := H_x2.out; have x3 := H_x3.out; have x4 := H_x4.out; have x5 := H_x5.out; have x6 := H_x6.out
              have hk := H_hk.out
              clear H_x1 H_x2 H_x3 H_x4 H_x5 H_x6 H_q1 H_q2 H_q3 H_q4 H_q5 H_q6
              try simp at x1 x2 x3 x4 x5 x6
              first | (symm; rw [cvB_no]; unfold baseP kindP; rintro ⟨h1, h2⟩; omega) | (symm; rw [cvB_iff]; unfold baseP kindP; omega)
            have del : (c.l == 0) = true := by rw [hel]; rfl
            have H_hel := Lib.hid hel; clear hel
            have ⟨H_q1, H_q2, H_q3, H_q4, H_q5, H_q6, H_x1, H_x2⟩ := hid8 q1 q2 q3 q4 q5 q6 x1 x2; clear q1 q2 q3 q4 q5 q6 x1 x2; have ⟨H_x3, H_x4, H_x5, H_x6⟩ := hid4 x3 x4 x5 x6; clear x3 x4 x5 x6
            go_enter Tryz.func20, Tryz.ntmps20
            go_wp2_with (first | (go_at_call 52; ((with_reducible refine (H_q1.out).mono ?_); rintro e w_ ⟨rfl, rfl⟩)) | (go_at_call 52; ((with_reducible refine (H_q4.out).mono ?_); rintro e w_ ⟨rfl, rfl⟩)) | (go_at_call 52; ((with_reducible refine (H_q5.out).mono ?_); rintro e w_ ⟨rfl, rfl⟩)) | (go_at_call 52; ((with_reducible refine (H_q6.out).mono ?_); rintro e w_ ⟨rfl, rfl⟩)) | (go_at_call 51; ((with_reducible refine (H_q2.out).mono ?_); rintro e w_ ⟨rfl, rfl⟩)) | (go_at_call 51; ((with_reducible refine (H_q3.out).mono ?_); rintro e w_ ⟨rfl, rfl⟩)))
            go_ret
            refine ⟨ret_bool ?_, (Below.refl _ _).alloc (Nat.le_refl _) _⟩
            have x1 := H_x1.out; have x2 := H_x2.out; have x3 := H_x3.out; have x4 := H_x4.out; have x5 := H_x5.out; have x6 := H_x6.out
            have hel := H_hel.out
            have hk := H_hk.out
            clear H_x1 H_x2 H_x3 H_x4 H_x5 H_x6 H_q1 H_q2 H_q3 H_q4 H_q5 H_q6
            try simp at x1 x2 x3 x4 x5 x6
            first | (symm; rw [cvB_no]; unfold baseP kindP; rintro ⟨h1, h2⟩; omega) | (symm; rw [cvB_iff]; unfold baseP kindP; omega)
set_option maxHeartbeats 8000000 in
theorem rvalid2 (c : Crd) (hc : CFit c) (hk : c.k = 2) (w : World) : Calls Tryz.prog 20 #[.agg c.cells.toArray] w fun e w' => e = .returned (.bool (cvB c)) ∧ Below w.heap.size w w' := by
  obtain ⟨w1, hw1⟩ : ∃ w1, w.alloc (.cells c.cells.toArray 28) = w1 := ⟨_, rfl⟩
  have q1 := rin_any c.i 1 1000000 w1
  have q2 := rExponent_any c.e w1
  have q3 := rExponent_any c.s w1
  have q4 := rin_any c.d 0 400 w1
  have q5 := rin_any c.n 0 0 w1
  have q6 := rin_any c.l 0 0 w1
  rw [← hw1] at q1 q2 q3 q4 q5 q6
  clear hw1
  have x1 := @wB_iff c.i 1 1000000
  have x2 := @wthB_iff c.e 0
  have x3 := @wthB_iff c.s 0
  have x4 := @wB_iff c.d 0 400
  have x5 := @wB_iff c.n 0 0
  have x6 := @wB_iff c.l 0 0
  generalize wB c.i 1 1000000 = b1 at *
  generalize wthB c.e 0 = b2 at *
  generalize wthB c.s 0 = b3 at *
  generalize wB c.d 0 400 = b4 at *
  generalize wB c.n 0 0 = b5 at *
  generalize wB c.l 0 0 = b6 at *
  have m1 : (c.k == 1) = false := by simp [hk]
  have m2 : (c.k == 2) = true := by simp [hk]
  have m3 : (c.k == 3) = false := by simp [hk]
  unfold Crd.cells at q1 q2 q3 q4 q5 q6 ⊢
  have ⟨H_hk, H_hc⟩ := hid2 hk hc; clear hk hc
  cases b2 with
  | false =>
    have ⟨H_q1, H_q2, H_q3, H_q4, H_q5, H_q6, H_x1, H_x2⟩ := hid8 q1 q2 q3 q4 q5 q6 x1 x2; clear q1 q2 q3 q4 q5 q6 x1 x2; have ⟨H_x3, H_x4, H_x5, H_x6⟩ := hid4 x3 x4 x5 x6; clear x3 x4 x5 x6
    go_enter Tryz.func20, Tryz.ntmps20
    go_wp2_with (first | (go_at_call 52; ((with_reducible refine (H_q1.out).mono ?_); rintro e w_ ⟨rfl, rfl⟩)) | (go_at_call 52; ((with_reducible refine (H_q4.out).mono ?_); rintro e w_ ⟨rfl, rfl⟩)) | (go_at_call 52; ((with_reducible refine (H_q5.out).mono ?_); rintro e w_ ⟨rfl, rfl⟩)) | (go_at_call 52; ((with_reducible refine (H_q6.out).mono ?_); rintro e w_ ⟨rfl, rfl⟩)) | (go_at_call 51; ((with_reducible refine (H_q2.out).mono ?_); rintro e w_ ⟨rfl, rfl⟩)) | (go_at_call 51; ((with_reducible refine (H_q3.out).mono ?_); rintro e w_ ⟨rfl, rfl⟩)))
    go_ret
    refine ⟨ret_bool ?_, (Below.refl _ _).alloc (Nat.le_refl _) _⟩
    have x1 := H_x1.out; have x2 := H_x2.out; have x3 := H_x3.out; have x4 := H_x4.out; have x5 := H_x5.out; have x6 := H_x6.out
    have hk := H_hk.out
    clear H_x1 H_x2 H_x3 H_x4 H_x5 H_x6 H_q1 H_q2 H_q3 H_q4 H_q5 H_q6
    try simp at x1 x2 x3 x4 x5 x6
    first | (symm; rw [cvB_no]; unfold baseP kindP; rintro ⟨h1, h2⟩; omega) | (symm; rw [cvB_iff]; unfold baseP kindP; omega)
  | true =>
    cases b3 with
    | false =>
      have ⟨H_q1, H_q2, H_q3, H_q4, H_q5, H_q6, H_x1, H_x2⟩ := hid8 q1 q2 q3 q4 q5 q6 x1 x2; clear q1 q2 q3 q4 q5 q6 x1 x2; have ⟨H_x3, H_x4, H_x5, H_x6⟩ := hid4 x3 x4 x5 x6; clear x3 x4 x5 x6
      go_enter Tryz.func20, Tryz.ntmps20
      go_wp2_with (first | (go_at_call 52; ((with_reducible refine (H_q1.out).mono ?_); rintro e w_ ⟨rfl, rfl⟩)) | (go_at_call 52; ((with_reducible refine (H_q4.out).mono ?_); rintro e w_ ⟨rfl, rfl⟩)) | (go_at_call 52; ((with_reducible refine (H_q5.out).mono ?_); rintro e w_ ⟨rfl, rfl⟩)) | (go_at_call 52; ((with_reducible refine (H_q6.out).mono ?_); rintro e w_ ⟨rfl, rfl⟩)) | (go_at_call 51; ((with_reducible refine (H_q2.out).mono ?_); rintro e w_ ⟨rfl, rfl⟩)) | (go_at_call 51; ((with_reducible refine (H_q3.out).mono ?_); rintro e w_ ⟨rfl, rfl⟩)))
      go_ret
      refine ⟨ret_bool ?_, (Below.refl _ _).alloc (Nat.le_refl _) _⟩
      have x1 := H_x1.out; have x2 := H_x2.out; have x3 := H_x3.out; have x4 := H_x4.out; have x5 := H_x5.out; have x6 := H_x6.out
      have hk := H_hk.out
      clear H_x1 H_x2 H_x3 H_x4 H_x5 H_x6 H_q1 H_q2 H_q3 H_q4 H_q5 H_q6
      try simp at x1 x2 x3 x4 x5 x6
      first | (symm; rw [cvB_no]; unfold baseP kindP; rintro ⟨h1, h2⟩; omega) | (symm; rw [cvB_iff]; unfold baseP kindP; omega)
    | true =>
      cases b1 with
      | false =>
        have ⟨H_q1, H_q2, H_q3, H_q4, H_q5, H_q6, H_x1, H_x2⟩ := hid8 q1 q2 q3 q4 q5 q6 x1 x2; clear q1 q2 q3 q4 q5 q6 x1 x2; have ⟨H_x3, H_x4, H_x5, H_x6⟩ := hid4 x3 x4 x5 x6; clear x3 x4 x5 x6
        go_enter Tryz.func20, Tryz.ntmps20
        go_wp2_with (first | (go_at_call 52; ((with_reducible refine (H_q1.out).mono ?_); rintro e w_ ⟨rfl, rfl⟩)) | (go_at_call 52; ((with_reducible refine (H_q4.out).mono ?_); rintro e w_ ⟨rfl, rfl⟩)) | (go_at_call 52; ((with_reducible refine (H_q5.out).mono ?_); rintro e w_ ⟨rfl, rfl⟩)) | (go_at_call 52; ((with_reducible refine (H_q6.out).mono ?_); rintro e w_ ⟨rfl, rfl⟩)) | (go_at_call 51; ((with_reducible refine (H_q2.out).mono ?_); rintro e w_ ⟨rfl, rfl⟩)) | (go_at_call 51; ((with_reducible refine (H_q3.out).mono ?_); rintro e w_ ⟨rfl, rfl⟩)))
        go_ret
        refine ⟨ret_bool ?_, (Below.refl _ _).alloc (Nat.le_refl _) _⟩
        have x1 := H_x1.out; have x2 := H_x2.out; have x3 := H_x3.out; have x4 := H_x4.out; have x5 := H_x5.out; have x6 := H_x6.out
        have hk := H_hk.out
        clear H_x1 H_x2 H_x3 H_x4 H_x5 H_x6 H_q1 H_q2 H_q3 H_q4 H_q5 H_q6
        try simp at x1 x2 x3 x4 x5 x6
        first | (symm; rw [cvB_no]; unfold baseP kindP; rintro ⟨h1, h2⟩; omega) | (symm; rw [cvB_iff]; unfold baseP kindP; omega)
      | true =>
        by_cases h1 : c.f < 0
        · have dh1 : decide (c.f < 0) = true := decide_eq_true h1
          have ⟨H_q1, H_q2, H_q3, H_q4, H_q5, H_q6, H_x1, H_x2⟩ := hid8 q1 q2 q3 q4 q5 q6 x1 x2; clear q1 q2 q3 q4 q5 q6 x1 x2; have ⟨H_x3, H_x4, H_x5, H_x6⟩ := hid4 x3 x4 x5 x6; clear x3 x4 x5 x6
          go_enter Tryz.func20, Tryz.ntmps20
          go_wp2_with (first | (go_at_call 52; ((with_reducible refine (H_q1.out).mono ?_); rintro e w_ ⟨rfl, rfl⟩)) | (go_at_call 52; ((with_reducible refine (H_q4.out).mono ?_); rintro e w_ ⟨rfl, rfl⟩)) | (go_at_call 52; ((with_reducible refine (H_q5.out).mono ?_); rintro e w_ ⟨rfl, rfl⟩)) | (go_at_call 52; ((with_reducible refine (H_q6.out).mono ?_); rintro e w_ ⟨rfl, rfl⟩)) | (go_at_call 51; ((with_reducible refine (H_q2.out).mono ?_); rintro e w_ ⟨rfl, rfl⟩)) | (go_at_call 51; ((with_reducible refine (H_q3.out).mono ?_); rintro e w_ ⟨rfl, rfl⟩)))
          go_ret
          refine ⟨ret_bool ?_, (Below.refl _ _).alloc (Nat.le_refl _) _⟩
          have x1 := H_x1.out; have x2 := H_x2.out; have x3 := H_x3.out; have x4 := H_x4.out; have x5 := H_x5.out; have x6 := H_x6.out
          have hk := H_hk.out
          clear H_x1 H_x2 H_x3 H_x4 H_x5 H_x6 H_q1 H_q2 H_q3 H_q4 H_q5 H_q6
          try simp at x1 x2 x3 x4 x5 x6
          first | (symm; rw [cvB_no]; unfold baseP kindP; rintro ⟨h1, h2⟩; omega) | (symm; rw [cvB_iff]; unfold baseP kindP; omega)
        have dh1 : decide (c.f < 0) = false := decide_eq_false h1
        by_cases h2 : c.u ≤ c.f
        · have dh2 : decide (c.u ≤ c.f) = true := decide_eq_true h2
          have ⟨H_q1, H_q2, H_q3, H_q4, H_q5, H_q6, H_x1, H_x2⟩ := hid8 q1 q2 q3 q4 q5 q6 x1 x2; clear q1 q2 q3 q4 q5 q6 x1 x2; have ⟨H_x3, H_x4, H_x5, H_x6⟩ := hid4 x3 x4 x5 x6; clear x3 x4 x5 x6
          go_enter Tryz.func20, Tryz.ntmps20
          go_wp2_with (first | (go_at_call 52; ((with_reducible refine (H_q1.out).mono ?_); rintro e w_ ⟨rfl, rfl⟩)) | (go_at_call 52; ((with_reducible refine (H_q4.out).mono ?_); rintro e w_ ⟨rfl, rfl⟩)) | (go_at_call 52; ((with_reducible refine (H_q5.out).mono ?_); rintro e w_ ⟨rfl, rfl⟩)) | (go_at_call 52; ((with_reducible refine (H_q6.out).mono ?_); rintro e w_ ⟨rfl, rfl⟩)) | (go_at_call 51; ((with_reducible refine (H_q2.out).mono ?_); rintro e w_ ⟨rfl, rfl⟩)) | (go_at_call 51; ((with_reducible refine (H_q3.out).mono ?_); rintro e w_ ⟨rfl, rfl⟩)))
          go_ret
          refine ⟨ret_bool ?_, (Below.refl _ _).alloc (Nat.le_refl _) _⟩
          have x1 := H_x1.out; have x2 := H_x2.out; have x3 := H_x3.out; have x4 := H_x4.out; have x5 := H_x5.out; have x6 := H_x6.out
          have hk := H_hk.out
          clear H_x1 H_x2 H_x3 H_x4 H_x5 H_x6 H_q1 H_q2 H_q3 H_q4 H_q5 H_q6
          try simp at x1 x2 x3 x4 x5 x6
          first | (symm; rw [cvB_no]; unfold baseP kindP; rintro ⟨h1, h2⟩; omega) | (symm; rw [cvB_iff]; unfold baseP kindP; omega)
        have dh2 : decide (c.u ≤ c.f) = false := decide_eq_false h2
        by_cases h3 : 1000000000 < c.u
        · have dh3 : decide (1000000000 < c.u) = true := decide_eq_true h3
          have ⟨H_q1, H_q2, H_q3, H_q4, H_q5, H_q6, H_x1, H_x2⟩ := hid8 q1 q2 q3 q4 q5 q6 x1 x2; clear q1 q2 q3 q4 q5 q6 x1 x2; have ⟨H_x3, H_x4, H_x5, H_x6⟩ := hid4 x3 x4 x5 x6; clear x3 x4 x5 x6
          go_enter Tryz.func20, Tryz.ntmps20
          go_wp2_with (first | (go_at_call 52; ((with_reducible refine (H_q1.out).mono ?_); rintro e w_ ⟨rfl, rfl⟩)) | (go_at_call 52; ((with_reducible refine (H_q4.out).mono ?_); rintro e w_ ⟨rfl, rfl⟩)) | (go_at_call 52; ((with_reducible refine (H_q5.out).mono ?_); rintro e w_ ⟨rfl, rfl⟩)) | (go_at_call 52; ((with_reducible refine (H_q6.out).mono ?_); rintro e w_ ⟨rfl, rfl⟩)) | (go_at_call 51; ((with_reducible refine (H_q2.out).mono ?_); rintro e w_ ⟨rfl, rfl⟩)) | (go_at_call 51; ((with_reducible refine (H_q3.out).mono ?_); rintro e w_ ⟨rfl, rfl⟩)))
          go_ret
          refine ⟨ret_bool ?_, (Below.refl _ _).alloc (Nat.le_refl _) _⟩
          have x1 := H_x1.out; have x2 := H_x2.out; have x3 := H_x3.out; have x4 := H_x4.out; have x5 := H_x5.out; have x6 := H_x6.out
          have hk := H_hk.out
          clear H_x1 H_x2 H_x3 H_x4 H_x5 H_x6 H_q1 H_q2 H_q3 H_q4 H_q5 H_q6
          try simp at x1 x2 x3 x4 x5 x6
          first | (symm; rw [cvB_no]; unfold baseP kindP; rintro ⟨h1, h2⟩; omega) | (symm; rw [cvB_iff]; unfold baseP kindP; omega)
        have dh3 : decide (1000000000 < c.u) = false := decide_eq_false h3
        cases b4 with
        | false =>
          have ⟨H_q1, H_q2, H_q3, H_q4, H_q5, H_q6, H_x1, H_x2⟩ := hid8 q1 q2 q3 q4 q5 q6 x1 x2; clear q1 q2 q3 q4 q5 q6 x1 x2; have ⟨H_x3, H_x4, H_x5, H_x6⟩ := hid4 x3 x4 x5 x6; clear x3 x4 x5 x6
          go_enter Tryz.func20, Tryz.ntmps20
          go_wp2_with (first | (go_at_call 52; ((with_reducible refine (H_q1.out).mono ?_); rintro e w_ ⟨rfl, rfl⟩)) | (go_at_call 52; ((with_reducible refine (H_q4.out).mono ?_); rintro e w_ ⟨rfl, rfl⟩)) | (go_at_call 52; ((with_reducible refine (H_q5.out).mono ?_); rintro e w_ ⟨rfl, rfl⟩)) | (go_at_call 52; ((with_reducible refine (H_q6.out).mono ?_); rintro e w_ ⟨rfl, rfl⟩)) | (go_at_call 51; ((with_reducible refine (H_q2.out).mono ?_); rintro e w_ ⟨rfl, rfl⟩)) | (go_at_call 51; ((with_reducible refine (H_q3.out).mono ?_); rintro e w_ ⟨rfl, rfl⟩)))
          go_ret
          refine ⟨ret_bool ?_, (Below.refl _ _).alloc (Nat.le_refl _) _⟩
          have x1 := H_x1.out; have x2 := H_x2.out; have x3 := H_x3.out; have x4 := H_x4.out; have x5 := H_x5.out; have x6 := H_x6.out
          have hk := H_hk.out
          clear H_x1 H_x2 H_x3 H_x4 H_x5 H_x6 H_q1 H_q2 H_q3 H_q4 H_q5 H_q6
          try simp at x1 x2 x3 x4 x5 x6
          first | (symm; rw [cvB_no]; unfold baseP kindP; rintro ⟨h1, h2⟩; omega) | (symm; rw [cvB_iff]; unfold baseP kindP; omega)
        | true =>
          by_cases hen : c.n = 0
          rotate_left
          · have den : (c.n == 0) = false := by rw [beq_eq_false_iff_ne]; exact hen
            have ⟨H_q1, H_q2, H_q3, H_q4, H_q5, H_q6, H_x1, H_x2⟩ := hid8 q1 q2 q3 q4 q5 q6 x1 x2; clear q1 q2 q3 q4 q5 q6 x1 x2; have ⟨H_x3, H_x4, H_x5, H_x6⟩ := hid4 x3 x4 x5 x6; clear x3 x4 x5 x6
            go_enter Tryz.func20, Tryz.ntmps20
            go_wp2_with (first | (go_at_call 52; ((with_reducible refine (H_q1.out).mono ?_); rintro e w_ ⟨rfl, rfl⟩)) | (go_at_call 52; ((with_reducible refine (H_q4.out).mono ?_); rintro e w_ ⟨rfl, rfl⟩)) | (go_at_call 52; ((with_reducible refine (H_q5.out).mono ?_); rintro e w_ ⟨rfl, rfl⟩)) | (go_at_call 52; ((with_reducible refine (H_q6.out).mono ?_); rintro e w_ ⟨rfl, rfl⟩)) | (go_at_call 51; ((with_reducible refine (H_q2.out).mono ?_); rintro e w_ ⟨rfl, rfl⟩)) | (go_at_call 51; ((with_reducible refine (H_q3.out).mono ?_); rintro e w_ ⟨rfl, rfl⟩)))
            go_ret
            refine ⟨ret_bool ?_, (Below.refl _ _).alloc (Nat.le_refl _) _⟩
            have x1 := H_x1.out; have x2 := H_x2.out; have x3 := H_x3.out; have x4 := H_x4.out; have x5 := H_x5.out; have x6 := H_x6.out
            have hk := H_hk.out
            clear H_x1 H_x2 H_x3 H_x4 H_x5 H_x6 H_q1 H_q2 H_q3 H_q4 H_q5 H_q6
            try simp at x1 x2 x3 x4 x5 x6
            first | (symm; rw [cvB_no]; unfold baseP kindP; rintro ⟨h1, h2⟩; omega) | (symm; rw [cvB_iff]; unfold baseP kindP; omega)
          have den : (c.n == 0) = true := by rw [hen]; rfl
          have H_hen := Lib.hid hen; clear hen
          by_cases hel : c.l = 0
          rotate_left
          · have del : (c.l == 0) = false := by rw [beq_eq_false_iff_ne]; exact hel
            have ⟨H_q1, H_q2, H_q3, H_q4, H_q5, H_q6, H_x1, H_x2⟩ := hid8 q1 q2 q3 q4 q5 q6 x1 x2; clear q1 q2 q3 q4 q5 q6 x1 x2; have ⟨H_x3, H_x4, H_x5, H_x6⟩ := hid4 x3 x4 x5 x6; clear x3 x4 x5 x6
            go_enter Tryz.func20, Tryz.ntmps20
            go_wp2_with (first | (go_at_call 52; ((with_reducible refine (H_q1.out).mono ?_); rintro e w_ ⟨rfl, rfl⟩)) | (go_at_call 52; ((with_reducible refine (H_q4.out).mono ?_); rintro e w_ ⟨rfl, rfl⟩)) | (go_at_call 52; ((with_reducible refine (H_q5.out).mono ?_); rintro e w_ ⟨rfl, rfl⟩)) | (go_at_call 52; ((with_reducible refine (H_q6.out).mono ?_); rintro e w_ ⟨rfl, rfl⟩)) | (go_at_call 51; ((with_reducible refine (H_q2.out).mono ?_); rintro e w_ ⟨rfl, rfl⟩)) | (go_at_call 51; ((with_reducible refine (H_q3.out).mono ?_); rintro e w_ ⟨rfl, rfl⟩)))
            go_ret
            refine ⟨ret_bool ?_, (Below.refl _ _).alloc (Nat.le_refl _) _⟩
            have x1 := H_x1.out; have x2 := H_x2.out; have x3 := H_x3.out; have x4 := H_x4.out; have x5 := H_x5.out; have x6 := H_x6.out
            have hk := H_hk.out
            clear H_x1 H_x2 H_x3 H_x4 H_x5 H_x6 H_q1 H_q2 H_q3 H_q4 H_q5 H_q6
            try simp at x1 x2 x3 x4 x5 x6
            first | (symm; rw [cvB_no]; unfold baseP kindP; rintro ⟨h1, h2⟩; omega) | (symm; rw [cvB_iff]; unfold baseP kindP; omega)
          have del : (c.l == 0) = true := by rw [hel]; rfl
          have H_hel := Lib.hid hel; clear hel
          have ⟨H_q1, H_q2, H_q3, H_q4, H_q5, H_q6, H_x1, H_x2⟩ := hid8 q1 q2 q3 q4 q5 q6 x1 x2; clear q1 q2 q3 q4 q5 q6 x1 x2; have ⟨H_x3, H_x4, H_x5, H_x6⟩ := hid4 x3 x4 x5 x6; clear x3 x4 x5 x6
          go_enter Tryz.func20, Tryz.ntmps20
          go_wp2_with (first | (go_at_call 52; ((with_reducible refine (H_q1.out).mono ?_); rintro e w_ ⟨rfl, rfl⟩)) | (go_at_call 52; ((with_reducible refine (H_q4.out).mono ?_); rintro e w_ ⟨rfl, rfl⟩)) | (go_at_call 52; ((with_reducible refine (H_q5.out).mono ?_); rintro e w_ ⟨rfl, rfl⟩)) | (go_at_call 52; ((with_reducible refine (H_q6.out).mono ?_); rintro e w_ ⟨rfl, rfl⟩)) | (go_at_call 51; ((with_reducible refine (H_q2.out).mono ?_); rintro e w_ ⟨rfl, rfl⟩)) | (go_at_call 51; ((with_reducible refine (H_q3.out).mono ?_); rintro e w_ ⟨rfl, rfl⟩)))
          go_ret
          refine ⟨ret_bool ?_, (Below.refl _ _).alloc (Nat.le_refl _) _⟩
          have x1 := H_x1.out; have x2 := H_x2.out; have x3 := H_x3.out; have x4 := H_x4.out; have x5 := H_x5.out; have x6 := H_x6.out
          have hen := H_hen.out; have hel := H_hel.out
          have hk := H_hk.out
          clear H_x1 H_x2 H_x3 H_x4 H_x5 H_x6 H_q1 H_q2 H_q3 H_q4 H_q5 H_q6
          try simp at x1 x2 x3 x4 x5 x6
          first | (symm; rw [cvB_no]; unfold baseP kindP; rintro ⟨h1, h2⟩; omega) | (symm; rw [cvB_iff]; unfold baseP kindP; omega)
set_option maxHeartbeats 8000000 in
theorem rvalid3 (c : Crd) (hc : CFit c) (hk : c.k = 3) (w : World) : Calls Tryz.prog 20 #[.agg c.cells.toArray] w fun e w' => e = .returned (.bool (cvB c)) ∧ Below w.heap.size w w' := by
  obtain ⟨w1, hw1⟩ : ∃ w1, w.alloc (.cells c.cells.toArray 28) = w1 := ⟨_, rfl⟩
  have q1 := rin_any c.i 1 1000000 w1
  have q2 := rExponent_any c.e w1
  have q3 := rExponent_any c.s w1
  have q4 := rin_any c.d 0 400 w1
  have q5 := rin_any c.n 0 0 w1
  have q6 := rin_any c.l 1 1000000 w1
  rw [← hw1] at q1 q2 q3 q4 q5 q6
  clear hw1
  have x1 := @wB_iff c.i 1 1000000
  have x2 := @wthB_iff c.e 0
  have x3 := @wthB_iff c.s 0
  have x4 := @wB_iff c.d 0 400
  have x5 := @wB_iff c.n 0 0
  have x6 := @wB_iff c.l 1 1000000
  generalize wB c.i 1 1000000 = b1 at *
  generalize wthB c.e 0 = b2 at *
  generalize wthB c.s 0 = b3 at *
  generalize wB c.d 0 400 = b4 at *
  generalize wB c.n 0 0 = b5 at *
  generalize wB c.l 1 1000000 = b6 at *
  have m1 : (c.k == 1) = false := by simp [hk]
  have m2 : (c.k == 2) = false := by simp [hk]
  have m3 : (c.k == 3) = true := by simp [hk]
  unfold Crd.cells at q1 q2 q3 q4 q5 q6 ⊢
  have ⟨H_hk, H_hc⟩ := hid2 hk hc; clear hk hc
  cases b2 with
  | false =>
    have ⟨H_q1, H_q2, H_q3, H_q4, H_q5, H_q6, H_x1, H_x2⟩ := hid8 q1 q2 q3 q4 q5 q6 x1 x2; clear q1 q2 q3 q4 q5 q6 x1 x2; have ⟨H_x3, H_x4, H_x5, H_x6⟩ := hid4 x3 x4 x5 x6; clear x3 x4 x5 x6
    go_enter Tryz.func20, Tryz.ntmps20
    go_wp2_with (first | (go_at_call 52; ((with_reducible refine (H_q1.out).mono ?_); rintro e w_ ⟨rfl, rfl⟩)) | (go_at_call 52; ((with_reducible refine (H_q4.out).mono ?_); rintro e w_ ⟨rfl, rfl⟩)) | (go_at_call 52; ((with_reducible refine (H_q5.out).mono ?_); rintro e w_ ⟨rfl, rfl⟩)) | (go_at_call 52; ((with_reducible refine (H_q6.out).mono ?_); rintro e w_ ⟨rfl, rfl⟩)) | (go_at_call 51; ((with_reducible refine (H_q2.out).mono ?_); rintro e w_ ⟨rfl, rfl⟩)) | (go_at_call 51; ((with_reducible refine (H_q3.out).mono ?_); rintro e w_ ⟨rfl, rfl⟩)))
    go_ret
    refine ⟨ret_bool ?_, (Below.refl _ _).alloc (Nat.le_refl _) _⟩
    have x1 := H_x1.out; have x2 := H_x2.out; have x3 := H_x3.out; have x4 := H_x4.out; have x5 := H_x5.out; have x6 := H_x6.out
    have hk := H_hk.out
    clear H_x1 H_x2 H_x3 H_x4 H_x5 H_x6 H_q1 H_q2 H_q3 H_q4 H_q5 H_q6
    try simp at x1 x2 x3 x4 x5 x6
    first | (symm; rw [cvB_no]; unfold baseP kindP; rintro ⟨h1, h2⟩; omega) | (symm; rw [cvB_iff]; unfold baseP kindP; omega)
  | true =>
    cases b3 with
    | false =>
      have ⟨H_q1, H_q2, H_q3, H_q4, H_q5, H_q6, H_x1, H_x2⟩ := hid8 q1 q2 q3 q4 q5 q6 x1 x2; clear q1 q2 q3 q4 q5 q6 x1 x2; have ⟨H_x3, H_x4, H_x5, H_x6⟩ := hid4 x3 x4 x5 x6; clear x3 x4 x5 x6
      go_enter Tryz.func20, Tryz.ntmps20
      go_wp2_with (first | (go_at_call 52; ((with_reducible refine (H_q1.out).mono ?_); rintro e w_ ⟨rfl, rfl⟩)) | (go_at_call 52; ((with_reducible refine (H_q4.out).mono ?_); rintro e w_ ⟨rfl, rfl⟩)) | (go_at_call 52; ((with_reducible refine (H_q5.out).mono ?_); rintro e w_ ⟨rfl, rfl⟩)) | (go_at_call 52; ((with_reducible refine (H_q6.out).mono ?_); rintro e w_ ⟨rfl, rfl⟩)) | (go_at_call 51; ((with_reducible refine (H_q2.out).mono ?_); rintro e w_ ⟨rfl, rfl⟩)) | (go_at_call 51; ((with_reducible refine (H_q3.out).mono ?_); rintro e w_ ⟨rfl, rfl⟩)))
      go_ret
      refine ⟨ret_bool ?_, (Below.refl _ _).alloc (Nat.le_refl _) _⟩
      have x1 := H_x1.out; have x2 := H_x2.out; have x3 := H_x3.out; have x4 := H_x4.out; have x5 := H_x5.out; have x6 := H_x6.out
      have hk := H_hk.out
      clear H_x1 H_x2 H_x3 H_x4 H_x5 H_x6 H_q1 H_q2 H_q3 H_q4 H_q5 H_q6
      try simp at x1 x2 x3 x4 x5 x6
      first | (symm; rw [cvB_no]; unfold baseP kindP; rintro ⟨h1, h2⟩; omega) | (symm; rw [cvB_iff]; unfold baseP kindP; omega)
    | true =>
      cases b1 with
      | false =>
        have ⟨H_q1, H_q2, H_q3, H_q4, H_q5, H_q6, H_x1, H_x2⟩ := hid8 q1 q2 q3 q4 q5 q6 x1 x2; clear q1 q2 q3 q4 q5 q6 x1 x2; have ⟨H_x3, H_x4, H_x5, H_x6⟩ := hid4 x3 x4 x5 x6; clear x3 x4 x5 x6
        go_enter Tryz.func20, Tryz.ntmps20
        go_wp2_with (first | (go_at_call 52; ((with_reducible refine (H_q1.out).mono ?_); rintro e w_ ⟨rfl, rfl⟩)) | (go_at_call 52; ((with_reducible refine (H_q4.out).mono ?_); rintro e w_ ⟨rfl, rfl⟩)) | (go_at_call 52; ((with_reducible refine (H_q5.out).mono ?_); rintro e w_ ⟨rfl, rfl⟩)) | (go_at_call 52; ((with_reducible refine (H_q6.out).mono ?_); rintro e w_ ⟨rfl, rfl⟩)) | (go_at_call 51; ((with_reducible refine (H_q2.out).mono ?_); rintro e w_ ⟨rfl, rfl⟩)) | (go_at_call 51; ((with_reducible refine (H_q3.out).mono ?_); rintro e w_ ⟨rfl, rfl⟩)))
        go_ret
        refine ⟨ret_bool ?_, (Below.refl _ _).alloc (Nat.le_refl _) _⟩
        have x1 := H_x1.out; have x2 := H_x2.out; have x3 := H_x3.out; have x4 := H_x4.out; have x5 := H_x5.out; have x6 := H_x6.out
        have hk := H_hk.out
        clear H_x1 H_x2 H_x3 H_x4 H_x5 H_x6 H_q1 H_q2 H_q3 H_q4 H_q5 H_q6
        try simp at x1 x2 x3 x4 x5 x6
        first | (symm; rw [cvB_no]; unfold baseP kindP; rintro ⟨h1, h2⟩; omega) | (symm; rw [cvB_iff]; unfold baseP kindP; omega)
      | true =>
        by_cases h1 : c.f < 0
        · have dh1 : decide (c.f < 0) = true := decide_eq_true h1
          have ⟨H_q1, H_q2, H_q3, H_q4, H_q5, H_q6, H_x1, H_x2⟩ := hid8 q1 q2 q3 q4 q5 q6 x1 x2; clear q1 q2 q3 q4 q5 q6 x1 x2; have ⟨H_x3, H_x4, H_x5, H_x6⟩ := hid4 x3 x4 x5 x6; clear x3 x4 x5 x6
          go_enter Tryz.func20, Tryz.ntmps20
          go_wp2_with (first | (go_at_call 52; ((with_reducible refine (H_q1.out).mono ?_); rintro e w_ ⟨rfl, rfl⟩)) | (go_at_call 52; ((with_reducible refine (H_q4.out).mono ?_); rintro e w_ ⟨rfl, rfl⟩)) | (go_at_call 52; ((with_reducible refine (H_q5.out).mono ?_); rintro e w_ ⟨rfl, rfl⟩)) | (go_at_call 52; ((with_reducible refine (H_q6.out).mono ?_); rintro e w_ ⟨rfl, rfl⟩)) | (go_at_call 51; ((with_reducible refine (H_q2.out).mono ?_); rintro e w_ ⟨rfl, rfl⟩)) | (go_at_call 51; ((with_reducible refine (H_q3.out).mono ?_); rintro e w_ ⟨rfl, rfl⟩)))
          go_ret
          refine ⟨ret_bool ?_, (Below.refl _ _).alloc (Nat.le_refl _) _⟩
          have x1 := H_x1.out; have x2 := H_x2.out; have x3 := H_x3.out; have x4 := H_x4.out; have x5 := H_x5.out; have x6 := H_x6.out
          have hk := H_hk.out
          clear H_x1 H_x2 H_x3 H_x4 H_x5 H_x6 H_q1 H_q2 H_q3 H_q4 H_q5 H_q6
          try simp at x1 x2 x3 x4 x5 x6
          first | (symm; rw [cvB_no]; unfold baseP kindP; rintro ⟨h1, h2⟩; omega) | (symm; rw [cvB_iff]; unfold baseP kindP; omega)
        have dh1 : decide (c.f < 0) = false := decide_eq_false h1
        by_cases h2 : c.u ≤ c.f
        · have dh2 : decide (c.u ≤ c.f) = true := decide_eq_true h2
          have ⟨H_q1, H_q2, H_q3, H_q4, H_q5, H_q6, H_x1, H_x2⟩ := hid8 q1 q2 q3 q4 q5 q6 x1 x2; clear q1 q2 q3 q4 q5 q6 x1 x2; have ⟨H_x3, H_x4, H_x5, H_x6⟩ := hid4 x3 x4 x5 x6; clear x3 x4 x5 x6
          go_enter Tryz.func20, Tryz.ntmps20
          go_wp2_with (first | (go_at_call 52; ((with_reducible refine (H_q1.out).mono ?_); rintro e w_ ⟨rfl, rfl⟩)) | (go_at_call 52; ((with_reducible refine (H_q4.out).mono ?_); rintro e w_ ⟨rfl, rfl⟩)) | (go_at_call 52; ((with_reducible refine (H_q5.out).mono ?_); rintro e w_ ⟨rfl, rfl⟩)) | (go_at_call 52; ((with_reducible refine (H_q6.out).mono ?_); rintro e w_ ⟨rfl, rfl⟩)) | (go_at_call 51; ((with_reducible refine (H_q2.out).mono ?_); rintro e w_ ⟨rfl, rfl⟩)) | (go_at_call 51; ((with_reducible refine (H_q3.out).mono ?_); rintro e w_ ⟨rfl, rfl⟩)))
          go_ret
          refine ⟨ret_bool ?_, (Below.refl _ _).alloc (Nat.le_refl _) _⟩
          have x1 := H_x1.out; have x2 := H_x2.out; have x3 := H_x3.out; have x4 := H_x4.out; have x5 := H_x5.out; have x6 := H_x6.out
          have hk := H_hk.out
          clear H_x1 H_x2 H_x3 H_x4 H_x5 H_x6 H_q1 H_q2 H_q3 H_q4 H_q5 H_q6
          try simp at x1 x2 x3 x4 x5 x6
          first | (symm; rw [cvB_no]; unfold baseP kindP; rintro ⟨h1, h2⟩; omega) | (symm; rw [cvB_iff]; unfold baseP kindP; omega)
        have dh2 : decide (c.u ≤ c.f) = false := decide_eq_false h2
        by_cases h3 : 1000000000 < c.u
        · have dh3 : decide (1000000000 < c.u) = true := decide_eq_true h3
          have ⟨H_q1, H_q2, H_q3, H_q4, H_q5, H_q6, H_x1, H_x2⟩ := hid8 q1 q2 q3 q4 q5 q6 x1 x2; clear q1 q2 q3 q4 q5 q6 x1 x2; have ⟨H_x3, H_x4, H_x5, H_x6⟩ := hid4 x3 x4 x5 x6; clear x3 x4 x5 x6
          go_enter Tryz.func20, Tryz.ntmps20
          go_wp2_with (first | (go_at_call 52; ((with_reducible refine (H_q1.out).mono ?_); rintro e w_ ⟨rfl, rfl⟩)) | (go_at_call 52; ((with_reducible refine (H_q4.out).mono ?_); rintro e w_ ⟨rfl, rfl⟩)) | (go_at_call 52; ((with_reducible refine (H_q5.out).mono ?_); rintro e w_ ⟨rfl, rfl⟩)) | (go_at_call 52; ((with_reducible refine (H_q6.out).mono ?_); rintro e w_ ⟨rfl, rfl⟩)) | (go_at_call 51; ((with_reducible refine (H_q2.out).mono ?_); rintro e w_ ⟨rfl, rfl⟩)) | (go_at_call 51; ((with_reducible refine (H_q3.out).mono ?_); rintro e w_ ⟨rfl, rfl⟩)))
          go_ret
          refine ⟨ret_bool ?_, (Below.refl _ _).alloc (Nat.le_refl _) _⟩
          have x1 := H_x1.out; have x2 := H_x2.out; have x3 := H_x3.out; have x4 := H_x4.out; have x5 := H_x5.out; have x6 := H_x6.out
          have hk := H_hk.out
          clear H_x1 H_x2 H_x3 H_x4 H_x5 H_x6 H_q1 H_q2 H_q3 H_q4 H_q5 H_q6
          try simp at x1 x2 x3 x4 x5 x6
          first | (symm; rw [cvB_no]; unfold baseP kindP; rintro ⟨h1, h2⟩; omega) | (symm; rw [cvB_iff]; unfold baseP kindP; omega)
        have dh3 : decide (1000000000 < c.u) = false := decide_eq_false h3
        cases b4 with
        | false =>
          have ⟨H_q1, H_q2, H_q3, H_q4, H_q5, H_q6, H_x1, H_x2⟩ := hid8 q1 q2 q3 q4 q5 q6 x1 x2; clear q1 q2 q3 q4 q5 q6 x1 x2; have ⟨H_x3, H_x4, H_x5, H_x6⟩ := hid4 x3 x4 x5 x6; clear x3 x4 x5 x6
          go_enter Tryz.func20, Tryz.ntmps20
          go_wp2_with (first | (go_at_call 52; ((with_reducible refine (H_q1.out).mono ?_); rintro e w_ ⟨rfl, rfl⟩)) | (go_at_call 52; ((with_reducible refine (H_q4.out).mono ?_); rintro e w_ ⟨rfl, rfl⟩)) | (go_at_call 52; ((with_reducible refine (H_q5.out).mono ?_); rintro e w_ ⟨rfl, rfl⟩)) | (go_at_call 52; ((with_reducible refine (H_q6.out).mono ?_); rintro e w_ ⟨rfl, rfl⟩)) | (go_at_call 51; ((with_reducible refine (H_q2.out).mono ?_); rintro e w_ ⟨rfl, rfl⟩)) | (go_at_call 51; ((with_reducible refine (H_q3.out).mono ?_); rintro e w_ ⟨rfl, rfl⟩)))
          go_ret
          refine ⟨ret_bool ?_, (Below.refl _ _).alloc (Nat.le_refl _) _⟩
          have x1 := H_x1.out; have x2 := H_x2.out; have x3 := H_x3.out; have x4 := H_x4.out; have x5 := H_x5.out; have x6 := H_x6.out
          have hk := H_hk.out
          clear H_x1 H_x2 H_x3 H_x4 H_x5 H_x6 H_q1 H_q2 H_q3 H_q4 H_q5 H_q6
          try simp at x1 x2 x3 x4 x5 x6
          first | (symm; rw [cvB_no]; unfold baseP kindP; rintro ⟨h1, h2⟩; omega) | (symm; rw [cvB_iff]; unfold baseP kindP; omega)
        | true =>
          by_cases hen : c.n = 0
          rotate_left
          · have den : (c.n == 0) = false := by rw [beq_eq_false_iff_ne]; exact hen
            have ⟨H_q1, H_q2, H_q3, H_q4, H_q5, H_q6, H_x1, H_x2⟩ := hid8 q1 q2 q3 q4 q5 q6 x1 x2; clear q1 q2 q3 q4 q5 q6 x1 x2; have ⟨H_x3, H_x4, H_x5, H_x6⟩ := hid4 x3 x4 x5 x6; clear x3 x4 x5 x6
            go_enter Tryz.func20, Tryz.ntmps20
            go_wp2_with (first | (go_at_call 52; ((with_reducible refine (H_q1.out).mono ?_); rintro e w_ ⟨rfl, rfl⟩)) | (go_at_call 52; ((with_reducible refine (H_q4.out).mono ?_); rintro e w_ ⟨rfl, rfl⟩)) | (go_at_call 52; ((with_reducible refine (H_q5.out).mono ?_); rintro e w_ ⟨rfl, rfl⟩)) | (go_at_call 52; ((with_reducible refine (H_q6.out).mono ?_); rintro e w_ ⟨rfl, rfl⟩)) | (go_at_call 51; ((with_reducible refine (H_q2.out).mono ?_); rintro e w_ ⟨rfl, rfl⟩)) | (go_at_call 51; ((with_reducible refine (H_q3.out).mono ?_); rintro e w_ ⟨rfl, rfl⟩)))
            go_ret
            refine ⟨ret_bool ?_, (Below.refl _ _).alloc (Nat.le_refl _) _⟩
            have x1 := H_x1.out; have x2 := H_x2.out; have x3 := H_x3.out; have x4 := H_x4.out; have x5 := H_x5.out; have x6 := H_x6.out
            have hk := H_hk.out
            clear H_x1 H_x2 H_x3 H_x4 H_x5 H_x6 H_q1 H_q2 H_q3 H_q4 H_q5 H_q6
            try simp at x1 x2 x3 x4 x5 x6
            first | (symm; rw [cvB_no]; unfold baseP kindP; rintro ⟨h1, h2⟩; omega) | (symm; rw [cvB_iff]; unfold baseP kindP; omega)
          have den : (c.n == 0) = true := by rw [hen]; rfl
          have H_hen := Lib.hid hen; clear hen
          cases b6 with
          | false =>
            have ⟨H_q1, H_q2, H_q3, H_q4, H_q5, H_q6, H_x1, H_x2⟩ := hid8 q1 q2 q3 q4 q5 q6 x1 x2; clear q1 q2 q3 q4 q5 q6 x1 x2; have ⟨H_x3, H_x4, H_x5, H_x6⟩ := hid4 x3 x4 x5 x6; clear x3 x4 x5 x6
            go_enter Tryz.func20, Tryz.ntmps20
            go_wp2_with (first | (go_at_call 52; ((with_reducible refine (H_q1.out).mono ?_); rintro e w_ ⟨rfl, rfl⟩)) | (go_at_call 52; ((with_reducible refine (H_q4.out).mono ?_); rintro e w_ ⟨rfl, rfl⟩)) | (go_at_call 52; ((with_reducible refine (H_q5.out).mono ?_); rintro e w_ ⟨rfl, rfl⟩)) | (go_at_call 52; ((with_reducible refine (H_q6.out).mono ?_); rintro e w_ ⟨rfl, rfl⟩)) | (go_at_call 51; ((with_reducible refine (H_q2.out).mono ?_); rintro e w_ ⟨rfl, rfl⟩)) | (go_at_call 51; ((with_reducible refine (H_q3.out).mono ?_); rintro e w_ ⟨rfl, rfl⟩)))
            go_ret
            refine ⟨ret_bool ?_, (Below.refl _ _).alloc (Nat.le_refl _) _⟩
            have x1 := H_x1.out; have x2 := H_x2.out; have x3 := H_x3.out; have x4 := H_x4.out; have x5 := H_x5.out; have x6 := H_x6.out
            have hk := H_hk.out
            clear H_x1 H_x2 H_x3 H_x4 H_x5 H_x6 H_q1 H_q2 H_q3 H_q4 H_q5 H_q6
            try simp at x1 x2 x3 x4 x5 x6
            first | (symm; rw [cvB_no]; unfold baseP kindP; rintro ⟨h1, h2⟩; omega) | (symm; rw [cvB_iff]; unfold baseP kindP; omega)
          | true =>
            by_cases hli : c.l = c.i
            · have dli : (c.l != c.i) = false := by simp [hli]
              have ⟨H_q1, H_q2, H_q3, H_q4, H_q5, H_q6, H_x1, H_x2⟩ := hid8 q1 q2 q3 q4 q5 q6 x1 x2; clear q1 q2 q3 q4 q5 q6 x1 x2; have ⟨H_x3, H_x4, H_x5, H_x6, H_hli⟩ := hid5 x3 x4 x5 x6 hli; clear x3 x4 x5 x6 hli
              go_enter Tryz.func20, Tryz.ntmps20
              go_wp2_with (first | (go_at_call 52; ((with_reducible refine (H_q1.out).mono ?_); rintro e w_ ⟨rfl, rfl⟩)) | (go_at_call 52; ((with_reducible refine (H_q4.out).mono ?_); rintro e w_ ⟨rfl, rfl⟩)) | (go_at_call 52; ((with_reducible refine (H_q5.out).mono ?_); rintro e w_ ⟨rfl, rfl⟩)) | (go_at_call 52; ((with_reducible refine (H_q6.out).mono ?_); rintro e w_ ⟨rfl, rfl⟩)) | (go_at_call 51; ((with_reducible refine (H_q2.out).mono ?_); rintro e w_ ⟨rfl, rfl⟩)) | (go_at_call 51; ((with_reducible refine (H_q3.out).mono ?_); rintro e w_ ⟨rfl, rfl⟩)))
              go_ret
              refine ⟨ret_bool ?_, (Below.refl _ _).alloc (Nat.le_refl _) _⟩
              have x1 := H_x1.out; have x2 := H_x2.out; have x3 := H_x3.out; have x4 := H_x4.out; have x5 := H_x5.out; have x6 := H_x6.out
              have hk := H_hk.out
              clear H_x1 H_x2 H_x3 H_x4 H_x5 H_x6 H_q1 H_q2 H_q3 H_q4 H_q5 H_q6
              try simp at x1 x2 x3 x4 x5 x6
              have hli := H_hli.out; first | (symm; rw [cvB_no]; unfold baseP kindP; rintro ⟨h1, h2⟩; omega) | (symm; rw [cvB_iff]; unfold baseP kindP; omega)
            have dli : (c.l != c.i) = true := by simp [hli]
            have ⟨H_q1, H_q2, H_q3, H_q4, H_q5, H_q6, H_x1, H_x2⟩ := hid8 q1 q2 q3 q4 q5 q6 x1 x2; clear q1 q2 q3 q4 q5 q6 x1 x2; have ⟨H_x3, H_x4, H_x5, H_x6⟩ := hid4 x3 x4 x5 x6; clear x3 x4 x5 x6
            go_enter Tryz.func20, Tryz.ntmps20
            go_wp2_with (first | (go_at_call 52; ((with_reducible refine (H_q1.out).mono ?_); rintro e w_ ⟨rfl, rfl⟩)) | (go_at_call 52; ((with_reducible refine (H_q4.out).mono ?_); rintro e w_ ⟨rfl, rfl⟩)) | (go_at_call 52; ((with_reducible refine (H_q5.out).mono ?_); rintro e w_ ⟨rfl, rfl⟩)) | (go_at_call 52; ((with_reducible refine (H_q6.out).mono ?_); rintro e w_ ⟨rfl, rfl⟩)) | (go_at_call 51; ((with_reducible refine (H_q2.out).mono ?_); rintro e w_ ⟨rfl, rfl⟩)) | (go_at_call 51; ((with_reducible refine (H_q3.out).mono ?_); rintro e w_ ⟨rfl, rfl⟩)))
            go_ret
            refine ⟨ret_bool ?_, (Below.refl _ _).alloc (Nat.le_refl _) _⟩
            have x1 := H_x1.out; have x2 := H_x2.out; have x3 := H_x3.out; have x4 := H_x4.out; have x5 := H_x5.out; have x6 := H_x6.out
            have hen := H_hen.out
            have hk := H_hk.out
            clear H_x1 H_x2 H_x3 H_x4 H_x5 H_x6 H_q1 H_q2 H_q3 H_q4 H_q5 H_q6
            try simp at x1 x2 x3 x4 x5 x6
            first | (symm; rw [cvB_no]; unfold baseP kindP; rintro ⟨h1, h2⟩; omega) | (symm; rw [cvB_iff]; unfold baseP kindP; omega)
set_option maxHeartbeats 8000000 in
theorem rvalid0 (c : Crd) (hc : CFit c) (hk : (c.k ≠ 1 ∧ c.k ≠ 2 ∧ c.k ≠ 3)) (w : World) : Calls Tryz.prog 20 #[.agg c.cells.toArray] w fun e w' => e = .returned (.bool (cvB c)) ∧ Below w.heap.size w w' := by
  obtain ⟨w1, hw1⟩ : ∃ w1, w.alloc (.cells c.cells.toArray 28) = w1 := ⟨_, rfl⟩
  have q1 := rin_any c.i 1 1000000 w1
  have q2 := rExponent_any c.e w1
  have q3 := rExponent_any c.s w1
  have q4 := rin_any c.d 0 0 w1
  have q5 := rin_any c.n 0 0 w1
  have q6 := rin_any c.l 0 0 w1
  rw [← hw1] at q1 q2 q3 q4 q5 q6
  clear hw1
  have x1 := @wB_iff c.i 1 1000000
  have x2 := @wthB_iff c.e 0
  have x3 := @wthB_iff c.s 0
  have x4 := @wB_iff c.d 0 0
  have x5 := @wB_iff c.n 0 0
  have x6 := @wB_iff c.l 0 0
  generalize wB c.i 1 1000000 = b1 at *
  generalize wthB c.e 0 = b2 at *
  generalize wthB c.s 0 = b3 at *
  generalize wB c.d 0 0 = b4 at *
  generalize wB c.n 0 0 = b5 at *
  generalize wB c.l 0 0 = b6 at *
  have m1 : (c.k == 1) = false := by simp [hk]
  have m2 : (c.k == 2) = false := by simp [hk]
  have m3 : (c.k == 3) = false := by simp [hk]
  unfold Crd.cells at q1 q2 q3 q4 q5 q6 ⊢
  have ⟨H_hk, H_hc⟩ := hid2 hk hc; clear hk hc
  cases b2 with
  | false =>
    have ⟨H_q1, H_q2, H_q3, H_q4, H_q5, H_q6, H_x1, H_x2⟩ := hid8 q1 q2 q3 q4 q5 q6 x1 x2; clear q1 q2 q3 q4 q5 q6 x1 x2; have ⟨H_x3, H_x4, H_x5, H_x6⟩ := hid4 x3 x4 x5 x6; clear x3 x4 x5 x6
    go_enter Tryz.func20, Tryz.ntmps20
    go_wp2_with (first | (go_at_call 52; ((with_reducible refine (H_q1.out).mono ?_); rintro e w_ ⟨rfl, rfl⟩)) | (go_at_call 52; ((with_reducible refine (H_q4.out).mono ?_); rintro e w_ ⟨rfl, rfl⟩)) | (go_at_call 52; ((with_reducible refine (H_q5.out).mono ?_); rintro e w_ ⟨rfl, rfl⟩)) | (go_at_call 52; ((with_reducible refine (H_q6.out).mono ?_); rintro e w_ ⟨rfl, rfl⟩)) | (go_at_call 51; ((with_reducible refine (H_q2.out).mono ?_); rintro e w_ ⟨rfl, rfl⟩)) | (go_at_call 51; ((with_reducible refine (H_q3.out).mono ?_); rintro e w_ ⟨rfl, rfl⟩)))
    go_ret
    refine ⟨ret_bool ?_, (Below.refl _ _).alloc (Nat.le_refl _) _⟩
    have x1 := H_x1.out; have x2 := H_x2.out; have x3 := H_x3.out; have x4 := H_x4.out; have x5 := H_x5.out; have x6 := H_x6.out
    have hk := H_hk.out
    clear H_x1 H_x2 H_x3 H_x4 H_x5 H_x6 H_q1 H_q2 H_q3 H_q4 H_q5 H_q6
    try simp at x1 x2 x3 x4 x5 x6
    first | (symm; rw [cvB_no]; unfold baseP kindP; rintro ⟨h1, h2⟩; omega) | (symm; rw [cvB_iff]; unfold baseP kindP; omega)
  | true =>
    cases b3 with
    | false =>
      have ⟨H_q1, H_q2, H_q3, H_q4, H_q5, H_q6, H_x1, H_x2⟩ := hid8 q1 q2 q3 q4 q5 q6 x1 x2; clear q1 q2 q3 q4 q5 q6 x1 x2; have ⟨H_x3, H_x4, H_x5, H_x6⟩ := hid4 x3 x4 x5 x6; clear x3 x4 x5 x6
      go_enter Tryz.func20, Tryz.ntmps20
      go_wp2_with (first | (go_at_call 52; ((with_reducible refine (H_q1.out).mono ?_); rintro e w_ ⟨rfl, rfl⟩)) | (go_at_call 52; ((with_reducible refine (H_q4.out).mono ?_); rintro e w_ ⟨rfl, rfl⟩)) | (go_at_call 52; ((with_reducible refine (H_q5.out).mono ?_); rintro e w_ ⟨rfl, rfl⟩)) | (go_at_call 52; ((with_reducible refine (H_q6.out).mono ?_); rintro e w_ ⟨rfl, rfl⟩)) | (go_at_call 51; ((with_reducible refine (H_q2.out).mono ?_); rintro e w_ ⟨rfl, rfl⟩)) | (go_at_call 51; ((with_reducible refine (H_q3.out).mono ?_); rintro e w_ ⟨rfl, rfl⟩)))
      go_ret
      refine ⟨ret_bool ?_, (Below.refl _ _).alloc (Nat.le_refl _) _⟩
      have x1 := H_x1.out; have x2 := H_x2.out; have x3 := H_x3.out; have x4 := H_x4.out; have x5 := H_x5.out; have x6 := H_x6.out
      have hk := H_hk.out
      clear H_x1 H_x2 H_x3 H_x4 H_x5 H_x6 H_q1 H_q2 H_q3 H_q4 H_q5 H_q6
      try simp at x1 x2 x3 x4 x5 x6
      first | (symm; rw [cvB_no]; unfold baseP kindP; rintro ⟨h1, h2⟩; omega) | (symm; rw [cvB_iff]; unfold baseP kindP; omega)
    | true =>
      cases b1 with
      | false =>
        have ⟨H_q1, H_q2, H_q3, H_q4, H_q5, H_q6, H_x1, H_x2⟩ := hid8 q1 q2 q3 q4 q5 q6 x1 x2; clear q1 q2 q3 q4 q5 q6 x1 x2; have ⟨H_x3, H_x4, H_x5, H_x6⟩ := hid4 x3 x4 x5 x6; clear x3 x4 x5 x6
        go_enter Tryz.func20, Tryz.ntmps20
        go_wp2_with (first | (go_at_call 52; ((with_reducible refine (H_q1.out).mono ?_); rintro e w_ ⟨rfl, rfl⟩)) | (go_at_call 52; ((with_reducible refine (H_q4.out).mono ?_); rintro e w_ ⟨rfl, rfl⟩)) | (go_at_call 52; ((with_reducible refine (H_q5.out).mono ?_); rintro e w_ ⟨rfl, rfl⟩)) | (go_at_call 52; ((with_reducible refine (H_q6.out).mono ?_); rintro e w_ ⟨rfl, rfl⟩)) | (go_at_call 51; ((with_reducible refine (H_q2.out).mono ?_); rintro e w_ ⟨rfl, rfl⟩)) | (go_at_call 51; ((with_reducible refine (H_q3.out).mono ?_); rintro e w_ ⟨rfl, rfl⟩)))
        go_ret
        refine ⟨ret_bool ?_, (Below.refl _ _).alloc (Nat.le_refl _) _⟩
        have x1 := H_x1.out; have x2 := H_x2.out; have x3 := H_x3.out; have x4 := H_x4.out; have x5 := H_x5.out; have x6 := H_x6.out
        have hk := H_hk.out
        clear H_x1 H_x2 H_x3 H_x4 H_x5 H_x6 H_q1 H_q2 H_q3 H_q4 H_q5 H_q6
        try simp at x1 x2 x3 x4 x5 x6
        first | (symm; rw [cvB_no]; unfold baseP kindP; rintro ⟨h1, h2⟩; omega) | (symm; rw [cvB_iff]; unfold baseP kindP; omega)
      | true =>
        by_cases h1 : c.f < 0
        · have dh1 : decide (c.f < 0) = true := decide_eq_true h1
          have ⟨H_q1, H_q2, H_q3, H_q4, H_q5, H_q6, H_x1, H_x2⟩ := hid8 q1 q2 q3 q4 q5 q6 x1 x2; clear q1 q2 q3 q4 q5 q6 x1 x2; have ⟨H_x3, H_x4, H_x5, H_x6⟩ := hid4 x3 x4 x5 x6; clear x3 x4 x5 x6
          go_enter Tryz.func20, Tryz.ntmps20
          go_wp2_with (first | (go_at_call 52; ((with_reducible refine (H_q1.out).mono ?_); rintro e w_ ⟨rfl, rfl⟩)) | (go_at_call 52; ((with_reducible refine (H_q4.out).mono ?_); rintro e w_ ⟨rfl, rfl⟩)) | (go_at_call 52; ((with_reducible refine (H_q5.out).mono ?_); rintro e w_ ⟨rfl, rfl⟩)) | (go_at_call 52; ((with_reducible refine (H_q6.out).mono ?_); rintro e w_ ⟨rfl, rfl⟩)) | (go_at_call 51; ((with_reducible refine (H_q2.out).mono ?_); rintro e w_ ⟨rfl, rfl⟩)) | (go_at_call 51; ((with_reducible refine (H_q3.out).mono ?_); rintro e w_ ⟨rfl, rfl⟩)))
          go_ret
          refine ⟨ret_bool ?_, (Below.refl _ _).alloc (Nat.le_refl _) _⟩
          have x1 := H_x1.out; have x2 := H_x2.out; have x3 := H_x3.out; have x4 := H_x4.out; have x5 := H_x5.out; have x6 := H_x6.out
          have hk := H_hk.out
          clear H_x1 H_x2 H_x3 H_x4 H_x5 H_x6 H_q1 H_q2 H_q3 H_q4 H_q5 H_q6
          try simp at x1 x2 x3 x4 x5 x6
          first | (symm; rw [cvB_no]; unfold baseP kindP; rintro ⟨h1, h2⟩; omega) | (symm; rw [cvB_iff]; unfold baseP kindP; omega)
        have dh1 : decide (c.f < 0) = false := decide_eq_false h1
        by_cases h2 : c.u ≤ c.f
        · have dh2 : decide (c.u ≤ c.f) = true := decide_eq_true h2
          have ⟨H_q1, H_q2, H_q3, H_q4, H_q5, H_q6, H_x1, H_x2⟩ := hid8 q1 q2 q3 q4 q5 q6 x1 x2; clear q1 q2 q3 q4 q5 q6 x1 x2; have ⟨H_x3, H_x4, H_x5, H_x6⟩ := hid4 x3 x4 x5 x6; clear x3 x4 x5 x6
          go_enter Tryz.func20, Tryz.ntmps20
          go_wp2_with (first | (go_at_call 52; ((with_reducible refine (H_q1.out).mono ?_); rintro e w_ ⟨rfl, rfl⟩)) | (go_at_call 52; ((with_reducible refine (H_q4.out).mono ?_); rintro e w_ ⟨rfl, rfl⟩)) | (go_at_call 52; ((with_reducible refine (H_q5.out).mono ?_); rintro e w_ ⟨rfl, rfl⟩)) | (go_at_call 52; ((with_reducible refine (H_q6.out).mono ?_); rintro e w_ ⟨rfl, rfl⟩)) | (go_at_call 51; ((with_reducible refine (H_q2.out).mono ?_); rintro e w_ ⟨rfl, rfl⟩)) | (go_at_call 51; ((with_reducible refine (H_q3.out).mono ?_); rintro e w_ ⟨rfl, rfl⟩)))
          go_ret
          refine ⟨ret_bool ?_, (Below.refl _ _).alloc (Nat.le_refl _) _⟩
          have x1 := H_x1.out; have x2 := H_x2.out; have x3 := H_x3.out; have x4 := H_x4.out; have x5 := H_x5.out; have x6 := H_x6.out
          have hk := H_hk.out
          clear H_x1 H_x2 H_x3 H_x4 H_x5 H_x6 H_q1 H_q2 H_q3 H_q4 H_q5 H_q6
          try simp at x1 x2 x3 x4 x5 x6
          first | (symm; rw [cvB_no]; unfold baseP kindP; rintro ⟨h1, h2⟩; omega) | (symm; rw [cvB_iff]; unfold baseP kindP; omega)
        have dh2 : decide (c.u ≤ c.f) = false := decide_eq_false h2
        by_cases h3 : 1000000000 < c.u
        · have dh3 : decide (1000000000 < c.u) = true := decide_eq_true h3
          have ⟨H_q1, H_q2, H_q3, H_q4, H_q5, H_q6, H_x1, H_x2⟩ := hid8 q1 q2 q3 q4 q5 q6 x1 x2; clear q1 q2 q3 q4 q5 q6 x1 x2; have ⟨H_x3, H_x4, H_x5, H_x6⟩ := hid4 x3 x4 x5 x6; clear x3 x4 x5 x6
          go_enter Tryz.func20, Tryz.ntmps20
          go_wp2_with (first | (go_at_call 52; ((with_reducible refine (H_q1.out).mono ?_); rintro e w_ ⟨rfl, rfl⟩)) | (go_at_call 52; ((with_reducible refine (H_q4.out).mono ?_); rintro e w_ ⟨rfl, rfl⟩)) | (go_at_call 52; ((with_reducible refine (H_q5.out).mono ?_); rintro e w_ ⟨rfl, rfl⟩)) | (go_at_call 52; ((with_reducible refine (H_q6.out).mono ?_); rintro e w_ ⟨rfl, rfl⟩)) | (go_at_call 51; ((with_reducible refine (H_q2.out).mono ?_); rintro e w_ ⟨rfl, rfl⟩)) | (go_at_call 51; ((with_reducible refine (H_q3.out).mono ?_); rintro e w_ ⟨rfl, rfl⟩)))
          go_ret
          refine ⟨ret_bool ?_, (Below.refl _ _).alloc (Nat.le_refl _) _⟩
          have x1 := H_x1.out; have x2 := H_x2.out; have x3 := H_x3.out; have x4 := H_x4.out; have x5 := H_x5.out; have x6 := H_x6.out
          have hk := H_hk.out
          clear H_x1 H_x2 H_x3 H_x4 H_x5 H_x6 H_q1 H_q2 H_q3 H_q4 H_q5 H_q6
          try simp at x1 x2 x3 x4 x5 x6
          first | (symm; rw [cvB_no]; unfold baseP kindP; rintro ⟨h1, h2⟩; omega) | (symm; rw [cvB_iff]; unfold baseP kindP; omega)
        have dh3 : decide (1000000000 < c.u) = false := decide_eq_false h3
        have ⟨H_q1, H_q2, H_q3, H_q4, H_q5, H_q6, H_x1, H_x2⟩ := hid8 q1 q2 q3 q4 q5 q6 x1 x2; clear q1 q2 q3 q4 q5 q6 x1 x2; have ⟨H_x3, H_x4, H_x5, H_x6⟩ := hid4 x3 x4 x5 x6; clear x3 x4 x5 x6
        go_enter Tryz.func20, Tryz.ntmps20
        go_wp2_with (first | (go_at_call 52; ((with_reducible refine (H_q1.out).mono ?_); rintro e w_ ⟨rfl, rfl⟩)) | (go_at_call 52; ((with_reducible refine (H_q4.out).mono ?_); rintro e w_ ⟨rfl, rfl⟩)) | (go_at_call 52; ((with_reducible refine (H_q5.out).mono ?_); rintro e w_ ⟨rfl, rfl⟩)) | (go_at_call 52; ((with_reducible refine (H_q6.out).mono ?_); rintro e w_ ⟨rfl, rfl⟩)) | (go_at_call 51; ((with_reducible refine (H_q2.out).mono ?_); rintro e w_ ⟨rfl, rfl⟩)) | (go_at_call 51; ((with_reducible refine (H_q3.out).mono ?_); rintro e w_ ⟨rfl, rfl⟩)))
        go_ret
        refine ⟨ret_bool ?_, (Below.refl _ _).alloc (Nat.le_refl _) _⟩
        have x1 := H_x1.out; have x2 := H_x2.out; have x3 := H_x3.out; have x4 := H_x4.out; have x5 := H_x5.out; have x6 := H_x6.out
        have hk := H_hk.out
        clear H_x1 H_x2 H_x3 H_x4 H_x5 H_x6 H_q1 H_q2 H_q3 H_q4 H_q5 H_q6
        try simp at x1 x2 x3 x4 x5 x6
        first | (symm; rw [cvB_no]; unfold baseP kindP; rintro ⟨h1, h2⟩; omega) | (symm; rw [cvB_iff]; unfold baseP kindP; omega)
theorem rcvalid_any (c : Crd) (hc : CFit c) (w : World) : Calls Tryz.prog 20 #[.agg c.cells.toArray] w fun e w' => e = .returned (.bool (cvB c)) ∧ Below w.heap.size w w' := by
  by_cases h1 : c.k = 1
  · exact rvalid1 c hc h1 w
  · by_cases h2 : c.k = 2
    · exact rvalid2 c hc h2 w
    · by_cases h3 : c.k = 3
      · exact rvalid3 c hc h3 w
      · exact rvalid0 c hc ⟨h1, h2, h3⟩ w
set_option maxHeartbeats 1000000 in
theorem rmessage_any (c : Crd) (w : World) : Calls Tryz.prog 78 #[.agg c.cells.toArray] w (NewInts7 c.msg w) := by
  unfold Crd.cells Crd.msg
  go_enter Tryz.func78, Tryz.ntmps78
  go_wp2_with fail
  go_ret
  refine ⟨w.heap.size + 1, rfl, ?_, by omega, ((Below.refl _ _).alloc (Nat.le_refl _) _).alloc (by simp) _⟩
  exact ints_lit (w := w.alloc _) (E := 3) [c.i, c.k, c.d, c.n, c.f, c.u, c.l] _ (by simp)
/-- whether two lists of cards are the same -/
def csB : List Crd → List Crd → Bool
  | [], [] => true
  | x :: r, y :: s => ceqB x y && csB r s
  | _, _ => false
end
end Go.Proofs.YtclgncaghiinhaaGreatDoor

/- Contracts of the reference of card. -/
import Derived.Test.YtoehobaigfmnpaaDoorCaE
import Derived.Test.YtoehobaigfmnpaaDoorSgR
namespace Go.Proofs.YtoehobaigfmnpaaDoor
set_option linter.unusedSimpArgs false
set_option linter.unusedVariables false
set_option maxRecDepth 100000
open Go.RowKit Go.Maps

theorem rin_any (n lo hi : Int) (w : World) : Calls Tryd.prog 45 #[.int .i64 n, .int .i64 lo, .int .i64 hi] w fun e w' => e = .returned (.bool (wB n lo hi)) ∧ w = w' := by
  by_cases h1 : lo ≤ n
  · by_cases h2 : n ≤ hi
    · have e : wB n lo hi = true := by simp [wB, h1, h2]
      have H_e := Lib.hid e; clear e
      go_enter Tryd.func45, Tryd.ntmps45
      go_wp2
      go_ret
      exact ⟨ret_bool (by rw [H_e.out]), rfl⟩
    · have e : wB n lo hi = false := by simp [wB, h2]
      have h3 : decide (n ≤ hi) = false := by simpa using h2
      have H_e := Lib.hid e; clear e
      go_enter Tryd.func45, Tryd.ntmps45
      go_wp2
      go_ret
      exact ⟨ret_bool (by rw [H_e.out]), rfl⟩
  · have e : wB n lo hi = false := by simp [wB, h1]
    have h3 : decide (lo ≤ n) = false := by simpa using h1
    have H_e := Lib.hid e; clear e
    go_enter Tryd.func45, Tryd.ntmps45
    go_wp2
    go_ret
    exact ⟨ret_bool (by rw [H_e.out]), rfl⟩
set_option maxHeartbeats 8000000 in
theorem rvalid1 (c : Crd) (hc : CFit c) (hk : c.k = 1) (w : World) : Calls Tryd.prog 20 #[.agg c.cells.toArray] w fun e w' => e = .returned (.bool (cvB c)) ∧ Below w.heap.size w w' := by
  obtain ⟨w1, hw1⟩ : ∃ w1, w.alloc (.cells c.cells.toArray 31) = w1 := ⟨_, rfl⟩
  have q1 := rin_any c.i 1 1000000 w1
  have q2 := rExponent_any c.e w1
  have q3 := rExponent_any c.s w1
  have q4 := rin_any c.d 1 400 w1
  have q5 := rin_any c.n 1 1000000000 w1
  have q6 := rin_any c.l 0 0 w1
  rw [← hw1] at q1 q2 q3 q4 q5 q6
  clear hw1
  have x1 := @wB_iff c.i 1 1000000
  have x2 := @wthB_iff c.e 0
  have x3 := @wthB_iff c.s 0
  have x4 := @wB_iff c.d 1 400
  have x5 := @wB_iff c.n 1 1000000000
  have x6 := @wB_iff c.l 0 0
  generalize wB c.i 1 1000000 = b1 at *
  generalize wthB c.e 0 = b2 at *
  generalize wthB c.s 0 = b3 at *
  generalize wB c.d 1 400 = b4 at *
  generalize wB c.n 1 1000000000 = b5 at *
  generalize wB c.l 0 0 = b6 at *
  have m1 : (c.k == 1) = true := by simp [hk]
  have m2 : (c.k == 2) = false := by simp [hk]
  have m3 : (c.k == 3) = false := by simp [hk]
  unfold Crd.cells at q1 q2 q3 q4 q5 q6 ⊢
  have H_hk := Lib.hid hk; clear hk; have H_hc := Lib.hid hc; clear hc
  cases b2 with
  | false =>
    have H_q1 := Lib.hid q1; clear q1; have H_q2 := Lib.hid q2; clear q2; have H_q3 := Lib.hid q3; clear q3; have H_q4 := Lib.hid q4; clear q4; have H_q5 := Lib.hid q5; clear q5; have H_q6 := Lib.hid q6; clear q6; have H_x1 := Lib.hid x1; clear x1; have H_x2 := Lib.hid x2; clear x2; have H_x3 := Lib.hid x3; clear x3; have H_x4 := Lib.hid x4; clear x4; have H_x5 := Lib.hid x5; clear x5; have H_x6 := Lib.hid x6; clear x6
    go_enter Tryd.func20, Tryd.ntmps20
    go_wp2_with (first | (go_at_call 45; ((with_reducible refine (H_q1.out).mono ?_); rintro e w_ ⟨rfl, rfl⟩)) | (go_at_call 45; ((with_reducible refine (H_q4.out).mono ?_); rintro e w_ ⟨rfl, rfl⟩)) | (go_at_call 45; ((with_reducible refine (H_q5.out).mono ?_); rintro e w_ ⟨rfl, rfl⟩)) | (go_at_call 45; ((with_reducible refine (H_q6.out).mono ?_); rintro e w_ ⟨rfl, rfl⟩)) | (go_at_call 44; ((with_reducible refine (H_q2.out).mono ?_); rintro e w_ ⟨rfl, rfl⟩)) | (go_at_call 44; ((with_reducible refine (H_q3.out).mono ?_); rintro e w_ ⟨rfl, rfl⟩)))
    go_ret
    refine ⟨ret_bool ?_, (Below.refl _ _).alloc (Nat.le_refl _) _⟩
    have x1 := H_x1.out; have x2 := H_x2.out; have x3 := H_x3.out; have x4 := H_x4.out; have x5 := H_x5.out; have x6 := H_x6.out
    have hk := H_hk.out
    clear H_x1 H_x2 H_x3 H_x4 H_x5 H_x6 H_q1 H_q2 H_q3 H_q4 H_q5 H_q6
    try simp at x1 x2 x3 x4 x5 x6
    first | (symm; rw [cvB_no]; unfold baseP kindP; rintro ⟨h1, h2⟩; omega) | (symm; rw [cvB_iff]; unfold baseP kindP; omega)
  | true =>
    cases b3 with
    | false =>
      have H_q1 := Lib.hid q1; clear q1; have H_q2 := Lib.hid q2; clear q2; have H_q3 := Lib.hid q3; clear q3; have H_q4 := Lib.hid q4; clear q4; have H_q5 := Lib.hid q5; clear q5; have H_q6 := Lib.hid q6; clear q6; have H_x1 := Lib.hid x1; clear x1; have H_x2 := Lib.hid x2; clear x2; have H_x3 := Lib.hid x3; clear x3; have H_x4 := Lib.hid x4; clear x4; have H_x5 := Lib.hid x5; clear x5; have H_x6 := Lib.hid x6; clear x6
      go_enter Tryd.func20, Tryd.ntmps20
      go_wp2_with (first | (go_at_call 45; ((with_reducible refine (H_q1.out).mono ?_); rintro e w_ ⟨rfl, rfl⟩)) | (go_at_call 45; ((with_reducible refine (H_q4.out).mono ?_); rintro e w_ ⟨rfl, rfl⟩)) | (go_at_call 45; ((with_reducible refine (H_q5.out).mono ?_); rintro e w_ ⟨rfl, rfl⟩)) | (go_at_call 45; ((with_reducible refine (H_q6.out).mono ?_); rintro e w_ ⟨rfl, rfl⟩)) | (go_at_call 44; ((with_reducible refine (H_q2.out).mono ?_); rintro e w_ ⟨rfl, rfl⟩)) | (go_at_call 44; ((with_reducible refine (H_q3.out).mono ?_); rintro e w_ ⟨rfl, rfl⟩)))
      go_ret
      refine ⟨ret_bool ?_, (Below.refl _ _).alloc (Nat.le_refl _) _⟩
      have x1 := H_x1.out; have x2 := H_x2.out; have x3 := H_x3.out; have x4 := H_x4.out; have x5 := H_x5.out; have x6 := H_x6.out
      have hk := H_hk.out
      clear H_x1 H_x2 H_x3 H_x4 H_x5 H_x6 H_q1 H_q2 H_q3 H_q4 H_q5 H_q6
      try simp at x1 x2 x3 x4 x5 x6
      first | (symm; rw [cvB_no]; unfold baseP kindP; rintro ⟨h1, h2⟩; omega) | (symm; rw [cvB_iff]; unfold baseP kindP; omega)
    | true =>
      cases b1 with
      | false =>
        have H_q1 := Lib.hid q1; clear q1; have H_q2 := Lib.hid q2; clear q2; have H_q3 := Lib.hid q3; clear q3; have H_q4 := Lib.hid q4; clear q4; have H_q5 := Lib.hid q5; clear q5; have H_q6 := Lib.hid q6; clear q6; have H_x1 := Lib.hid x1; clear x1; have H_x2 := Lib.hid x2; clear x2; have H_x3 := Lib.hid x3; clear x3; have H_x4 := Lib.hid x4; clear x4; have H_x5 := Lib.hid x5; clear x5; have H_x6 := Lib.hid x6; clear x6
        go_enter Tryd.func20, Tryd.ntmps20
        go_wp2_with (first | (go_at_call 45; ((with_reducible refine (H_q1.out).mono ?_); rintro e w_ ⟨rfl, rfl⟩)) | (go_at_call 45; ((with_reducible refine (H_q4.out).mono ?_); rintro e w_ ⟨rfl, rfl⟩)) | (go_at_call 45; ((with_reducible refine (H_q5.out).mono ?_); rintro e w_ ⟨rfl, rfl⟩)) | (go_at_call 45; ((with_reducible refine (H_q6.out).mono ?_); rintro e w_ ⟨rfl, rfl⟩)) | (go_at_call 44; ((with_reducible refine (H_q2.out).mono ?_); rintro e w_ ⟨rfl, rfl⟩)) | (go_at_call 44; ((with_reducible refine (H_q3.out).mono ?_); rintro e w_ ⟨rfl, rfl⟩)))
        go_ret
        refine ⟨ret_bool ?_, (Below.refl _ _).alloc (Nat.le_refl _) _⟩
        have x1 := H_x1.out; have x2 := H_x2.out; have x3 := H_x3.out; have x4 := H_x4.out; have x5 := H_x5.out; have x6 := H_x6.out
        have hk := H_hk.out
        clear H_x1 H_x2 H_x3 H_x4 H_x5 H_x6 H_q1 H_q2 H_q3 H_q4 H_q5 H_q6
        try simp at x1 x2 x3 x4 x5 x6
        first | (symm; rw [cvB_no]; unfold baseP kindP; rintro ⟨h1, h2⟩; omega) | (symm; rw [cvB_iff]; unfold baseP kindP; omega)
      | true =>
        by_cases h1 : c.f < 0
        · have dh1 : decide (c.f < 0) = true := decide_eq_true h1
          have H_q1 := Lib.hid q1; clear q1; have H_q2 := Lib.hid q2; clear q2; have H_q3 := Lib.hid q3; clear q3; have H_q4 := Lib.hid q4; clear q4; have H_q5 := Lib.hid q5; clear q5; have H_q6 := Lib.hid q6; clear q6; have H_x1 := Lib.hid x1; clear x1; have H_x2 := Lib.hid x2; clear x2; have H_x3 := Lib.hid x3; clear x3; have H_x4 := Lib.hid x4; clear x4; have H_x5 := Lib.hid x5; clear x5; have H_x6 := Lib.hid x6; clear x6
          go_enter Tryd.func20, Tryd.ntmps20
          go_wp2_with (first | (go_at_call 45; ((with_reducible refine (H_q1.out).mono ?_); rintro e w_ ⟨rfl, rfl⟩)) | (go_at_call 45; ((with_reducible refine (H_q4.out).mono ?_); rintro e w_ ⟨rfl, rfl⟩)) | (go_at_call 45; ((with_reducible refine (H_q5.out).mono ?_); rintro e w_ ⟨rfl, rfl⟩)) | (go_at_call 45; ((with_reducible refine (H_q6.out).mono ?_); rintro e w_ ⟨rfl, rfl⟩)) | (go_at_call 44; ((with_reducible refine (H_q2.out).mono ?_); rintro e w_ ⟨rfl, rfl⟩)) | (go_at_call 44; ((with_reducible refine (H_q3.out).mono ?_); rintro e w_ ⟨rfl, rfl⟩)))
          go_ret
          refine ⟨ret_bool ?_, (Below.refl _ _).alloc (Nat.le_refl _) _⟩
          have x1 := H_x1.out; have x2 := H_x2.out; have x3 := H_x3.out; have x4 := H_x4.out; have x5 := H_x5.out; have x6 := H_x6.out
          have hk := H_hk.out
          clear H_x1 H_x2 H_x3 H_x4 H_x5 H_x6 H_q1 H_q2 H_q3 H_q4 H_q5 H_q6
          try simp at x1 x2 x3 x4 x5 x6
          first | (symm; rw [cvB_no]; unfold baseP kindP; rintro ⟨h1, h2⟩; omega) | (symm; rw [cvB_iff]; unfold baseP kindP; omega)
        have dh1 : decide (c.f < 0) = false := decide_eq_false h1
        by_cases h2 : c.u ≤ c.f
        · have dh2 : decide (c.u ≤ c.f) = true := decide_eq_true h2
          have H_q1 := Lib.hid q1; clear q1; have H_q2 := Lib.hid q2; clear q2; have H_q3 := Lib.hid q3; clear q3; have H_q4 := Lib.hid q4; clear q4; have H_q5 := Lib.hid q5; clear q5; have H_q6 := Lib.hid q6; clear q6; have H_x1 := Lib.hid x1; clear x1; have H_x2 := Lib.hid x2; clear x2; have H_x3 := Lib.hid x3; clear x3; have H_x4 := Lib.hid x4; clear x4; have H_x5 := Lib.hid x5; clear x5; have H_x6 := Lib.hid x6; clear x6
          go_enter Tryd.func20, Tryd.ntmps20
          go_wp2_with (first | (go_at_call 45; ((with_reducible refine (H_q1.out).mono ?_); rintro e w_ ⟨rfl, rfl⟩)) | (go_at_call 45; ((with_reducible refine (H_q4.out).mono ?_); rintro e w_ ⟨rfl, rfl⟩)) | (go_at_call 45; ((with_reducible refine (H_q5.out).mono ?_); rintro e w_ ⟨rfl, rfl⟩)) | (go_at_call 45; ((with_reducible refine (H_q6.out).mono ?_); rintro e w_ ⟨rfl, rfl⟩)) | (go_at_call 44; ((with_reducible refine (H_q2.out).mono ?_); rintro e w_ ⟨rfl, rfl⟩)) | (go_at_call 44; ((with_reducible refine (H_q3.out).mono ?_); rintro e w_ ⟨rfl, rfl⟩)))
          go_ret
          refine ⟨ret_bool ?_, (Below.refl _ _).alloc (Nat.le_refl _) _⟩
          have x1 := H_x1.out; have x2 := H_x2.out; have x3 := H_x3.out; have x4 := H_x4.out; have x5 := H_x5.out; have x6 := H_x6.out
          have hk := H_hk.out
          clear H_x1 H_x2 H_x3 H_x4 H_x5 H_x6 H_q1 H_q2 H_q3 H_q4 H_q5 H_q6
          try simp at x1 x2 x3 x4 x5 x6
          first | (symm; rw [cvB_no]; unfold baseP kindP; rintro ⟨h1, h2⟩; omega) | (symm; rw [cvB_iff]; unfold baseP kindP; omega)
        have dh2 : decide (c.u ≤ c.f) = false := decide_eq_false h2
        by_cases h3 : 1000000000 < c.u
        · have dh3 : decide (1000000000 < c.u) = true := decide_eq_true h3
          have H_q1 := Lib.hid q1; clear q1; have H_q2 := Lib.hid q2; clear q2; have H_q3 := Lib.hid q3; clear q3; have H_q4 := Lib.hid q4; clear q4; have H_q5 := Lib.hid q5; clear q5; have H_q6 := Lib.hid q6; clear q6; have H_x1 := Lib.hid x1; clear x1; have H_x2 := Lib.hid x2; clear x2; have H_x3 := Lib.hid x3; clear x3; have H_x4 := Lib.hid x4; clear x4; have H_x5 := Lib.hid x5; clear x5; have H_x6 := Lib.hid x6; clear x6
          go_enter Tryd.func20, Tryd.ntmps20
          go_wp2_with (first | (go_at_call 45; ((with_reducible refine (H_q1.out).mono ?_); rintro e w_ ⟨rfl, rfl⟩)) | (go_at_call 45; ((with_reducible refine (H_q4.out).mono ?_); rintro e w_ ⟨rfl, rfl⟩)) | (go_at_call 45; ((with_reducible refine (H_q5.out).mono ?_); rintro e w_ ⟨rfl, rfl⟩)) | (go_at_call 45; ((with_reducible refine (H_q6.out).mono ?_); rintro e w_ ⟨rfl, rfl⟩)) | (go_at_call 44; ((with_reducible refine (H_q2.out).mono ?_); rintro e w_ ⟨rfl, rfl⟩)) | (go_at_call 44; ((with_reducible refine (H_q3.out).mono ?_); rintro e w_ ⟨rfl, rfl⟩)))
          go_ret
          refine ⟨ret_bool ?_, (Below.refl _ _).alloc (Nat.le_refl _) _⟩
          have x1 := H_x1.out; have x2 := H_x2.out; have x3 := H_x3.out; have x4 := H_x4.out; have x5 := H_x5.out; have x6 := H_x6.out
          have hk := H_hk.out
          clear H_x1 H_x2 H_x3 H_x4 H_x5 H_x6 H_q1 H_q2 H_q3 H_q4 H_q5 H_q6
          try simp at x1 x2 x3 x4 x5 x6
          first | (symm; rw [cvB_no]; unfold baseP kindP; rintro ⟨h1, h2⟩; omega) | (symm; rw [cvB_iff]; unfold baseP kindP; omega)
        have dh3 : decide (1000000000 < c.u) = false := decide_eq_false h3
        cases b4 with
        | false =>
          have H_q1 := Lib.hid q1; clear q1; have H_q2 := Lib.hid q2; clear q2; have H_q3 := Lib.hid q3; clear q3; have H_q4 := Lib.hid q4; clear q4; have H_q5 := Lib.hid q5; clear q5; have H_q6 := Lib.hid q6; clear q6; have H_x1 := Lib.hid x1; clear x1; have H_x2 := Lib.hid x2; clear x2; have H_x3 := Lib.hid x3; clear x3; have H_x4 := Lib.hid x4; clear x4; have H_x5 := Lib.hid x5; clear x5; have H_x6 := Lib.hid x6; clear x6
          go_enter Tryd.func20, Tryd.ntmps20
          go_wp2_with (first | (go_at_call 45; ((with_reducible refine (H_q1.out).mono ?_); rintro e w_ ⟨rfl, rfl⟩)) | (go_at_call 45; ((with_reducible refine (H_q4.out).mono ?_); rintro e w_ ⟨rfl, rfl⟩)) | (go_at_call 45; ((with_reducible refine (H_q5.out).mono ?_); rintro e w_ ⟨rfl, rfl⟩)) | (go_at_call 45; ((with_reducible refine (H_q6.out).mono ?_); rintro e w_ ⟨rfl, rfl⟩)) | (go_at_call 44; ((with_reducible refine (H_q2.out).mono ?_); rintro e w_ ⟨rfl, rfl⟩)) | (go_at_call 44; ((with_reducible refine (H_q3.out).mono ?_); rintro e w_ ⟨rfl, rfl⟩)))
          go_ret
          refine ⟨ret_bool ?_, (Below.refl _ _).alloc (Nat.le_refl _) _⟩
          have x1 := H_x1.out; have x2 := H_x2.out; have x3 := H_x3.out; have x4 := H_x4.out; have x5 := H_x5.out; have x6 := H_x6.out
          have hk := H_hk.out
          clear H_x1 H_x2 H_x3 H_x4 H_x5 H_x6 H_q1 H_q2 H_q3 H_q4 H_q5 H_q6
          try simp at x1 x2 x3 x4 x5 x6
          first | (symm; rw [cvB_no]; unfold baseP kindP; rintro ⟨h1, h2⟩; omega) | (symm; rw [cvB_iff]; unfold baseP kindP; omega)
        | true =>
          cases b5 with
          | false =>
            have H_q1 := Lib.hid q1; clear q1; have H_q2 := Lib.hid q2; clear q2; have H_q3 := Lib.hid q3; clear q3; have H_q4 := Lib.hid q4; clear q4; have H_q5 := Lib.hid q5; clear q5; have H_q6 := Lib.hid q6; clear q6; have H_x1 := Lib.hid x1; clear x1; have H_x2 := Lib.hid x2; clear x2; have H_x3 := Lib.hid x3; clear x3; have H_x4 := Lib.hid x4; clear x4; have H_x5 := Lib.hid x5; clear x5; have H_x6 := Lib.hid x6; clear x6
            go_enter Tryd.func20, Tryd.ntmps20
            go_wp2_with (first | (go_at_call 45; ((with_reducible refine (H_q1.out).mono ?_); rintro e w_ ⟨rfl, rfl⟩)) | (go_at_call 45; ((with_reducible refine (H_q4.out).mono ?_); rintro e w_ ⟨rfl, rfl⟩)) | (go_at_call 45; ((with_reducible refine (H_q5.out).mono ?_); rintro e w_ ⟨rfl, rfl⟩)) | (go_at_call 45; ((with_reducible refine (H_q6.out).mono ?_); rintro e w_ ⟨rfl, rfl⟩)) | (go_at_call 44; ((with_reducible refine (H_q2.out).mono ?_); rintro e w_ ⟨rfl, rfl⟩)) | (go_at_call 44; ((with_reducible refine (H_q3.out).mono ?_); rintro e w_ ⟨rfl, rfl⟩)))
            go_ret
            refine ⟨ret_bool ?_, (Below.refl _ _).alloc (Nat.le_refl _) _⟩
            have x1 := H_x1.out; have x2 := H_x2.out; have x3 := H_x3.out; have x4 := H_x4.out; have x5 := H_x5.out; have x6 := H_x6.out
            have hk := H_hk.out
            clear H_x1 H_x2 H_x3 H_x4 H_x5 H_x6 H_q1 H_q2 H_q3 H_q4 H_q5 H_q6
            try simp at x1 x2 x3 x4 x5 x6
            first | (symm; rw [cvB_no]; unfold baseP kindP; rintro ⟨h1, h2⟩; omega) | (symm; rw [cvB_iff]; unfold baseP kindP; omega)
          | true =>
            by_cases hel : c.l = 0
            rotate_left
            · have del : (c.l == 0) = false := by rw [beq_eq_false_iff_ne]; exact hel
              have H_q1 := Lib.hid q1; clear q1; have H_q2 := Lib.hid q2; clear q2; have H_q3 := Lib.hid q3; clear q3; have H_q4 := Lib.hid q4; clear q4; have H_q5 := Lib.hid q5; clear q5; have H_q6 := Lib.hid q6; clear q6; have H_x1 := Lib.hid x1; clear x1; have H_x2 := Lib.hid x2; clear x2; have H_x3 := Lib.hid x3; clear x3; have H_x4 := Lib.hid x4; clear x4; have H_x5 := Lib.hid x5; clear x5; have H_x6 := Lib.hid x6; clear x6
              go_enter Tryd.func20, Tryd.ntmps20
              go_wp2_with (first | (go_at_call 45; ((with_reducible refine (H_q1.out).mono ?_); rintro e w_ ⟨rfl, rfl⟩)) | (go_at_call 45; ((with_reducible refine (H_q4.out).mono ?_); rintro e w_ ⟨rfl, rfl⟩)) | (go_at_call 45; ((with_reducible refine (H_q5.out).mono ?_); rintro e w_ ⟨rfl, rfl⟩)) | (go_at_call 45; ((with_reducible refine (H_q6.out).mono ?_); rintro e w_ ⟨rfl, rfl⟩)) | (go_at_call 44; ((with_reducible refine (H_q2.out).mono ?_); rintro e w_ ⟨rfl, rfl⟩)) | (go_at_call 44; ((with_reducible refine (H_q3.out).mono ?_); rintro e w_ ⟨rfl, rfl⟩)))
              go_ret
              refine ⟨ret_bool ?_, (Below.refl _ _).alloc (Nat.le_refl _) _⟩
              have x1 := H_x1.out; have x2 := H_x2.out; have x3 := H_x3.out; have x4 := H_x4.out; have x5 := H_x5.out; have x6 := H_x6.out
              have hk := H_hk.out
              clear H_x1 H_x2 H_x3 H_x4 H_x5 H_x6 H_q1 H_q2 H_q3 H_q4 H_q5 H_q6
              try simp at x1 x2 x3 x4 x5 x6
              first | (symm; rw [cvB_no]; unfold baseP kindP; rintro ⟨h1, h2⟩; omega) | (symm; rw [cvB_iff]; unfold baseP kindP; omega)
            have del : (c.l == 0) = true := by rw [hel]; rfl
            have H_hel := Lib.hid hel; clear hel
            have H_q1 := Lib.hid q1; clear q1; have H_q2 := Lib.hid q2; clear q2; have H_q3 := Lib.hid q3; clear q3; have H_q4 := Lib.hid q4; clear q4; have H_q5 := Lib.hid q5; clear q5; have H_q6 := Lib.hid q6; clear q6; have H_x1 := Lib.hid x1; clear x1; have H_x2 := Lib.hid x2; clear x2; have H_x3 := Lib.hid x3; clear x3; have H_x4 := Lib.hid x4; clear x4; have H_x5 := Lib.hid x5; clear x5; have H_x6 := Lib.hid x6; clear x6
            go_enter Tryd.func20, Tryd.ntmps20
            go_wp2_with (first | (go_at_call 45; ((with_reducible refine (H_q1.out).mono ?_); rintro e w_ ⟨rfl, rfl⟩)) | (go_at_call 45; ((with_reducible refine (H_q4.out).mono ?_); rintro e w_ ⟨rfl, rfl⟩)) | (go_at_call 45; ((with_reducible refine (H_q5.out).mono ?_); rintro e w_ ⟨rfl, rfl⟩)) | (go_at_call 45; ((with_reducible refine (H_q6.out).mono ?_); rintro e w_ ⟨rfl, rfl⟩)) | (go_at_call 44; ((with_reducible refine (H_q2.out).mono ?_); rintro e w_ ⟨rfl, rfl⟩)) | (go_at_call 44; ((with_reducible refine (H_q3.out).mono ?_); rintro e w_ ⟨rfl, rfl⟩)))
            go_ret
            refine ⟨ret_bool ?_, (Below.refl _ _).alloc (Nat.le_refl _) _⟩
            have x1 := H_x1.out; have x2 := H_x2.out; have x3 := H_x3.out; have x4 := H_x4.out; have x5 := H_x5.out; have x6 := H_x6.out
            have hel := H_hel.out
            have hk := H_hk.out
            clear H_x1 H_x2 H_x3 H_x4 H_x5 H_x6 H_q1 H_q2 H_q3 H_q4 H_q5 H_q6
            try simp at x1 x2 x3 x4 x5 x6
            first | (symm; rw [cvB_no]; unfold baseP kindP; rintro ⟨h1, h2⟩; omega) | (symm; rw [cvB_iff]; unfold baseP kindP; omega)
set_option maxHeartbeats 8000000 in
theorem rvalid2 (c : Crd) (hc : CFit c) (hk : c.k = 2) (w : World) : Calls Tryd.prog 20 #[.agg c.cells.toArray] w fun e w' => e = .returned (.bool (cvB c)) ∧ Below w.heap.size w w' := by
  obtain ⟨w1, hw1⟩ : ∃ w1, w.alloc (.cells c.cells.toArray 31) = w1 := ⟨_, rfl⟩
  have q1 := rin_any c.i 1 1000000 w1
  have q2 := rExponent_any c.e w1
  have q3 := rExponent_any c.s w1
  have q4 := rin_any c.d 0 400 w1
  have q5 := rin_any c.n 0 0 w1
  have q6 := rin_any c.l 0 0 w1
  rw [← hw1] at q1 q2 q3 q4 q5 q6
  clear hw1
  have x1 := @wB_iff c.i 1 1000000
  have x2 := @wthB_iff c.e 0
  have x3 := @wthB_iff c.s 0
  have x4 := @wB_iff c.d 0 400
  have x5 := @wB_iff c.n 0 0
  have x6 := @wB_iff c.l 0 0
  generalize wB c.i 1 1000000 = b1 at *
  generalize wthB c.e 0 = b2 at *
  generalize wthB c.s 0 = b3 at *
  generalize wB c.d 0 400 = b4 at *
  generalize wB c.n 0 0 = b5 at *
  generalize wB c.l 0 0 = b6 at *
  have m1 : (c.k == 1) = false := by simp [hk]
  have m2 : (c.k == 2) = true := by simp [hk]
  have m3 : (c.k == 3) = false := by simp [hk]
  unfold Crd.cells at q1 q2 q3 q4 q5 q6 ⊢
  have H_hk := Lib.hid hk; clear hk; have H_hc := Lib.hid hc; clear hc
  cases b2 with
  | false =>
    have H_q1 := Lib.hid q1; clear q1; have H_q2 := Lib.hid q2; clear q2; have H_q3 := Lib.hid q3; clear q3; have H_q4 := Lib.hid q4; clear q4; have H_q5 := Lib.hid q5; clear q5; have H_q6 := Lib.hid q6; clear q6; have H_x1 := Lib.hid x1; clear x1; have H_x2 := Lib.hid x2; clear x2; have H_x3 := Lib.hid x3; clear x3; have H_x4 := Lib.hid x4; clear x4; have H_x5 := Lib.hid x5; clear x5; have H_x6 := Lib.hid x6; clear x6
    go_enter Tryd.func20, Tryd.ntmps20
    go_wp2_with (first | (go_at_call 45; ((with_reducible refine (H_q1.out).mono ?_); rintro e w_ ⟨rfl, rfl⟩)) | (go_at_call 45; ((with_reducible refine (H_q4.out).mono ?_); rintro e w_ ⟨rfl, rfl⟩)) | (go_at_call 45; ((with_reducible refine (H_q5.out).mono ?_); rintro e w_ ⟨rfl, rfl⟩)) | (go_at_call 45; ((with_reducible refine (H_q6.out).mono ?_); rintro e w_ ⟨rfl, rfl⟩)) | (go_at_call 44; ((with_reducible refine (H_q2.out).mono ?_); rintro e w_ ⟨rfl, rfl⟩)) | (go_at_call 44; ((with_reducible refine (H_q3.out).mono ?_); rintro e w_ ⟨rfl, rfl⟩)))
    go_ret
    refine ⟨ret_bool ?_, (Below.refl _ _).alloc (Nat.le_refl _) _⟩
    have x1 := H_x1.out; have x2 := H_x2.out; have x3 := H_x3.out; have x4 := H_x4.out; have x5 := H_x5.out; have x6 := H_x6.out
    have hk := H_hk.out
    clear H_x1 H_x2 H_x3 H_x4 H_x5 H_x6 H_q1 H_q2 H_q3 H_q4 H_q5 H_q6
    try simp at x1 x2 x3 x4 x5 x6
    first | (symm; rw [cvB_no]; unfold baseP kindP; rintro ⟨h1, h2⟩; omega) | (symm; rw [cvB_iff]; unfold baseP kindP; omega)
  | true =>
    cases b3 with
    | false =>
      have H_q1 := Lib.hid q1; clear q1; have H_q2 := Lib.hid q2; clear q2; have H_q3 := Lib.hid q3; clear q3; have H_q4 := Lib.hid q4; clear q4; have H_q5 := Lib.hid q5; clear q5; have H_q6 := Lib.hid q6; clear q6; have H_x1 := Lib.hid x1; clear x1; have H_x2 := Lib.hid x2; clear x2; have H_x3 := Lib.hid x3; clear x3; have H_x4 := Lib.hid x4; clear x4; have H_x5 := Lib.hid x5; clear x5; have H_x6 := Lib.hid x6; clear x6
      go_enter Tryd.func20, Tryd.ntmps20
      go_wp2_with (first | (go_at_call 45; ((with_reducible refine (H_q1.out).mono ?_); rintro e w_ ⟨rfl, rfl⟩)) | (go_at_call 45; ((with_reducible refine (H_q4.out).mono ?_); rintro e w_ ⟨rfl, rfl⟩)) | (go_at_call 45; ((with_reducible refine (H_q5.out).mono ?_); rintro e w_ ⟨rfl, rfl⟩)) | (go_at_call 45; ((with_reducible refine (H_q6.out).mono ?_); rintro e w_ ⟨rfl, rfl⟩)) | (go_at_call 44; ((with_reducible refine (H_q2.out).mono ?_); rintro e w_ ⟨rfl, rfl⟩)) | (go_at_call 44; ((with_reducible refine (H_q3.out).mono ?_); rintro e w_ ⟨rfl, rfl⟩)))
      go_ret
      refine ⟨ret_bool ?_, (Below.refl _ _).alloc (Nat.le_refl _) _⟩
      have x1 := H_x1.out; have x2 := H_x2.out; have x3 := H_x3.out; have x4 := H_x4.out; have x5 := H_x5.out; have x6 := H_x6.out
      have hk := H_hk.out
      clear H_x1 H_x2 H_x3 H_x4 H_x5 H_x6 H_q1 H_q2 H_q3 H_q4 H_q5 H_q6
      try simp at x1 x2 x3 x4 x5 x6
      first | (symm; rw [cvB_no]; unfold baseP kindP; rintro ⟨h1, h2⟩; omega) | (symm; rw [cvB_iff]; unfold baseP kindP; omega)
    | true =>
      cases b1 with
      | false =>
        have H_q1 := Lib.hid q1; clear q1; have H_q2 := Lib.hid q2; clear q2; have H_q3 := Lib.hid q3; clear q3; have H_q4 := Lib.hid q4; clear q4; have H_q5 := Lib.hid q5; clear q5; have H_q6 := Lib.hid q6; clear q6; have H_x1 := Lib.hid x1; clear x1; have H_x2 := Lib.hid x2; clear x2; have H_x3 := Lib.hid x3; clear x3; have H_x4 := Lib.hid x4; clear x4; have H_x5 := Lib.hid x5; clear x5; have H_x6 := Lib.hid x6; clear x6
        go_enter Tryd.func20, Tryd.ntmps20
        go_wp2_with (first | (go_at_call 45; ((with_reducible refine (H_q1.out).mono ?_); rintro e w_ ⟨rfl, rfl⟩)) | (go_at_call 45; ((with_reducible refine (H_q4.out).mono ?_); rintro e w_ ⟨rfl, rfl⟩)) | (go_at_call 45; ((with_reducible refine (H_q5.out).mono ?_); rintro e w_ ⟨rfl, rfl⟩)) | (go_at_call 45; ((with_reducible refine (H_q6.out).mono ?_); rintro e w_ ⟨rfl, rfl⟩)) | (go_at_call 44; ((with_reducible refine (H_q2.out).mono ?_); rintro e w_ ⟨rfl, rfl⟩)) | (go_at_call 44; ((with_reducible refine (H_q3.out).mono ?_); rintro e w_ ⟨rfl, rfl⟩)))
        go_ret
        refine ⟨ret_bool ?_, (Below.refl _ _).alloc (Nat.le_refl _) _⟩
        have x1 := H_x1.out; have x2 := H_x2.out; have x3 := H_x3.out; have x4 := H_x4.out; have x5 := H_x5.out; have x6 := H_x6.out
        have hk := H_hk.out
        clear H_x1 H_x2 H_x3 H_x4 H_x5 H_x6 H_q1 H_q2 H_q3 H_q4 H_q5 H_q6
        try simp at x1 x2 x3 x4 x5 x6
        first | (symm; rw [cvB_no]; unfold baseP kindP; rintro ⟨h1, h2⟩; omega) | (symm; rw [cvB_iff]; unfold baseP kindP; omega)
      | true =>
        by_cases h1 : c.f < 0
        · have dh1 : decide (c.f < 0) = true := decide_eq_true h1
          have H_q1 := Lib.hid q1; clear q1; have H_q2 := Lib.hid q2; clear q2; have H_q3 := Lib.hid q3; clear q3; have H_q4 := Lib.hid q4; clear q4; have H_q5 := Lib.hid q5; clear q5; have H_q6 := Lib.hid q6; clear q6; have H_x1 := Lib.hid x1; clear x1; have H_x2 := Lib.hid x2; clear x2; have H_x3 := Lib.hid x3; clear x3; have H_x4 := Lib.hid x4; clear x4; have H_x5 := Lib.hid x5; clear x5; have H_x6 := Lib.hid x6; clear x6
          go_enter Tryd.func20, Tryd.ntmps20
          go_wp2_with (first | (go_at_call 45; ((with_reducible refine (H_q1.out).mono ?_); rintro e w_ ⟨rfl, rfl⟩)) | (go_at_call 45; ((with_reducible refine (H_q4.out).mono ?_); rintro e w_ ⟨rfl, rfl⟩)) | (go_at_call 45; ((with_reducible refine (H_q5.out).mono ?_); rintro e w_ ⟨rfl, rfl⟩)) | (go_at_call 45; ((with_reducible refine (H_q6.out).mono ?_); rintro e w_ ⟨rfl, rfl⟩)) | (go_at_call 44; ((with_reducible refine (H_q2.out).mono ?_); rintro e w_ ⟨rfl, rfl⟩)) | (go_at_call 44; ((with_reducible refine (H_q3.out).mono ?_); rintro e w_ ⟨rfl, rfl⟩)))
          go_ret
          refine ⟨ret_bool ?_, (Below.refl _ _).alloc (Nat.le_refl _) _⟩
          have x1 := H_x1.out; have x2 := H_x2.out; have x3 := H_x3.out; have x4 := H_x4.out; have x5 := H_x5.out; have x6 := H_x6.out
          have hk := H_hk.out
          clear H_x1 H_x2 H_x3 H_x4 H_x5 H_x6 H_q1 H_q2 H_q3 H_q4 H_q5 H_q6
          try simp at x1 x2 x3 x4 x5 x6
          first | (symm; rw [cvB_no]; unfold baseP kindP; rintro ⟨h1, h2⟩; omega) | (symm; rw [cvB_iff]; unfold baseP kindP; omega)
        have dh1 : decide (c.f < 0) = false := decide_eq_false h1
        by_cases h2 : c.u ≤ c.f
        · have dh2 : decide (c.u ≤ c.f) = true := decide_eq_true h2
          have H_q1 := Lib.hid q1; clear q1; have H_q2 := Lib.hid q2; clear q2; have H_q3 := Lib.hid q3; clear q3; have H_q4 := Lib.hid q4; clear q4; have H_q5 := Lib.hid q5; clear q5; have H_q6 := Lib.hid q6; clear q6; have H_x1 := Lib.hid x1; clear x1; have H_x2 := Lib.hid x2; clear x2; have H_x3 := Lib.hid x3; clear x3; have H_x4 := Lib.hid x4; clear x4; have H_x5 := Lib.hid x5; clear x5; have H_x6 := Lib.hid x6; clear x6
          go_enter Tryd.func20, Tryd.ntmps20
          go_wp2_with (first | (go_at_call 45; ((with_reducible refine (H_q1.out).mono ?_); rintro e w_ ⟨rfl, rfl⟩)) | (go_at_call 45; ((with_reducible refine (H_q4.out).mono ?_); rintro e w_ ⟨rfl, rfl⟩)) | (go_at_call 45; ((with_reducible refine (H_q5.out).mono ?_); rintro e w_ ⟨rfl, rfl⟩)) | (go_at_call 45; ((with_reducible refine (H_q6.out).mono ?_); rintro e w_ ⟨rfl, rfl⟩)) | (go_at_call 44; ((with_reducible refine (H_q2.out).mono ?_); rintro e w_ ⟨rfl, rfl⟩)) | (go_at_call 44; ((with_reducible refine (H_q3.out).mono ?_); rintro e w_ ⟨rfl, rfl⟩)))
          go_ret
          refine ⟨ret_bool ?_, (Below.refl _ _).alloc (Nat.le_refl _) _⟩
          have x1 := H_x1.out; have x2 := H_x2.out; have x3 := H_x3.out; have x4 := H_x4.out; have x5 := H_x5.out; have x6 := H_x6.out
          have hk := H_hk.out
          clear H_x1 H_x2 H_x3 H_x4 H_x5 H_x6 H_q1 H_q2 H_q3 H_q4 H_q5 H_q6
          try simp at x1 x2 x3 x4 x5 x6
          first | (symm; rw [cvB_no]; unfold baseP kindP; rintro ⟨h1, h2⟩; omega) | (symm; rw [cvB_iff]; unfold baseP kindP; omega)
        have dh2 : decide (c.u ≤ c.f) = false := decide_eq_false h2
        by_cases h3 : 1000000000 < c.u
        · have dh3 : decide (1000000000 < c.u) = true := decide_eq_true h3
          have H_q1 := Lib.hid q1; clear q1; have H_q2 := Lib.hid q2; clear q2; have H_q3 := Lib.hid q3; clear q3; have H_q4 := Lib.hid q4; clear q4; have H_q5 := Lib.hid q5; clear q5; have H_q6 := Lib.hid q6; clear q6; have H_x1 := Lib.hid x1; clear x1; have H_x2 := Lib.hid x2; clear x2; have H_x3 := Lib.hid x3; clear x3; have H_x4 := Lib.hid x4; clear x4; have H_x5 := Lib.hid x5; clear x5; have H_x6 := Lib.hid x6; clear x6
          go_enter Tryd.func20, Tryd.ntmps20
          go_wp2_with (first | (go_at_call 45; ((with_reducible refine (H_q1.out).mono ?_); rintro e w_ ⟨rfl, rfl⟩)) | (go_at_call 45; ((with_reducible refine (H_q4.out).mono ?_); rintro e w_ ⟨rfl, rfl⟩)) | (go_at_call 45; ((with_reducible refine (H_q5.out).mono ?_); rintro e w_ ⟨rfl, rfl⟩)) | (go_at_call 45; ((with_reducible refine (H_q6.out).mono ?_); rintro e w_ ⟨rfl, rfl⟩)) | (go_at_call 44; ((with_reducible refine (H_q2.out).mono ?_); rintro e w_ ⟨rfl, rfl⟩)) | (go_at_call 44; ((with_reducible refine (H_q3.out).mono ?_); rintro e w_ ⟨rfl, rfl⟩)))
          go_ret
          refine ⟨ret_bool ?_, (Below.refl _ _).alloc (Nat.le_refl _) _⟩
          have x1 := H_x1.out; have x2 := H_x2.out; have x3 := H_x3.out; have x4 := H_x4.out; have x5 := H_x5.out; have x6 := H_x6.out
          have hk := H_hk.out
          clear H_x1 H_x2 H_x3 H_x4 H_x5 H_x6 H_q1 H_q2 H_q3 H_q4 H_q5 H_q6
          try simp at x1 x2 x3 x4 x5 x6
          first | (symm; rw [cvB_no]; unfold baseP kindP; rintro ⟨h1, h2⟩; omega) | (symm; rw [cvB_iff]; unfold baseP kindP; omega)
        have dh3 : decide (1000000000 < c.u) = false := decide_eq_false h3
        cases b4 with
        | false =>
          have H_q1 := Lib.hid q1; clear q1; have H_q2 := Lib.hid q2; clear q2; have H_q3 := Lib.hid q3; clear q3; have H_q4 := Lib.hid q4; clear q4; have H_q5 := Lib.hid q5; clear q5; have H_q6 := Lib.hid q6; clear q6; have H_x1 := Lib.hid x1; clear x1; have H_x2 := Lib.hid x2; clear x2; have H_x3 := Lib.hid x3; clear x3; have H_x4 := Lib.hid x4; clear x4; have H_x5 := Lib.hid x5; clear x5; have H_x6 := Lib.hid x6; clear x6
          go_enter Tryd.func20, Tryd.ntmps20
          go_wp2_with (first | (go_at_call 45; ((with_reducible refine (H_q1.out).mono ?_); rintro e w_ ⟨rfl, rfl⟩)) | (go_at_call 45; ((with_reducible refine (H_q4.out).mono ?_); rintro e w_ ⟨rfl, rfl⟩)) | (go_at_call 45; ((with_reducible refine (H_q5.out).mono ?_); rintro e w_ ⟨rfl, rfl⟩)) | (go_at_call 45; ((with_reducible refine (H_q6.out).mono ?_); rintro e w_ ⟨rfl, rfl⟩)) | (go_at_call 44; ((with_reducible refine (H_q2.out).mono ?_); rintro e w_ ⟨rfl, rfl⟩)) | (go_at_call 44; ((with_reducible refine (H_q3.out).mono ?_); rintro e w_ ⟨rfl, rfl⟩)))
          go_ret
          refine ⟨ret_bool ?_, (Below.refl _ _).alloc (Nat.le_refl _) _⟩
          have x1 := H_x1.out; have x2 := H_x2.out; have x3 := H_x3.out; have x4 := H_x4.out; have x5 := H_x5.out; have x6 := H_x6.out
          have hk := H_hk.out
          clear H_x1 H_x2 H_x3 H_x4 H_x5 H_x6 H_q1 H_q2 H_q3 H_q4 H_q5 H_q6
          try simp at x1 x2 x3 x4 x5 x6
          first | (symm; rw [cvB_no]; unfold baseP kindP; rintro ⟨h1, h2⟩; omega) | (symm; rw [cvB_iff]; unfold baseP kindP; omega)
        | true =>
          by_cases hen : c.n = 0
          rotate_left
          · have den : (c.n == 0) = false := by rw [beq_eq_false_iff_ne]; exact hen
            have H_q1 := Lib.hid q1; clear q1; have H_q2 := Lib.hid q2; clear q2; have H_q3 := Lib.hid q3; clear q3; have H_q4 := Lib.hid q4; clear q4; have H_q5 := Lib.hid q5; clear q5; have H_q6 := Lib.hid q6; clear q6; have H_x1 := Lib.hid x1; clear x1; have H_x2 := Lib.hid x2; clear x2; have H_x3 := Lib.hid x3; clear x3; have H_x4 := Lib.hid x4; clear x4; have H_x5 := Lib.hid x5; clear x5; have H_x6 := Lib.hid x6; clear x6
            go_enter Tryd.func20, Tryd.ntmps20
            go_wp2_with (first | (go_at_call 45; ((with_reducible refine (H_q1.out).mono ?_); rintro e w_ ⟨rfl, rfl⟩)) | (go_at_call 45; ((with_reducible refine (H_q4.out).mono ?_); rintro e w_ ⟨rfl, rfl⟩)) | (go_at_call 45; ((with_reducible refine (H_q5.out).mono ?_); rintro e w_ ⟨rfl, rfl⟩)) | (go_at_call 45; ((with_reducible refine (H_q6.out).mono ?_); rintro e w_ ⟨rfl, rfl⟩)) | (go_at_call 44; ((with_reducible refine (H_q2.out).mono ?_); rintro e w_ ⟨rfl, rfl⟩)) | (go_at_call 44; ((with_reducible refine (H_q3.out).mono ?_); rintro e w_ ⟨rfl, rfl⟩)))
            go_ret
            refine ⟨ret_bool ?_, (Below.refl _ _).alloc (Nat.le_refl _) _⟩
            have x1 := H_x1.out; have x2 := H_x2.out; have x3 := H_x3.out; have x4 := H_x4.out; have x5 := H_x5.out; have x6 := H_x6.out
            have hk := H_hk.out
            clear H_x1 H_x2 H_x3 H_x4 H_x5 H_x6 H_q1 H_q2 H_q3 H_q4 H_q5 H_q6
            try simp at x1 x2 x3 x4 x5 x6
            first | (symm; rw [cvB_no]; unfold baseP kindP; rintro ⟨h1, h2⟩; omega) | (symm; rw [cvB_iff]; unfold baseP kindP; omega)
          have den : (c.n == 0) = true := by rw [hen]; rfl
          have H_hen := Lib.hid hen; clear hen
          by_cases hel : c.l = 0
          rotate_left
          · have del : (c.l == 0) = false := by rw [beq_eq_false_iff_ne]; exact hel
            have H_q1 := Lib.hid q1; clear q1; have H_q2 := Lib.hid q2; clear q2; have H_q3 := Lib.hid q3; clear q3; have H_q4 := Lib.hid q4; clear q4; have H_q5 := Lib.hid q5; clear q5; have H_q6 := Lib.hid q6; clear q6; have H_x1 := Lib.hid x1; clear x1; have H_x2 := Lib.hid x2; clear x2; have H_x3 := Lib.hid x3; clear x3; have H_x4 := Lib.hid x4; clear x4; have H_x5 := Lib.hid x5; clear x5; have H_x6 := Lib.hid x6; clear x6
            go_enter Tryd.func20, Tryd.ntmps20
            go_wp2_with (first | (go_at_call 45; ((with_reducible refine (H_q1.out).mono ?_); rintro e w_ ⟨rfl, rfl⟩)) | (go_at_call 45; ((with_reducible refine (H_q4.out).mono ?_); rintro e w_ ⟨rfl, rfl⟩)) | (go_at_call 45; ((with_reducible refine (H_q5.out).mono ?_); rintro e w_ ⟨rfl, rfl⟩)) | (go_at_call 45; ((with_reducible refine (H_q6.out).mono ?_); rintro e w_ ⟨rfl, rfl⟩)) | (go_at_call 44; ((with_reducible refine (H_q2.out).mono ?_); rintro e w_ ⟨rfl, rfl⟩)) | (go_at_call 44; ((with_reducible refine (H_q3.out).mono ?_); rintro e w_ ⟨rfl, rfl⟩)))
            go_ret
            refine ⟨ret_bool ?_, (Below.refl _ _).alloc (Nat.le_refl _) _⟩
            have x1 := H_x1.out; have x2 := H_x2.out; have x3 := H_x3.out; have x4 := H_x4.out; have x5 := H_x5.out; have x6 := H_x6.out
            have hk := H_hk.out
            clear H_x1 H_x2 H_x3 H_x4 H_x5 H_x6 H_q1 H_q2 H_q3 H_q4 H_q5 H_q6
            try simp at x1 x2 x3 x4 x5 x6
            first | (symm; rw [cvB_no]; unfold baseP kindP; rintro ⟨h1, h2⟩; omega) | (symm; rw [cvB_iff]; unfold baseP kindP; omega)
          have del : (c.l == 0) = true := by rw [hel]; rfl
          have H_hel := Lib.hid hel; clear hel
          have H_q1 := Lib.hid q1; clear q1; have H_q2 := Lib.hid q2; clear q2; have H_q3 := Lib.hid q3; clear q3; have H_q4 := Lib.hid q4; clear q4; have H_q5 := Lib.hid q5; clear q5; have H_q6 := Lib.hid q6; clear q6; have H_x1 := Lib.hid x1; clear x1; have H_x2 := Lib.hid x2; clear x2; have H_x3 := Lib.hid x3; clear x3; have H_x4 := Lib.hid x4; clear x4; have H_x5 := Lib.hid x5; clear x5; have H_x6 := Lib.hid x6; clear x6
          go_enter Tryd.func20, Tryd.ntmps20
          go_wp2_with (first | (go_at_call 45; ((with_reducible refine (H_q1.out).mono ?_); rintro e w_ ⟨rfl, rfl⟩)) | (go_at_call 45; ((with_reducible refine (H_q4.out).mono ?_); rintro e w_ ⟨rfl, rfl⟩)) | (go_at_call 45; ((with_reducible refine (H_q5.out).mono ?_); rintro e w_ ⟨rfl, rfl⟩)) | (go_at_call 45; ((with_reducible refine (H_q6.out).mono ?_); rintro e w_ ⟨rfl, rfl⟩)) | (go_at_call 44; ((with_reducible refine (H_q2.out).mono ?_); rintro e w_ ⟨rfl, rfl⟩)) | (go_at_call 44; ((with_reducible refine (H_q3.out).mono ?_); rintro e w_ ⟨rfl, rfl⟩)))
          go_ret
          refine ⟨ret_bool ?_, (Below.refl _ _).alloc (Nat.le_refl _) _⟩
          have x1 := H_x1.out; have x2 := H_x2.out; have x3 := H_x3.out; have x4 := H_x4.out; have x5 := H_x5.out; have x6 := H_x6.out
          have hen := H_hen.out; have hel := H_hel.out
          have hk := H_hk.out
          clear H_x1 H_x2 H_x3 H_x4 H_x5 H_x6 H_q1 H_q2 H_q3 H_q4 H_q5 H_q6
          try simp at x1 x2 x3 x4 x5 x6
          first | (symm; rw [cvB_no]; unfold baseP kindP; rintro ⟨h1, h2⟩; omega) | (symm; rw [cvB_iff]; unfold baseP kindP; omega)
set_option maxHeartbeats 8000000 in
theorem rvalid3 (c : Crd) (hc : CFit c) (hk : c.k = 3) (w : World) : Calls Tryd.prog 20 #[.agg c.cells.toArray] w fun e w' => e = .returned (.bool (cvB c)) ∧ Below w.heap.size w w' := by
  obtain ⟨w1, hw1⟩ : ∃ w1, w.alloc (.cells c.cells.toArray 31) = w1 := ⟨_, rfl⟩
  have q1 := rin_any c.i 1 1000000 w1
  have q2 := rExponent_any c.e w1
  have q3 := rExponent_any c.s w1
  have q4 := rin_any c.d 0 400 w1
  have q5 := rin_any c.n 0 0 w1
  have q6 := rin_any c.l 1 1000000 w1
  rw [← hw1] at q1 q2 q3 q4 q5 q6
  clear hw1
  have x1 := @wB_iff c.i 1 1000000
  have x2 := @wthB_iff c.e 0
  have x3 := @wthB_iff c.s 0
  have x4 := @wB_iff c.d 0 400
  have x5 := @wB_iff c.n 0 0
  have x6 := @wB_iff c.l 1 1000000
  generalize wB c.i 1 1000000 = b1 at *
  generalize wthB c.e 0 = b2 at *
  generalize wthB c.s 0 = b3 at *
  generalize wB c.d 0 400 = b4 at *
  generalize wB c.n 0 0 = b5 at *
  generalize wB c.l 1 1000000 = b6 at *
  have m1 : (c.k == 1) = false := by simp [hk]
  have m2 : (c.k == 2) = false := by simp [hk]
  have m3 : (c.k == 3) = true := by simp [hk]
  unfold Crd.cells at q1 q2 q3 q4 q5 q6 ⊢
  have H_hk := Lib.hid hk; clear hk; have H_hc := Lib.hid hc; clear hc
  cases b2 with
  | false =>
    have H_q1 := Lib.hid q1; clear q1; have H_q2 := Lib.hid q2; clear q2; have H_q3 := Lib.hid q3; clear q3; have H_q4 := Lib.hid q4; clear q4; have H_q5 := Lib.hid q5; clear q5; have H_q6 := Lib.hid q6; clear q6; have H_x1 := Lib.hid x1; clear x1; have H_x2 := Lib.hid x2; clear x2; have H_x3 := Lib.hid x3; clear x3; have H_x4 := Lib.hid x4; clear x4; have H_x5 := Lib.hid x5; clear x5; have H_x6 := Lib.hid x6; clear x6
    go_enter Tryd.func20, Tryd.ntmps20
    go_wp2_with (first | (go_at_call 45; ((with_reducible refine (H_q1.out).mono ?_); rintro e w_ ⟨rfl, rfl⟩)) | (go_at_call 45; ((with_reducible refine (H_q4.out).mono ?_); rintro e w_ ⟨rfl, rfl⟩)) | (go_at_call 45; ((with_reducible refine (H_q5.out).mono ?_); rintro e w_ ⟨rfl, rfl⟩)) | (go_at_call 45; ((with_reducible refine (H_q6.out).mono ?_); rintro e w_ ⟨rfl, rfl⟩)) | (go_at_call 44; ((with_reducible refine (H_q2.out).mono ?_); rintro e w_ ⟨rfl, rfl⟩)) | (go_at_call 44; ((with_reducible refine (H_q3.out).mono ?_); rintro e w_ ⟨rfl, rfl⟩)))
    go_ret
    refine ⟨ret_bool ?_, (Below.refl _ _).alloc (Nat.le_refl _) _⟩
    have x1 := H_x1.out; have x2 := H_x2.out; have x3 := H_x3.out; have x4 := H_x4.out; have x5 := H_x5.out; have x6 := H_x6.out
    have hk := H_hk.out
    clear H_x1 H_x2 H_x3 H_x4 H_x5 H_x6 H_q1 H_q2 H_q3 H_q4 H_q5 H_q6
    try simp at x1 x2 x3 x4 x5 x6
    first | (symm; rw [cvB_no]; unfold baseP kindP; rintro ⟨h1, h2⟩; omega) | (symm; rw [cvB_iff]; unfold baseP kindP; omega)
  | true =>
    cases b3 with
    | false =>
      have H_q1 := Lib.hid q1; clear q1; have H_q2 := Lib.hid q2; clear q2; have H_q3 := Lib.hid q3; clear q3; have H_q4 := Lib.hid q4; clear q4; have H_q5 := Lib.hid q5; clear q5; have H_q6 := Lib.hid q6; clear q6; have H_x1 := Lib.hid x1; clear x1; have H_x2 := Lib.hid x2; clear x2; have H_x3 := Lib.hid x3; clear x3; have H_x4 := Lib.hid x4; clear x4; have H_x5 := Lib.hid x5; clear x5; have H_x6 := Lib.hid x6; clear x6
      go_enter Tryd.func20, Tryd.ntmps20
      go_wp2_with (first | (go_at_call 45; ((with_reducible refine (H_q1.out).mono ?_); rintro e w_ ⟨rfl, rfl⟩)) | (go_at_call 45; ((with_reducible refine (H_q4.out).mono ?_); rintro e w_ ⟨rfl, rfl⟩)) | (go_at_call 45; ((with_reducible refine (H_q5.out).mono ?_); rintro e w_ ⟨rfl, rfl⟩)) | (go_at_call 45; ((with_reducible refine (H_q6.out).mono ?_); rintro e w_ ⟨rfl, rfl⟩)) | (go_at_call 44; ((with_reducible refine (H_q2.out).mono ?_); rintro e w_ ⟨rfl, rfl⟩)) | (go_at_call 44; ((with_reducible refine (H_q3.out).mono ?_); rintro e w_ ⟨rfl, rfl⟩)))
      go_ret
      refine ⟨ret_bool ?_, (Below.refl _ _).alloc (Nat.le_refl _) _⟩
      have x1 := H_x1.out; have x2 := H_x2.out; have x3 := H_x3.out; have x4 := H_x4.out; have x5 := H_x5.out; have x6 := H_x6.out
      have hk := H_hk.out
      clear H_x1 H_x2 H_x3 H_x4 H_x5 H_x6 H_q1 H_q2 H_q3 H_q4 H_q5 H_q6
      try simp at x1 x2 x3 x4 x5 x6
      first | (symm; rw [cvB_no]; unfold baseP kindP; rintro ⟨h1, h2⟩; omega) | (symm; rw [cvB_iff]; unfold baseP kindP; omega)
    | true =>
      cases b1 with
      | false =>
        have H_q1 := Lib.hid q1; clear q1; have H_q2 := Lib.hid q2; clear q2; have H_q3 := Lib.hid q3; clear q3; have H_q4 := Lib.hid q4; clear q4; have H_q5 := Lib.hid q5; clear q5; have H_q6 := Lib.hid q6; clear q6; have H_x1 := Lib.hid x1; clear x1; have H_x2 := Lib.hid x2; clear x2; have H_x3 := Lib.hid x3; clear x3; have H_x4 := Lib.hid x4; clear x4; have H_x5 := Lib.hid x5; clear x5; have H_x6 := Lib.hid x6; clear x6
        go_enter Tryd.func20, Tryd.ntmps20
        go_wp2_with (first | (go_at_call 45; ((with_reducible refine (H_q1.out).mono ?_); rintro e w_ ⟨rfl, rfl⟩)) | (go_at_call 45; ((with_reducible refine (H_q4.out).mono ?_); rintro e w_ ⟨rfl, rfl⟩)) | (go_at_call 45; ((with_reducible refine (H_q5.out).mono ?_); rintro e w_ ⟨rfl, rfl⟩)) | (go_at_call 45; ((with_reducible refine (H_q6.out).mono ?_); rintro e w_ ⟨rfl, rfl⟩)) | (go_at_call 44; ((with_reducible refine (H_q2.out).mono ?_); rintro e w_ ⟨rfl, rfl⟩)) | (go_at_call 44; ((with_reducible refine (H_q3.out).mono ?_); rintro e w_ ⟨rfl, rfl⟩)))
        go_ret
        refine ⟨ret_bool ?_, (Below.refl _ _).alloc (Nat.le_refl _) _⟩
        have x1 := H_x1.out; have x2 := H_x2.out; have x3 := H_x3.out; have x4 := H_x4.out; have x5 := H_x5.out; have x6 := H_x6.out
        have hk := H_hk.out
        clear H_x1 H_x2 H_x3 H_x4 H_x5 H_x6 H_q1 H_q2 H_q3 H_q4 H_q5 H_q6
        try simp at x1 x2 x3 x4 x5 x6
        first | (symm; rw [cvB_no]; unfold baseP kindP; rintro ⟨h1, h2⟩; omega) | (symm; rw [cvB_iff]; unfold baseP kindP; omega)
      | true =>
        by_cases h1 : c.f < 0
        · have dh1 : decide (c.f < 0) = true := decide_eq_true h1
          have H_q1 := Lib.hid q1; clear q1; have H_q2 := Lib.hid q2; clear q2; have H_q3 := Lib.hid q3; clear q3; have H_q4 := Lib.hid q4; clear q4; have H_q5 := Lib.hid q5; clear q5; have H_q6 := Lib.hid q6; clear q6; have H_x1 := Lib.hid x1; clear x1; have H_x2 := Lib.hid x2; clear x2; have H_x3 := Lib.hid x3; clear x3; have H_x4 := Lib.hid x4; clear x4; have H_x5 := Lib.hid x5; clear x5; have H_x6 := Lib.hid x6; clear x6
          go_enter Tryd.func20, Tryd.ntmps20
          go_wp2_with (first | (go_at_call 45; ((with_reducible refine (H_q1.out).mono ?_); rintro e w_ ⟨rfl, rfl⟩)) | (go_at_call 45; ((with_reducible refine (H_q4.out).mono ?_); rintro e w_ ⟨rfl, rfl⟩)) | (go_at_call 45; ((with_reducible refine (H_q5.out).mono ?_); rintro e w_ ⟨rfl, rfl⟩)) | (go_at_call 45; ((with_reducible refine (H_q6.out).mono ?_); rintro e w_ ⟨rfl, rfl⟩)) | (go_at_call 44; ((with_reducible refine (H_q2.out).mono ?_); rintro e w_ ⟨rfl, rfl⟩)) | (go_at_call 44; ((with_reducible refine (H_q3.out).mono ?_); rintro e w_ ⟨rfl, rfl⟩)))
          go_ret
          refine ⟨ret_bool ?_, (Below.refl _ _).alloc (Nat.le_refl _) _⟩
          have x1 := H_x1.out; have x2 := H_x2.out; have x3 := H_x3.out; have x4 := H_x4.out; have x5 := H_x5.out; have x6 := H_x6.out
          have hk := H_hk.out
          clear H_x1 H_x2 H_x3 H_x4 H_x5 H_x6 H_q1 H_q2 H_q3 H_q4 H_q5 H_q6
          try simp at x1 x2 x3 x4 x5 x6
          first | (symm; rw [cvB_no]; unfold baseP kindP; rintro ⟨h1, h2⟩; omega) | (symm; rw [cvB_iff]; unfold baseP kindP; omega)
        have dh1 : decide (c.f < 0) = false := decide_eq_false h1
        by_cases h2 : c.u ≤ c.f
        · have dh2 : decide (c.u ≤ c.f) = true := decide_eq_true h2
          have H_q1 := Lib.hid q1; clear q1; have H_q2 := Lib.hid q2; clear q2; have H_q3 := Lib.hid q3; clear q3; have H_q4 := Lib.hid q4; clear q4; have H_q5 := Lib.hid q5; clear q5; have H_q6 := Lib.hid q6; clear q6; have H_x1 := Lib.hid x1; clear x1; have H_x2 := Lib.hid x2; clear x2; have H_x3 := Lib.hid x3; clear x3; have H_x4 := Lib.hid x4; clear x4; have H_x5 := Lib.hid x5; clear x5; have H_x6 := Lib.hid x6; clear x6
          go_enter Tryd.func20, Tryd.ntmps20
          go_wp2_with (first | (go_at_call 45; ((with_reducible refine (H_q1.out).mono ?_); rintro e w_ ⟨rfl, rfl⟩)) | (go_at_call 45; ((with_reducible refine (H_q4.out).mono ?_); rintro e w_ ⟨rfl, rfl⟩)) | (go_at_call 45; ((with_reducible refine (H_q5.out).mono ?_); rintro e w_ ⟨rfl, rfl⟩)) | (go_at_call 45; ((with_reducible refine (H_q6.out).mono ?_); rintro e w_ ⟨rfl, rfl⟩)) | (go_at_call 44; ((with_reducible refine (H_q2.out).mono ?_); rintro e w_ ⟨rfl, rfl⟩)) | (go_at_call 44; ((with_reducible refine (H_q3.out).mono ?_); rintro e w_ ⟨rfl, rfl⟩)))
          go_ret
          refine ⟨ret_bool ?_, (Below.refl _ _).alloc (Nat.le_refl _) _⟩
          have x1 := H_x1.out; have x2 := H_x2.out; have x3 := H_x3.out; have x4 := H_x4.out; have x5 := H_x5.out; have x6 := H_x6.out
          have hk := H_hk.out
          clear H_x1 H_x2 H_x3 H_x4 H_x5 H_x6 H_q1 H_q2 H_q3 H_q4 H_q5 H_q6
          try simp at x1 x2 x3 x4 x5 x6
          first | (symm; rw [cvB_no]; unfold baseP kindP; rintro ⟨h1, h2⟩; omega) | (symm; rw [cvB_iff]; unfold baseP kindP; omega)
        have dh2 : decide (c.u ≤ c.f) = false := decide_eq_false h2
        by_cases h3 : 1000000000 < c.u
        · have dh3 : decide (1000000000 < c.u) = true := decide_eq_true h3
          have H_q1 := Lib.hid q1; clear q1; have H_q2 := Lib.hid q2; clear q2; have H_q3 := Lib.hid q3; clear q3; have H_q4 := Lib.hid q4; clear q4; have H_q5 := Lib.hid q5; clear q5; have H_q6 := Lib.hid q6; clear q6; have H_x1 := Lib.hid x1; clear x1; have H_x2 := Lib.hid x2; clear x2; have H_x3 := Lib.hid x3; clear x3; have H_x4 := Lib.hid x4; clear x4; have H_x5 := Lib.hid x5; clear x5; have H_x6 := Lib.hid x6; clear x6
          go_enter Tryd.func20, Tryd.ntmps20
          go_wp2_with (first | (go_at_call 45; ((with_reducible refine (H_q1.out).mono ?_); rintro e w_ ⟨rfl, rfl⟩)) | (go_at_call 45; ((with_reducible refine (H_q4.out).mono ?_); rintro e w_ ⟨rfl, rfl⟩)) | (go_at_call 45; ((with_reducible refine (H_q5.out).mono ?_); rintro e w_ ⟨rfl, rfl⟩)) | (go_at_call 45; ((with_reducible refine (H_q6.out).mono ?_); rintro e w_ ⟨rfl, rfl⟩)) | (go_at_call 44; ((with_reducible refine (H_q2.out).mono ?_); rintro e w_ ⟨rfl, rfl⟩)) | (go_at_call 44; ((with_reducible refine (H_q3.out).mono ?_); rintro e w_ ⟨rfl, rfl⟩)))
          go_ret
          refine ⟨ret_bool ?_, (Below.refl _ _).alloc (Nat.le_refl _) _⟩
          have x1 := H_x1.out; have x2 := H_x2.out; have x3 := H_x3.out; have x4 := H_x4.out; have x5 := H_x5.out; have x6 := H_x6.out
          have hk := H_hk.out
          clear H_x1 H_x2 H_x3 H_x4 H_x5 H_x6 H_q1 H_q2 H_q3 H_q4 H_q5 H_q6
          try simp at x1 x2 x3 x4 x5 x6
          first | (symm; rw [cvB_no]; unfold baseP kindP; rintro ⟨h1, h2⟩; omega) | (symm; rw [cvB_iff]; unfold baseP kindP; omega)
        have dh3 : decide (1000000000 < c.u) = false := decide_eq_false h3
        cases b4 with
        | false =>
          have H_q1 := Lib.hid q1; clear q1; have H_q2 := Lib.hid q2; clear q2; have H_q3 := Lib.hid q3; clear q3; have H_q4 := Lib.hid q4; clear q4; have H_q5 := Lib.hid q5; clear q5; have H_q6 := Lib.hid q6; clear q6; have H_x1 := Lib.hid x1; clear x1; have H_x2 := Lib.hid x2; clear x2; have H_x3 := Lib.hid x3; clear x3; have H_x4 := Lib.hid x4; clear x4; have H_x5 := Lib.hid x5; clear x5; have H_x6 := Lib.hid x6; clear x6
          go_enter Tryd.func20, Tryd.ntmps20
          go_wp2_with (first | (go_at_call 45; ((with_reducible refine (H_q1.out).mono ?_); rintro e w_ ⟨rfl, rfl⟩)) | (go_at_call 45; ((with_reducible refine (H_q4.out).mono ?_); rintro e w_ ⟨rfl, rfl⟩)) | (go_at_call 45; ((with_reducible refine (H_q5.out).mono ?_); rintro e w_ ⟨rfl, rfl⟩)) | (go_at_call 45; ((with_reducible refine (H_q6.out).mono ?_); rintro e w_ ⟨rfl, rfl⟩)) | (go_at_call 44; ((with_reducible refine (H_q2.out).mono ?_); rintro e w_ ⟨rfl, rfl⟩)) | (go_at_call 44; ((with_reducible refine (H_q3.out).mono ?_); rintro e w_ ⟨rfl, rfl⟩)))
          go_ret
          refine ⟨ret_bool ?_, (Below.refl _ _).alloc (Nat.le_refl _) _⟩
          have x1 := H_x1.out; have x2 := H_x2.out; have x3 := H_x3.out; have x4 := H_x4.out; have x5 := H_x5.out; have x6 := H_x6.out
          have hk := H_hk.out
          clear H_x1 H_x2 H_x3 H_x4 H_x5 H_x6 H_q1 H_q2 H_q3 H_q4 H_q5 H_q6
          try simp at x1 x2 x3 x4 x5 x6
          first | (symm; rw [cvB_no]; unfold baseP kindP; rintro ⟨h1, h2⟩; omega) | (symm; rw [cvB_iff]; unfold baseP kindP; omega)
        | true =>
          by_cases hen : c.n = 0
          rotate_left
          · have den : (c.n == 0) = false := by rw [beq_eq_false_iff_ne]; exact hen
            have H_q1 := Lib.hid q1; clear q1; have H_q2 := Lib.hid q2; clear q2; have H_q3 := Lib.hid q3; clear q3; have H_q4 := Lib.hid q4; clear q4; have H_q5 := Lib.hid q5; clear q5; have H_q6 := Lib.hid q6; clear q6; have H_x1 := Lib.hid x1; clear x1; have H_x2 := Lib.hid x2; clear x2; have H_x3 := Lib.hid x3; clear x3; have H_x4 := Lib.hid x4; clear x4; have H_x5 := Lib.hid x5; clear x5; have H_x6 := Lib.hid x6; clear x6
            go_enter Tryd.func20, Tryd.ntmps20
            go_wp2_with (first | (go_at_call 45; ((with_reducible refine (H_q1.out).mono ?_); rintro e w_ ⟨rfl, rfl⟩)) | (go_at_call 45; ((with_reducible refine (H_q4.out).mono ?_); rintro e w_ ⟨rfl, rfl⟩)) | (go_at_call 45; ((with_reducible refine (H_q5.out).mono ?_); rintro e w_ ⟨rfl, rfl⟩)) | (go_at_call 45; ((with_reducible refine (H_q6.out).mono ?_); rintro e w_ ⟨rfl, rfl⟩)) | (go_at_call 44; ((with_reducible refine (H_q2.out).mono ?_); rintro e w_ ⟨rfl, rfl⟩)) | (go_at_call 44; ((with_reducible refine (H_q3.out).mono ?_); rintro e w_ ⟨rfl, rfl⟩)))
            go_ret
            refine ⟨ret_bool ?_, (Below.refl _ _).alloc (Nat.le_refl _) _⟩
            have x1 := H_x1.out; have x2 := H_x2.out; have x3 := H_x3.out; have x4 := H_x4.out; have x5 := H_x5.out; have x6 := H_x6.out
            have hk := H_hk.out
            clear H_x1 H_x2 H_x3 H_x4 H_x5 H_x6 H_q1 H_q2 H_q3 H_q4 H_q5 H_q6
            try simp at x1 x2 x3 x4 x5 x6
            first | (symm; rw [cvB_no]; unfold baseP kindP; rintro ⟨h1, h2⟩; omega) | (symm; rw [cvB_iff]; unfold baseP kindP; omega)
          have den : (c.n == 0) = true := by rw [hen]; rfl
          have H_hen := Lib.hid hen; clear hen
          cases b6 with
          | false =>
            have H_q1 := Lib.hid q1; clear q1; have H_q2 := Lib.hid q2; clear q2; have H_q3 := Lib.hid q3; clear q3; have H_q4 := Lib.hid q4; clear q4; have H_q5 := Lib.hid q5; clear q5; have H_q6 := Lib.hid q6; clear q6; have H_x1 := Lib.hid x1; clear x1; have H_x2 := Lib.hid x2; clear x2; have H_x3 := Lib.hid x3; clear x3; have H_x4 := Lib.hid x4; clear x4; have H_x5 := Lib.hid x5; clear x5; have H_x6 := Lib.hid x6; clear x6
            go_enter Tryd.func20, Tryd.ntmps20
            go_wp2_with (first | (go_at_call 45; ((with_reducible refine (H_q1.out).mono ?_); rintro e w_ ⟨rfl, rfl⟩)) | (go_at_call 45; ((with_reducible refine (H_q4.out).mono ?_); rintro e w_ ⟨rfl, rfl⟩)) | (go_at_call 45; ((with_reducible refine (H_q5.out).mono ?_); rintro e w_ ⟨rfl, rfl⟩)) | (go_at_call 45; ((with_reducible refine (H_q6.out).mono ?_); rintro e w_ ⟨rfl, rfl⟩)) | (go_at_call 44; ((with_reducible refine (H_q2.out).mono ?_); rintro e w_ ⟨rfl, rfl⟩)) | (go_at_call 44; ((with_reducible refine (H_q3.out).mono ?_); rintro e w_ ⟨rfl, rfl⟩)))
            go_ret
            refine ⟨ret_bool ?_, (Below.refl _ _).alloc (Nat.le_refl _) _⟩
            have x1 := H_x1.out; have x2 := H_x2.out; have x3 := H_x3.out; have x4 := H_x4.out; have x5 := H_x5.out; have x6 := H_x6.out
            have hk := H_hk.out
            clear H_x1 H_x2 H_x3 H_x4 H_x5 H_x6 H_q1 H_q2 H_q3 H_q4 H_q5 H_q6
            try simp at x1 x2 x3 x4 x5 x6
            first | (symm; rw [cvB_no]; unfold baseP kindP; rintro ⟨h1, h2⟩; omega) | (symm; rw [cvB_iff]; unfold baseP kindP; omega)
          | true =>
            by_cases hli : c.l = c.i
            · have dli : (c.l != c.i) = false := by simp [hli]
              have H_q1 := Lib.hid q1; clear q1; have H_q2 := Lib.hid q2; clear q2; have H_q3 := Lib.hid q3; clear q3; have H_q4 := Lib.hid q4; clear q4; have H_q5 := Lib.hid q5; clear q5; have H_q6 := Lib.hid q6; clear q6; have H_x1 := Lib.hid x1; clear x1; have H_x2 := Lib.hid x2; clear x2; have H_x3 := Lib.hid x3; clear x3; have H_x4 := Lib.hid x4; clear x4; have H_x5 := Lib.hid x5; clear x5; have H_x6 := Lib.hid x6; clear x6; have H_hli := Lib.hid hli; clear hli
              go_enter Tryd.func20, Tryd.ntmps20
              go_wp2_with (first | (go_at_call 45; ((with_reducible refine (H_q1.out).mono ?_); rintro e w_ ⟨rfl, rfl⟩)) | (go_at_call 45; ((with_reducible refine (H_q4.out).mono ?_); rintro e w_ ⟨rfl, rfl⟩)) | (go_at_call 45; ((with_reducible refine (H_q5.out).mono ?_); rintro e w_ ⟨rfl, rfl⟩)) | (go_at_call 45; ((with_reducible refine (H_q6.out).mono ?_); rintro e w_ ⟨rfl, rfl⟩)) | (go_at_call 44; ((with_reducible refine (H_q2.out).mono ?_); rintro e w_ ⟨rfl, rfl⟩)) | (go_at_call 44; ((with_reducible refine (H_q3.out).mono ?_); rintro e w_ ⟨rfl, rfl⟩)))
              go_ret
              refine ⟨ret_bool ?_, (Below.refl _ _).alloc (Nat.le_refl _) _⟩
              have x1 := H_x1.out; have x2 := H_x2.out; have x3 := H_x3.out; have x4 := H_x4.out; have x5 := H_x5.out; have x6 := H_x6.out
              have hk := H_hk.out
              clear H_x1 H_x2 H_x3 H_x4 H_x5 H_x6 H_q1 H_q2 H_q3 H_q4 H_q5 H_q6
              try simp at x1 x2 x3 x4 x5 x6
              have hli := H_hli.out; first | (symm; rw [cvB_no]; unfold baseP kindP; rintro ⟨h1, h2⟩; omega) | (symm; rw [cvB_iff]; unfold baseP kindP; omega)
            have dli : (c.l != c.i) = true := by simp [hli]
            have H_q1 := Lib.hid q1; clear q1; have H_q2 := Lib.hid q2; clear q2; have H_q3 := Lib.hid q3; clear q3; have H_q4 := Lib.hid q4; clear q4; have H_q5 := Lib.hid q5; clear q5; have H_q6 := Lib.hid q6; clear q6; have H_x1 := Lib.hid x1; clear x1; have H_x2 := Lib.hid x2; clear x2; have H_x3 := Lib.hid x3; clear x3; have H_x4 := Lib.hid x4; clear x4; have H_x5 := Lib.hid x5; clear x5; have H_x6 := Lib.hid x6; clear x6
            go_enter Tryd.func20, Tryd.ntmps20
            go_wp2_with (first | (go_at_call 45; ((with_reducible refine (H_q1.out).mono ?_); rintro e w_ ⟨rfl, rfl⟩)) | (go_at_call 45; ((with_reducible refine (H_q4.out).mono ?_); rintro e w_ ⟨rfl, rfl⟩)) | (go_at_call 45; ((with_reducible refine (H_q5.out).mono ?_); rintro e w_ ⟨rfl, rfl⟩)) | (go_at_call 45; ((with_reducible refine (H_q6.out).mono ?_); rintro e w_ ⟨rfl, rfl⟩)) | (go_at_call 44; ((with_reducible refine (H_q2.out).mono ?_); rintro e w_ ⟨rfl, rfl⟩)) | (go_at_call 44; ((with_reducible refine (H_q3.out).mono ?_); rintro e w_ ⟨rfl, rfl⟩)))
            go_ret
            refine ⟨ret_bool ?_, (Below.refl _ _).alloc (Nat.le_refl _) _⟩
            have x1 := H_x1.out; have x2 := H_x2.out; have x3 := H_x3.out; have x4 := H_x4.out; have x5 := H_x5.out; have x6 := H_x6.out
            have hen := H_hen.out
            have hk := H_hk.out
            clear H_x1 H_x2 H_x3 H_x4 H_x5 H_x6 H_q1 H_q2 H_q3 H_q4 H_q5 H_q6
            try simp at x1 x2 x3 x4 x5 x6
            first | (symm; rw [cvB_no]; unfold baseP kindP; rintro ⟨h1, h2⟩; omega) | (symm; rw [cvB_iff]; unfold baseP kindP; omega)
set_option maxHeartbeats 8000000 in
theorem rvalid0 (c : Crd) (hc : CFit c) (hk : (c.k ≠ 1 ∧ c.k ≠ 2 ∧ c.k ≠ 3)) (w : World) : Calls Tryd.prog 20 #[.agg c.cells.toArray] w fun e w' => e = .returned (.bool (cvB c)) ∧ Below w.heap.size w w' := by
  obtain ⟨w1, hw1⟩ : ∃ w1, w.alloc (.cells c.cells.toArray 31) = w1 := ⟨_, rfl⟩
  have q1 := rin_any c.i 1 1000000 w1
  have q2 := rExponent_any c.e w1
  have q3 := rExponent_any c.s w1
  have q4 := rin_any c.d 0 0 w1
  have q5 := rin_any c.n 0 0 w1
  have q6 := rin_any c.l 0 0 w1
  rw [← hw1] at q1 q2 q3 q4 q5 q6
  clear hw1
  have x1 := @wB_iff c.i 1 1000000
  have x2 := @wthB_iff c.e 0
  have x3 := @wthB_iff c.s 0
  have x4 := @wB_iff c.d 0 0
  have x5 := @wB_iff c.n 0 0
  have x6 := @wB_iff c.l 0 0
  generalize wB c.i 1 1000000 = b1 at *
  generalize wthB c.e 0 = b2 at *
  generalize wthB c.s 0 = b3 at *
  generalize wB c.d 0 0 = b4 at *
  generalize wB c.n 0 0 = b5 at *
  generalize wB c.l 0 0 = b6 at *
  have m1 : (c.k == 1) = false := by simp [hk]
  have m2 : (c.k == 2) = false := by simp [hk]
  have m3 : (c.k == 3) = false := by simp [hk]
  unfold Crd.cells at q1 q2 q3 q4 q5 q6 ⊢
  have H_hk := Lib.hid hk; clear hk; have H_hc := Lib.hid hc; clear hc
  cases b2 with
  | false =>
    have H_q1 := Lib.hid q1; clear q1; have H_q2 := Lib.hid q2; clear q2; have H_q3 := Lib.hid q3; clear q3; have H_q4 := Lib.hid q4; clear q4; have H_q5 := Lib.hid q5; clear q5; have H_q6 := Lib.hid q6; clear q6; have H_x1 := Lib.hid x1; clear x1; have H_x2 := Lib.hid x2; clear x2; have H_x3 := Lib.hid x3; clear x3; have H_x4 := Lib.hid x4; clear x4; have H_x5 := Lib.hid x5; clear x5; have H_x6 := Lib.hid x6; clear x6
    go_enter Tryd.func20, Tryd.ntmps20
    go_wp2_with (first | (go_at_call 45; ((with_reducible refine (H_q1.out).mono ?_); rintro e w_ ⟨rfl, rfl⟩)) | (go_at_call 45; ((with_reducible refine (H_q4.out).mono ?_); rintro e w_ ⟨rfl, rfl⟩)) | (go_at_call 45; ((with_reducible refine (H_q5.out).mono ?_); rintro e w_ ⟨rfl, rfl⟩)) | (go_at_call 45; ((with_reducible refine (H_q6.out).mono ?_); rintro e w_ ⟨rfl, rfl⟩)) | (go_at_call 44; ((with_reducible refine (H_q2.out).mono ?_); rintro e w_ ⟨rfl, rfl⟩)) | (go_at_call 44; ((with_reducible refine (H_q3.out).mono ?_); rintro e w_ ⟨rfl, rfl⟩)))
    go_ret
    refine ⟨ret_bool ?_, (Below.refl _ _).alloc (Nat.le_refl _) _⟩
    have x1 := H_x1.out; have x2 := H_x2.out; have x3 := H_x3.out; have x4 := H_x4.out; have x5 := H_x5.out; have x6 := H_x6.out
    have hk := H_hk.out
    clear H_x1 H_x2 H_x3 H_x4 H_x5 H_x6 H_q1 H_q2 H_q3 H_q4 H_q5 H_q6
    try simp at x1 x2 x3 x4 x5 x6
    first | (symm; rw [cvB_no]; unfold baseP kindP; rintro ⟨h1, h2⟩; omega) | (symm; rw [cvB_iff]; unfold baseP kindP; omega)
  | true =>
    cases b3 with
    | false =>
      have H_q1 := Lib.hid q1; clear q1; have H_q2 := Lib.hid q2; clear q2; have H_q3 := Lib.hid q3; clear q3; have H_q4 := Lib.hid q4; clear q4; have H_q5 := Lib.hid q5; clear q5; have H_q6 := Lib.hid q6; clear q6; have H_x1 := Lib.hid x1; clear x1; have H_x2 := Lib.hid x2; clear x2; have H_x3 := Lib.hid x3; clear x3; have H_x4 := Lib.hid x4; clear x4; have H_x5 := Lib.hid x5; clear x5; have H_x6 := Lib.hid x6; clear x6
      go_enter Tryd.func20, Tryd.ntmps20
      go_wp2_with (first | (go_at_call 45; ((with_reducible refine (H_q1.out).mono ?_); rintro e w_ ⟨rfl, rfl⟩)) | (go_at_call 45; ((with_reducible refine (H_q4.out).mono ?_); rintro e w_ ⟨rfl, rfl⟩)) | (go_at_call 45; ((with_reducible refine (H_q5.out).mono ?_); rintro e w_ ⟨rfl, rfl⟩)) | (go_at_call 45; ((with_reducible refine (H_q6.out).mono ?_); rintro e w_ ⟨rfl, rfl⟩)) | (go_at_call 44; ((with_reducible refine (H_q2.out).mono ?_); rintro e w_ ⟨rfl, rfl⟩)) | (go_at_call 44; ((with_reducible refine (H_q3.out).mono ?_); rintro e w_ ⟨rfl, rfl⟩)))
      go_ret
      refine ⟨ret_bool ?_, (Below.refl _ _).alloc (Nat.le_refl _) _⟩
      have x1 := H_x1.out; have x2 := H_x2.out; have x3 := H_x3.out; have x4 := H_x4.out; have x5 := H_x5.out; have x6 := H_x6.out
      have hk := H_hk.out
      clear H_x1 H_x2 H_x3 H_x4 H_x5 H_x6 H_q1 H_q2 H_q3 H_q4 H_q5 H_q6
      try simp at x1 x2 x3 x4 x5 x6
      first | (symm; rw [cvB_no]; unfold baseP kindP; rintro ⟨h1, h2⟩; omega) | (symm; rw [cvB_iff]; unfold baseP kindP; omega)
    | true =>
      cases b1 with
      | false =>
        have H_q1 := Lib.hid q1; clear q1; have H_q2 := Lib.hid q2; clear q2; have H_q3 := Lib.hid q3; clear q3; have H_q4 := Lib.hid q4; clear q4; have H_q5 := Lib.hid q5; clear q5; have H_q6 := Lib.hid q6; clear q6; have H_x1 := Lib.hid x1; clear x1; have H_x2 := Lib.hid x2; clear x2; have H_x3 := Lib.hid x3; clear x3; have H_x4 := Lib.hid x4; clear x4; have H_x5 := Lib.hid x5; clear x5; have H_x6 := Lib.hid x6; clear x6
        go_enter Tryd.func20, Tryd.ntmps20
        go_wp2_with (first | (go_at_call 45; ((with_reducible refine (H_q1.out).mono ?_); rintro e w_ ⟨rfl, rfl⟩)) | (go_at_call 45; ((with_reducible refine (H_q4.out).mono ?_); rintro e w_ ⟨rfl, rfl⟩)) | (go_at_call 45; ((with_reducible refine (H_q5.out).mono ?_); rintro e w_ ⟨rfl, rfl⟩)) | (go_at_call 45; ((with_reducible refine (H_q6.out).mono ?_); rintro e w_ ⟨rfl, rfl⟩)) | (go_at_call 44; ((with_reducible refine (H_q2.out).mono ?_); rintro e w_ ⟨rfl, rfl⟩)) | (go_at_call 44; ((with_reducible refine (H_q3.out).mono ?_); rintro e w_ ⟨rfl, rfl⟩)))
        go_ret
        refine ⟨ret_bool ?_, (Below.refl _ _).alloc (Nat.le_refl _) _⟩
        have x1 := H_x1.out; have x2 := H_x2.out; have x3 := H_x3.out; have x4 := H_x4.out; have x5 := H_x5.out; have x6 := H_x6.out
        have hk := H_hk.out
        clear H_x1 H_x2 H_x3 H_x4 H_x5 H_x6 H_q1 H_q2 H_q3 H_q4 H_q5 H_q6
        try simp at x1 x2 x3 x4 x5 x6
        first | (symm; rw [cvB_no]; unfold baseP kindP; rintro ⟨h1, h2⟩; omega) | (symm; rw [cvB_iff]; unfold baseP kindP; omega)
      | true =>
        by_cases h1 : c.f < 0
        · have dh1 : decide (c.f < 0) = true := decide_eq_true h1
          have H_q1 := Lib.hid q1; clear q1; have H_q2 := Lib.hid q2; clear q2; have H_q3 := Lib.hid q3; clear q3; have H_q4 := Lib.hid q4; clear q4; have H_q5 := Lib.hid q5; clear q5; have H_q6 := Lib.hid q6; clear q6; have H_x1 := Lib.hid x1; clear x1; have H_x2 := Lib.hid x2; clear x2; have H_x3 := Lib.hid x3; clear x3; have H_x4 := Lib.hid x4; clear x4; have H_x5 := Lib.hid x5; clear x5; have H_x6 := Lib.hid x6; clear x6
          go_enter Tryd.func20, Tryd.ntmps20
          go_wp2_with (first | (go_at_call 45; ((with_reducible refine (H_q1.out).mono ?_); rintro e w_ ⟨rfl, rfl⟩)) | (go_at_call 45; ((with_reducible refine (H_q4.out).mono ?_); rintro e w_ ⟨rfl, rfl⟩)) | (go_at_call 45; ((with_reducible refine (H_q5.out).mono ?_); rintro e w_ ⟨rfl, rfl⟩)) | (go_at_call 45; ((with_reducible refine (H_q6.out).mono ?_); rintro e w_ ⟨rfl, rfl⟩)) | (go_at_call 44; ((with_reducible refine (H_q2.out).mono ?_); rintro e w_ ⟨rfl, rfl⟩)) | (go_at_call 44; ((with_reducible refine (H_q3.out).mono ?_); rintro e w_ ⟨rfl, rfl⟩)))
          go_ret
          refine ⟨ret_bool ?_, (Below.refl _ _).alloc (Nat.le_refl _) _⟩
          have x1 := H_x1.out; have x2 := H_x2.out; have x3 := H_x3.out; have x4 := H_x4.out; have x5 := H_x5.out; have x6 := H_x6.out
          have hk := H_hk.out
          clear H_x1 H_x2 H_x3 H_x4 H_x5 H_x6 H_q1 H_q2 H_q3 H_q4 H_q5 H_q6
          try simp at x1 x2 x3 x4 x5 x6
          first | (symm; rw [cvB_no]; unfold baseP kindP; rintro ⟨h1, h2⟩; omega) | (symm; rw [cvB_iff]; unfold baseP kindP; omega)
        have dh1 : decide (c.f < 0) = false := decide_eq_false h1
        by_cases h2 : c.u ≤ c.f
        · have dh2 : decide (c.u ≤ c.f) = true := decide_eq_true h2
          have H_q1 := Lib.hid q1; clear q1; have H_q2 := Lib.hid q2; clear q2; have H_q3 := Lib.hid q3; clear q3; have H_q4 := Lib.hid q4; clear q4; have H_q5 := Lib.hid q5; clear q5; have H_q6 := Lib.hid q6; clear q6; have H_x1 := Lib.hid x1; clear x1; have H_x2 := Lib.hid x2; clear x2; have H_x3 := Lib.hid x3; clear x3; have H_x4 := Lib.hid x4; clear x4; have H_x5 := Lib.hid x5; clear x5; have H_x6 := Lib.hid x6; clear x6
          go_enter Tryd.func20, Tryd.ntmps20
          go_wp2_with (first | (go_at_call 45; ((with_reducible refine (H_q1.out).mono ?_); rintro e w_ ⟨rfl, rfl⟩)) | (go_at_call 45; ((with_reducible refine (H_q4.out).mono ?_); rintro e w_ ⟨rfl, rfl⟩)) | (go_at_call 45; ((with_reducible refine (H_q5.out).mono ?_); rintro e w_ ⟨rfl, rfl⟩)) | (go_at_call 45; ((with_reducible refine (H_q6.out).mono ?_); rintro e w_ ⟨rfl, rfl⟩)) | (go_at_call 44; ((with_reducible refine (H_q2.out).mono ?_); rintro e w_ ⟨rfl, rfl⟩)) | (go_at_call 44; ((with_reducible refine (H_q3.out).mono ?_); rintro e w_ ⟨rfl, rfl⟩)))
          go_ret
          refine ⟨ret_bool ?_, (Below.refl _ _).alloc (Nat.le_refl _) _⟩
          have x1 := H_x1.out; have x2 := H_x2.out; have x3 := H_x3.out; have x4 := H_x4.out; have x5 := H_x5.out; have x6 := H_x6.out
          have hk := H_hk.out
          clear H_x1 H_x2 H_x3 H_x4 H_x5 H_x6 H_q1 H_q2 H_q3 H_q4 H_q5 H_q6
          try simp at x1 x2 x3 x4 x5 x6
          first | (symm; rw [cvB_no]; unfold baseP kindP; rintro ⟨h1, h2⟩; omega) | (symm; rw [cvB_iff]; unfold baseP kindP; omega)
        have dh2 : decide (c.u ≤ c.f) = false := decide_eq_false h2
        by_cases h3 : 1000000000 < c.u
        · have dh3 : decide (1000000000 < c.u) = true := decide_eq_true h3
          have H_q1 := Lib.hid q1; clear q1; have H_q2 := Lib.hid q2; clear q2; have H_q3 := Lib.hid q3; clear q3; have H_q4 := Lib.hid q4; clear q4; have H_q5 := Lib.hid q5; clear q5; have H_q6 := Lib.hid q6; clear q6; have H_x1 := Lib.hid x1; clear x1; have H_x2 := Lib.hid x2; clear x2; have H_x3 := Lib.hid x3; clear x3; have H_x4 := Lib.hid x4; clear x4; have H_x5 := Lib.hid x5; clear x5; have H_x6 := Lib.hid x6; clear x6
          go_enter Tryd.func20, Tryd.ntmps20
          go_wp2_with (first | (go_at_call 45; ((with_reducible refine (H_q1.out).mono ?_); rintro e w_ ⟨rfl, rfl⟩)) | (go_at_call 45; ((with_reducible refine (H_q4.out).mono ?_); rintro e w_ ⟨rfl, rfl⟩)) | (go_at_call 45; ((with_reducible refine (H_q5.out).mono ?_); rintro e w_ ⟨rfl, rfl⟩)) | (go_at_call 45; ((with_reducible refine (H_q6.out).mono ?_); rintro e w_ ⟨rfl, rfl⟩)) | (go_at_call 44; ((with_reducible refine (H_q2.out).mono ?_); rintro e w_ ⟨rfl, rfl⟩)) | (go_at_call 44; ((with_reducible refine (H_q3.out).mono ?_); rintro e w_ ⟨rfl, rfl⟩)))
          go_ret
          refine ⟨ret_bool ?_, (Below.refl _ _).alloc (Nat.le_refl _) _⟩
          have x1 := H_x1.out; have x2 := H_x2.out; have x3 := H_x3.out; have x4 := H_x4.out; have x5 := H_x5.out; have x6 := H_x6.out
          have hk := H_hk.out
          clear H_x1 H_x2 H_x3 H_x4 H_x5 H_x6 H_q1 H_q2 H_q3 H_q4 H_q5 H_q6
          try simp at x1 x2 x3 x4 x5 x6
          first | (symm; rw [cvB_no]; unfold baseP kindP; rintro ⟨h1, h2⟩; omega) | (symm; rw [cvB_iff]; unfold baseP kindP; omega)
        have dh3 : decide (1000000000 < c.u) = false := decide_eq_false h3
        have H_q1 := Lib.hid q1; clear q1; have H_q2 := Lib.hid q2; clear q2; have H_q3 := Lib.hid q3; clear q3; have H_q4 := Lib.hid q4; clear q4; have H_q5 := Lib.hid q5; clear q5; have H_q6 := Lib.hid q6; clear q6; have H_x1 := Lib.hid x1; clear x1; have H_x2 := Lib.hid x2; clear x2; have H_x3 := Lib.hid x3; clear x3; have H_x4 := Lib.hid x4; clear x4; have H_x5 := Lib.hid x5; clear x5; have H_x6 := Lib.hid x6; clear x6
        go_enter Tryd.func20, Tryd.ntmps20
        go_wp2_with (first | (go_at_call 45; ((with_reducible refine (H_q1.out).mono ?_); rintro e w_ ⟨rfl, rfl⟩)) | (go_at_call 45; ((with_reducible refine (H_q4.out).mono ?_); rintro e w_ ⟨rfl, rfl⟩)) | (go_at_call 45; ((with_reducible refine (H_q5.out).mono ?_); rintro e w_ ⟨rfl, rfl⟩)) | (go_at_call 45; ((with_reducible refine (H_q6.out).mono ?_); rintro e w_ ⟨rfl, rfl⟩)) | (go_at_call 44; ((with_reducible refine (H_q2.out).mono ?_); rintro e w_ ⟨rfl, rfl⟩)) | (go_at_call 44; ((with_reducible refine (H_q3.out).mono ?_); rintro e w_ ⟨rfl, rfl⟩)))
        go_ret
        refine ⟨ret_bool ?_, (Below.refl _ _).alloc (Nat.le_refl _) _⟩
        have x1 := H_x1.out; have x2 := H_x2.out; have x3 := H_x3.out; have x4 := H_x4.out; have x5 := H_x5.out; have x6 := H_x6.out
        have hk := H_hk.out
        clear H_x1 H_x2 H_x3 H_x4 H_x5 H_x6 H_q1 H_q2 H_q3 H_q4 H_q5 H_q6
        try simp at x1 x2 x3 x4 x5 x6
        first | (symm; rw [cvB_no]; unfold baseP kindP; rintro ⟨h1, h2⟩; omega) | (symm; rw [cvB_iff]; unfold baseP kindP; omega)
theorem rvalid_any (c : Crd) (hc : CFit c) (w : World) : Calls Tryd.prog 20 #[.agg c.cells.toArray] w fun e w' => e = .returned (.bool (cvB c)) ∧ Below w.heap.size w w' := by
  by_cases h1 : c.k = 1
  · exact rvalid1 c hc h1 w
  · by_cases h2 : c.k = 2
    · exact rvalid2 c hc h2 w
    · by_cases h3 : c.k = 3
      · exact rvalid3 c hc h3 w
      · exact rvalid0 c hc ⟨h1, h2, h3⟩ w
theorem rof_any (c : Crd) (door : Int) (w : World) : Calls Tryd.prog 13 #[.agg c.cells.toArray, .int .i64 door] w fun e w' => e = .returned (.bool (ofB door c)) ∧ Below w.heap.size w w' := by
  unfold Crd.cells
  by_cases h1 : c.k = 1
  · have d1 : (c.k == 1) = true := by rw [h1]; rfl
    by_cases h2 : c.d = door
    · have d2 : (c.d == door) = true := by rw [h2]; simp
      have e : ofB door c = true := by simp [ofB, h1, h2]
      have H_e := Lib.hid e; clear e; have H_h1 := Lib.hid h1; clear h1; have H_h2 := Lib.hid h2; clear h2
      go_enter Tryd.func13, Tryd.ntmps13
      go_wp2
      go_ret
      exact ⟨ret_bool (by rw [H_e.out]), (Below.refl _ _).alloc (Nat.le_refl _) _⟩
    · have d2 : (c.d == door) = false := by rw [beq_eq_false_iff_ne]; exact h2
      have e : ofB door c = false := by simp [ofB, h2]
      have H_e := Lib.hid e; clear e; have H_h1 := Lib.hid h1; clear h1; have H_h2 := Lib.hid h2; clear h2
      go_enter Tryd.func13, Tryd.ntmps13
      go_wp2
      go_ret
      exact ⟨ret_bool (by rw [H_e.out]), (Below.refl _ _).alloc (Nat.le_refl _) _⟩
  · have d1 : (c.k == 1) = false := by rw [beq_eq_false_iff_ne]; exact h1
    have e : ofB door c = false := by simp [ofB, h1]
    have H_e := Lib.hid e; clear e; have H_h1 := Lib.hid h1; clear h1
    go_enter Tryd.func13, Tryd.ntmps13
    go_wp2
    go_ret
    exact ⟨ret_bool (by rw [H_e.out]), (Below.refl _ _).alloc (Nat.le_refl _) _⟩
set_option maxHeartbeats 1000000 in
theorem rmessage_any (c : Crd) (w : World) : Calls Tryd.prog 22 #[.agg c.cells.toArray] w (NewInts7 c.msg w) := by
  unfold Crd.cells Crd.msg
  go_enter Tryd.func22, Tryd.ntmps22
  go_wp2_with fail
  go_ret
  refine ⟨w.heap.size + 1, rfl, ?_, by omega, ((Below.refl _ _).alloc (Nat.le_refl _) _).alloc (by simp) _⟩
  exact ints_lit (w := w.alloc _) (E := 3) [c.i, c.k, c.d, c.n, c.f, c.u, c.l] _ (by simp)

/-- whether two lists of cards are the same -/
def csB : List Crd → List Crd → Bool
  | [], [] => true
  | x :: r, y :: s => ceqB x y && csB r s
  | _, _ => false
theorem csB_iff : ∀ {a b : List Crd}, csB a b = true ↔ a = b
  | [], [] => by simp [csB]
  | [], y :: s => by simp [csB]
  | x :: r, [] => by simp [csB]
  | x :: r, y :: s => by simp [csB, ceqB_iff, csB_iff]
theorem csB_len {a b : List Crd} (h : a.length ≠ b.length) : csB a b = false := by
  rw [Bool.eq_false_iff]; intro h2; rw [csB_iff] at h2; rw [h2] at h; exact h rfl
theorem csB_drop {a b : List Crd} {k : Nat} {x y : Crd} (hx : a[k]? = some x) (hy : b[k]? = some y) : csB (a.drop k) (b.drop k) = (ceqB x y && csB (a.drop (k + 1)) (b.drop (k + 1))) := by
  obtain ⟨h1, e1⟩ := List.getElem?_eq_some_iff.1 hx
  obtain ⟨h2, e2⟩ := List.getElem?_eq_some_iff.1 hy
  rw [List.drop_eq_getElem_cons h1, List.drop_eq_getElem_cons h2, csB, e1, e2]
set_option maxHeartbeats 4000000 in
theorem rcsame_any (A B : Option Addr) (n m p q : Nat) (a b : List Crd) (ha : a.length = n) (hb : b.length = m) (hn : n ≤ 100000) (hm : m ≤ 100000) (w : World) (h1 : Cards w A a) (h2 : Cards w B b) :
    Calls Tryd.prog 16 #[.slice A n p, .slice B m q] w fun e w' => e = .returned (.bool (csB a b)) ∧ Below w.heap.size w w' := by
  by_cases hnm : n = m
  rotate_left
  · have e := csB_len (a := a) (b := b) (by omega)
    have d1 : ((n : Int) != (m : Int)) = true := by rw [bne_iff_ne]; omega
    have H_e := Lib.hid e; clear e; have H_ha := Lib.hid ha; clear ha; have H_hb := Lib.hid hb; clear hb; have H_h1 := Lib.hid h1; clear h1; have H_h2 := Lib.hid h2; clear h2; have H_hnm := Lib.hid hnm; clear hnm
    go_enter Tryd.func16, Tryd.ntmps16
    go_wp2_with fail
    go_ret
    exact ⟨ret_bool (by rw [H_e.out]), Below.refl _ _⟩
  have d1 : ((n : Int) != (m : Int)) = false := by rw [bne_eq_false_iff_eq]; omega
  generalize hR : csB a b = R
  have h0 : R = csB (a.drop 0) (b.drop 0) := by rw [List.drop_zero, List.drop_zero]; exact hR.symm
  have H_ha := Lib.hid ha; clear ha; have H_hb := Lib.hid hb; clear hb; have H_h1 := Lib.hid h1; clear h1; have H_h2 := Lib.hid h2; clear h2; have H_hR := Lib.hid hR; clear hR; have H_h0 := Lib.hid h0; clear h0; have H_hnm := Lib.hid hnm; clear hnm
  go_enter Tryd.func16, Tryd.ntmps16
  go_wp2_with fail
  go_loopw [5] (fun i wr => ∃ (k : Nat), k ≤ n ∧ i = .int .i64 k ∧ R = csB (a.drop k) (b.drop k) ∧ Below w.heap.size w wr) (fun i _ => n - (intOf i).toNat)
  case atStart => exact ⟨0, by omega, rfl, H_h0.out, Below.refl _ _⟩
  case round =>
    obtain ⟨k, hk, rfl, hRk, hbw⟩ := hrel
    by_cases hlt : k < n
    · obtain ⟨x, hx⟩ : ∃ c, a[k]? = some c := ⟨_, List.getElem?_eq_getElem (by rw [H_ha.out]; exact hlt)⟩
      obtain ⟨y, hy⟩ : ∃ c, b[k]? = some c := ⟨_, List.getElem?_eq_getElem (by rw [H_hb.out, ← H_hnm.out]; exact hlt)⟩
      obtain ⟨b1, o1, rfl, hl1, hf1, x0, x1, x2, x3, x4, x5, x6, x7, x8⟩ := (H_h1.out.below hbw).at hx
      obtain ⟨b2, o2, rfl, hl2, hf2, y0, y1, y2, y3, y4, y5, y6, y7, y8⟩ := (H_h2.out.below hbw).at hy
      have eq := eq_card x y hf1 hf2
      rw [csB_drop hx hy] at hRk
      unfold Crd.cells at eq
      generalize ceqB x y = X at *
      have g1 : (k : Int) < (n : Int) := by omega
      have g2 : (k : Int) < (m : Int) := by have := H_hnm.out; omega
      have g0 : (0 : Int) ≤ (k : Int) := by omega
      have H_hRk := Lib.hid hRk; clear hRk; have H_hf1 := Lib.hid hf1; clear hf1; have H_hf2 := Lib.hid hf2; clear hf2; have H_hx := Lib.hid hx; clear hx; have H_hy := Lib.hid hy; clear hy; have H_hbw := Lib.hid hbw; clear hbw
      cases X with
      | true =>
        go_wp2_with fail
        go_quiet (fail)
        go_wp2_with fail
        go_roundw
        case rel => exact ⟨k + 1, by omega, by go_num, by rw [H_hRk.out, Bool.true_and], H_hbw.out.trans ((by (repeat (first | with_reducible exact Below.refl _ _ | with_reducible exact Nat.le_refl _ | with_reducible assumption | with_reducible refine Below.drew ?_ | with_reducible refine below_drewN ?_ _ | with_reducible refine Below.alloc ?_ ?_ _ | with_reducible refine Below.setCell ?_ ?_ _ | with_reducible exact And.right (by assumption) | with_reducible refine Below.trans ?_ (Below.mono (by assumption) ?_) | with_reducible exact Below.size (And.right (by assumption)) | (focus omega) | (focus (simp; done)) | (focus (simp; omega)) | (focus (simp at *; omega)))) : Below wr.heap.size wr _).mono H_hbw.out.size)⟩
        case measure => simp [intOf]; omega
      | false =>
        go_wp2_with fail
        go_quiet (fail)
        go_wp2_with fail
        go_ret
        exact ⟨ret_bool (by rw [H_hRk.out]; rfl), H_hbw.out.trans ((by (repeat (first | with_reducible exact Below.refl _ _ | with_reducible exact Nat.le_refl _ | with_reducible assumption | with_reducible refine Below.drew ?_ | with_reducible refine below_drewN ?_ _ | with_reducible refine Below.alloc ?_ ?_ _ | with_reducible refine Below.setCell ?_ ?_ _ | with_reducible exact And.right (by assumption) | with_reducible refine Below.trans ?_ (Below.mono (by assumption) ?_) | with_reducible exact Below.size (And.right (by assumption)) | (focus omega) | (focus (simp; done)) | (focus (simp; omega)) | (focus (simp at *; omega)))) : Below wr.heap.size wr _).mono H_hbw.out.size)⟩
    · have e1 : a.drop k = [] := List.drop_eq_nil_of_le (by rw [H_ha.out]; omega)
      have e2 : b.drop k = [] := List.drop_eq_nil_of_le (by rw [H_hb.out, ← H_hnm.out]; omega)
      rw [e1, e2] at hRk
      have g1 : ¬ (k : Int) < (n : Int) := by omega
      have H_hRk := Lib.hid hRk; clear hRk; have H_hbw := Lib.hid hbw; clear hbw; have H_e1 := Lib.hid e1; clear e1; have H_e2 := Lib.hid e2; clear e2
      go_wp2_with fail
      go_ret
      exact ⟨ret_bool (by rw [H_hRk.out]; rfl), H_hbw.out⟩
end Go.Proofs.YtoehobaigfmnpaaDoor

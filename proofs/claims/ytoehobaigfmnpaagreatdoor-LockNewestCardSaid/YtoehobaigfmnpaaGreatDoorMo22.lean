/- Contracts of the reference of slot: Best. -/
import Derived.Test.YtoehobaigfmnpaaGreatDoorMo12
import Derived.Test.YtoehobaigfmnpaaGreatDoorMo21
namespace Go.Proofs.YtoehobaigfmnpaaGreatDoor
set_option linter.unusedSimpArgs false
set_option linter.unusedVariables false
set_option maxRecDepth 100000
open Go.RowKit
theorem rvalid_at {x : Slt} {A : Option Addr} {n : Nat} (cap : Nat) {w : World} (h : SlotIs w A n x) :
    Calls Tryz.prog 57 #[.agg #[.int .i64 x.s, .int .i64 x.c, .slice A n cap, .int .u64 x.u]] w fun e w' => e = .returned (.bool x.ok) ∧ Below w.heap.size w w' :=
  rvalid_any x.s x.c x.u A cap n x.l h.len w h.s h.c h.ints h.few h.fit

set_option maxHeartbeats 2000000 in
theorem rbest_any (x y : Slt) (A : Option Addr) (n p : Nat) (B : Option Addr) (m q : Nat) (w : World) (hx : SlotIs w A n x) (hy : SlotIs w B m y) :
    Calls Tryz.prog 28 #[.agg #[.int .i64 x.s, .int .i64 x.c, .slice A n p, .int .u64 x.u, .int .i64 y.s, .int .i64 y.c, .slice B m q, .int .u64 y.u]] w fun e w' => e = .returned (.tuple #[.int .i64 (bestI x y), .bool (bestB x y)]) ∧ Below w.heap.size w w' := by
  have b1 : Below w.heap.size w (w.alloc (.cells #[.int .i64 x.s, .int .i64 x.c, .slice A n p, .int .u64 x.u, .int .i64 y.s, .int .i64 y.c, .slice B m q, .int .u64 y.u] 26)) := (Below.refl _ _).alloc (Nat.le_refl _) _
  have q1 := rvalid_at p (hx.below b1)
  have q2 := fun W (h : SlotIs W B m y) => rvalid_at q h
  cases h0 : x.ok with
  | false =>
    cases h1 : y.ok with
    | false =>
      rw [h0] at q1
      rw [h1] at q2
      have fin := bestI_of h0 h1 rfl
      generalize bestI x y = I at *
      generalize bestB x y = E at *
      have hI : I = 0 := by simpa using fin.1
      have hE : E = false := by simpa using fin.2
      subst hI hE
      clear fin
      have ⟨H_hx, H_hy, H_b1, H_q1, H_q2, H_h0, H_h1⟩ := hid7 hx hy b1 q1 q2 h0 h1; clear hx hy b1 q1 q2 h0 h1
      go_enter Tryz.func28, Tryz.ntmps28
      go_wp2_with fail
      refine (H_q1.out).mono ?_; rintro e w2 ⟨rfl, hbw2⟩
      have hsw2 := hbw2.size; (try simp only [World.size_alloc, World.heap_drewN, World.size_setCell, heap_drew] at hsw2)
      have gw2 : Below w.heap.size w w2 := belt
      have kw2x0x0 := keepc hbw2 (b := w.heap.size) (o := 0) omg (by go_simp; with_reducible rfl)
      have kw2x0x1 := keepc hbw2 (b := w.heap.size) (o := 1) omg (by go_simp; with_reducible rfl)
      have kw2x0x2 := keepc hbw2 (b := w.heap.size) (o := 2) omg (by go_simp; with_reducible rfl)
      have kw2x0x3 := keepc hbw2 (b := w.heap.size) (o := 3) omg (by go_simp; with_reducible rfl)
      have kw2x0x4 := keepc hbw2 (b := w.heap.size) (o := 4) omg (by go_simp; with_reducible rfl)
      have kw2x0x5 := keepc hbw2 (b := w.heap.size) (o := 5) omg (by go_simp; with_reducible rfl)
      have kw2x0x6 := keepc hbw2 (b := w.heap.size) (o := 6) omg (by go_simp; with_reducible rfl)
      have kw2x0x7 := keepc hbw2 (b := w.heap.size) (o := 7) omg (by go_simp; with_reducible rfl)
      have zw2x0 : w.heap.size < w2.heap.size := by omega
      have H_hbw2 := Lib.hid hbw2; clear hbw2
      have q2 := H_q2.out w2 (H_hy.out.below gw2)
      have H_q2 := Lib.hid q2; clear q2
      go_wp2_with fail
      refine (H_q2.out).mono ?_; rintro e w3 ⟨rfl, hbw3⟩
      have hsw3 := hbw3.size; (try simp only [World.size_alloc, World.heap_drewN, World.size_setCell, heap_drew] at hsw3)
      have gw3 : Below w.heap.size w w3 := belt
      have kw3x0x0 := keepc hbw3 (b := w.heap.size) (o := 0) omg (by go_simp; with_reducible rfl)
      have kw3x0x1 := keepc hbw3 (b := w.heap.size) (o := 1) omg (by go_simp; with_reducible rfl)
      have kw3x0x2 := keepc hbw3 (b := w.heap.size) (o := 2) omg (by go_simp; with_reducible rfl)
      have kw3x0x3 := keepc hbw3 (b := w.heap.size) (o := 3) omg (by go_simp; with_reducible rfl)
      have kw3x0x4 := keepc hbw3 (b := w.heap.size) (o := 4) omg (by go_simp; with_reducible rfl)
      have kw3x0x5 := keepc hbw3 (b := w.heap.size) (o := 5) omg (by go_simp; with_reducible rfl)
      have kw3x0x6 := keepc hbw3 (b := w.heap.size) (o := 6) omg (by go_simp; with_reducible rfl)
      have kw3x0x7 := keepc hbw3 (b := w.heap.size) (o := 7) omg (by go_simp; with_reducible rfl)
      have zw3x0 : w.heap.size < w3.heap.size := by omega
      have H_hbw3 := Lib.hid hbw3; clear hbw3
      clear gw2
      clear kw2x0x0
      clear kw2x0x1
      clear kw2x0x2
      clear kw2x0x3
      clear kw2x0x4
      clear kw2x0x5
      clear kw2x0x6
      clear kw2x0x7
      go_wp2_with fail
      go_ret2
      exact ⟨rfl, gw3⟩
    | true =>
      rw [h0] at q1
      rw [h1] at q2
      have fin := bestI_of h0 h1 rfl
      generalize bestI x y = I at *
      generalize bestB x y = E at *
      have hI : I = 1 := by simpa using fin.1
      have hE : E = true := by simpa using fin.2
      subst hI hE
      clear fin
      have ⟨H_hx, H_hy, H_b1, H_q1, H_q2, H_h0, H_h1⟩ := hid7 hx hy b1 q1 q2 h0 h1; clear hx hy b1 q1 q2 h0 h1
      go_enter Tryz.func28, Tryz.ntmps28
      go_wp2_with fail
      refine (H_q1.out).mono ?_; rintro e w2 ⟨rfl, hbw2⟩
      have hsw2 := hbw2.size; (try simp only [World.size_alloc, World.heap_drewN, World.size_setCell, heap_drew] at hsw2)
      have gw2 : Below w.heap.size w w2 := belt
      have kw2x0x0 := keepc hbw2 (b := w.heap.size) (o := 0) omg (by go_simp; with_reducible rfl)
      have kw2x0x1 := keepc hbw2 (b := w.heap.size) (o := 1) omg (by go_simp; with_reducible rfl)
      have kw2x0x2 := keepc hbw2 (b := w.heap.size) (o := 2) omg (by go_simp; with_reducible rfl)
      have kw2x0x3 := keepc hbw2 (b := w.heap.size) (o := 3) omg (by go_simp; with_reducible rfl)
      have kw2x0x4 := keepc hbw2 (b := w.heap.size) (o := 4) omg (by go_simp; with_reducible rfl)
      have kw2x0x5 := keepc hbw2 (b := w.heap.size) (o := 5) omg (by go_simp; with_reducible rfl)
      have kw2x0x6 := keepc hbw2 (b := w.heap.size) (o := 6) omg (by go_simp; with_reducible rfl)
      have kw2x0x7 := keepc hbw2 (b := w.heap.size) (o := 7) omg (by go_simp; with_reducible rfl)
      have zw2x0 : w.heap.size < w2.heap.size := by omega
      have H_hbw2 := Lib.hid hbw2; clear hbw2
      have q2 := H_q2.out w2 (H_hy.out.below gw2)
      have H_q2 := Lib.hid q2; clear q2
      go_wp2_with fail
      refine (H_q2.out).mono ?_; rintro e w3 ⟨rfl, hbw3⟩
      have hsw3 := hbw3.size; (try simp only [World.size_alloc, World.heap_drewN, World.size_setCell, heap_drew] at hsw3)
      have gw3 : Below w.heap.size w w3 := belt
      have kw3x0x0 := keepc hbw3 (b := w.heap.size) (o := 0) omg (by go_simp; with_reducible rfl)
      have kw3x0x1 := keepc hbw3 (b := w.heap.size) (o := 1) omg (by go_simp; with_reducible rfl)
      have kw3x0x2 := keepc hbw3 (b := w.heap.size) (o := 2) omg (by go_simp; with_reducible rfl)
      have kw3x0x3 := keepc hbw3 (b := w.heap.size) (o := 3) omg (by go_simp; with_reducible rfl)
      have kw3x0x4 := keepc hbw3 (b := w.heap.size) (o := 4) omg (by go_simp; with_reducible rfl)
      have kw3x0x5 := keepc hbw3 (b := w.heap.size) (o := 5) omg (by go_simp; with_reducible rfl)
      have kw3x0x6 := keepc hbw3 (b := w.heap.size) (o := 6) omg (by go_simp; with_reducible rfl)
      have kw3x0x7 := keepc hbw3 (b := w.heap.size) (o := 7) omg (by go_simp; with_reducible rfl)
      have zw3x0 : w.heap.size < w3.heap.size := by omega
      have H_hbw3 := Lib.hid hbw3; clear hbw3
      clear gw2
      clear kw2x0x0
      clear kw2x0x1
      clear kw2x0x2
      clear kw2x0x3
      clear kw2x0x4
      clear kw2x0x5
      clear kw2x0x6
      clear kw2x0x7
      go_wp2_with fail
      go_ret2
      exact ⟨rfl, gw3⟩
  | true =>
    cases h1 : y.ok with
    | false =>
      rw [h0] at q1
      rw [h1] at q2
      have fin := bestI_of h0 h1 rfl
      generalize bestI x y = I at *
      generalize bestB x y = E at *
      have hI : I = 0 := by simpa using fin.1
      have hE : E = true := by simpa using fin.2
      subst hI hE
      clear fin
      have ⟨H_hx, H_hy, H_b1, H_q1, H_q2, H_h0, H_h1⟩ := hid7 hx hy b1 q1 q2 h0 h1; clear hx hy b1 q1 q2 h0 h1
      go_enter Tryz.func28, Tryz.ntmps28
      go_wp2_with fail
      refine (H_q1.out).mono ?_; rintro e w2 ⟨rfl, hbw2⟩
      have hsw2 := hbw2.size; (try simp only [World.size_alloc, World.heap_drewN, World.size_setCell, heap_drew] at hsw2)
      have gw2 : Below w.heap.size w w2 := belt
      have kw2x0x0 := keepc hbw2 (b := w.heap.size) (o := 0) omg (by go_simp; with_reducible rfl)
      have kw2x0x1 := keepc hbw2 (b := w.heap.size) (o := 1) omg (by go_simp; with_reducible rfl)
      have kw2x0x2 := keepc hbw2 (b := w.heap.size) (o := 2) omg (by go_simp; with_reducible rfl)
      have kw2x0x3 := keepc hbw2 (b := w.heap.size) (o := 3) omg (by go_simp; with_reducible rfl)
      have kw2x0x4 := keepc hbw2 (b := w.heap.size) (o := 4) omg (by go_simp; with_reducible rfl)
      have kw2x0x5 := keepc hbw2 (b := w.heap.size) (o := 5) omg (by go_simp; with_reducible rfl)
      have kw2x0x6 := keepc hbw2 (b := w.heap.size) (o := 6) omg (by go_simp; with_reducible rfl)
      have kw2x0x7 := keepc hbw2 (b := w.heap.size) (o := 7) omg (by go_simp; with_reducible rfl)
      have zw2x0 : w.heap.size < w2.heap.size := by omega
      have H_hbw2 := Lib.hid hbw2; clear hbw2
      have q2 := H_q2.out w2 (H_hy.out.below gw2)
      have H_q2 := Lib.hid q2; clear q2
      go_wp2_with fail
      refine (H_q2.out).mono ?_; rintro e w3 ⟨rfl, hbw3⟩
      have hsw3 := hbw3.size; (try simp only [World.size_alloc, World.heap_drewN, World.size_setCell, heap_drew] at hsw3)
      have gw3 : Below w.heap.size w w3 := belt
      have kw3x0x0 := keepc hbw3 (b := w.heap.size) (o := 0) omg (by go_simp; with_reducible rfl)
      have kw3x0x1 := keepc hbw3 (b := w.heap.size) (o := 1) omg (by go_simp; with_reducible rfl)
      have kw3x0x2 := keepc hbw3 (b := w.heap.size) (o := 2) omg (by go_simp; with_reducible rfl)
      have kw3x0x3 := keepc hbw3 (b := w.heap.size) (o := 3) omg (by go_simp; with_reducible rfl)
      have kw3x0x4 := keepc hbw3 (b := w.heap.size) (o := 4) omg (by go_simp; with_reducible rfl)
      have kw3x0x5 := keepc hbw3 (b := w.heap.size) (o := 5) omg (by go_simp; with_reducible rfl)
      have kw3x0x6 := keepc hbw3 (b := w.heap.size) (o := 6) omg (by go_simp; with_reducible rfl)
      have kw3x0x7 := keepc hbw3 (b := w.heap.size) (o := 7) omg (by go_simp; with_reducible rfl)
      have zw3x0 : w.heap.size < w3.heap.size := by omega
      have H_hbw3 := Lib.hid hbw3; clear hbw3
      clear gw2
      clear kw2x0x0
      clear kw2x0x1
      clear kw2x0x2
      clear kw2x0x3
      clear kw2x0x4
      clear kw2x0x5
      clear kw2x0x6
      clear kw2x0x7
      go_wp2_with fail
      go_ret2
      exact ⟨rfl, gw3⟩
    | true =>
      by_cases hlt : x.s < y.s
      · have hg : decide (x.s < y.s) = true := by simpa using hlt
        rw [h0] at q1
        rw [h1] at q2
        have fin := bestI_of h0 h1 hg
        generalize bestI x y = I at *
        generalize bestB x y = E at *
        have hI : I = 1 := by simpa using fin.1
        have hE : E = true := by simpa using fin.2
        subst hI hE
        clear fin
        have ⟨H_hx, H_hy, H_b1, H_q1, H_q2, H_h0, H_h1⟩ := hid7 hx hy b1 q1 q2 h0 h1; clear hx hy b1 q1 q2 h0 h1
        go_enter Tryz.func28, Tryz.ntmps28
        go_wp2_with fail
        refine (H_q1.out).mono ?_; rintro e w2 ⟨rfl, hbw2⟩
        have hsw2 := hbw2.size; (try simp only [World.size_alloc, World.heap_drewN, World.size_setCell, heap_drew] at hsw2)
        have gw2 : Below w.heap.size w w2 := belt
        have kw2x0x0 := keepc hbw2 (b := w.heap.size) (o := 0) omg (by go_simp; with_reducible rfl)
        have kw2x0x1 := keepc hbw2 (b := w.heap.size) (o := 1) omg (by go_simp; with_reducible rfl)
        have kw2x0x2 := keepc hbw2 (b := w.heap.size) (o := 2) omg (by go_simp; with_reducible rfl)
        have kw2x0x3 := keepc hbw2 (b := w.heap.size) (o := 3) omg (by go_simp; with_reducible rfl)
        have kw2x0x4 := keepc hbw2 (b := w.heap.size) (o := 4) omg (by go_simp; with_reducible rfl)
        have kw2x0x5 := keepc hbw2 (b := w.heap.size) (o := 5) omg (by go_simp; with_reducible rfl)
        have kw2x0x6 := keepc hbw2 (b := w.heap.size) (o := 6) omg (by go_simp; with_reducible rfl)
        have kw2x0x7 := keepc hbw2 (b := w.heap.size) (o := 7) omg (by go_simp; with_reducible rfl)
        have zw2x0 : w.heap.size < w2.heap.size := by omega
        have H_hbw2 := Lib.hid hbw2; clear hbw2
        have q2 := H_q2.out w2 (H_hy.out.below gw2)
        have H_q2 := Lib.hid q2; clear q2
        go_wp2_with fail
        refine (H_q2.out).mono ?_; rintro e w3 ⟨rfl, hbw3⟩
        have hsw3 := hbw3.size; (try simp only [World.size_alloc, World.heap_drewN, World.size_setCell, heap_drew] at hsw3)
        have gw3 : Below w.heap.size w w3 := belt
        have kw3x0x0 := keepc hbw3 (b := w.heap.size) (o := 0) omg (by go_simp; with_reducible rfl)
        have kw3x0x1 := keepc hbw3 (b := w.heap.size) (o := 1) omg (by go_simp; with_reducible rfl)
        have kw3x0x2 := keepc hbw3 (b := w.heap.size) (o := 2) omg (by go_simp; with_reducible rfl)
        have kw3x0x3 := keepc hbw3 (b := w.heap.size) (o := 3) omg (by go_simp; with_reducible rfl)
        have kw3x0x4 := keepc hbw3 (b := w.heap.size) (o := 4) omg (by go_simp; with_reducible rfl)
        have kw3x0x5 := keepc hbw3 (b := w.heap.size) (o := 5) omg (by go_simp; with_reducible rfl)
        have kw3x0x6 := keepc hbw3 (b := w.heap.size) (o := 6) omg (by go_simp; with_reducible rfl)
        have kw3x0x7 := keepc hbw3 (b := w.heap.size) (o := 7) omg (by go_simp; with_reducible rfl)
        have zw3x0 : w.heap.size < w3.heap.size := by omega
        have H_hbw3 := Lib.hid hbw3; clear hbw3
        clear gw2
        clear kw2x0x0
        clear kw2x0x1
        clear kw2x0x2
        clear kw2x0x3
        clear kw2x0x4
        clear kw2x0x5
        clear kw2x0x6
        clear kw2x0x7
        go_wp2_with fail
        go_ret2
        exact ⟨rfl, gw3⟩
      · have hg : decide (x.s < y.s) = false := by simpa using hlt
        rw [h0] at q1
        rw [h1] at q2
        have fin := bestI_of h0 h1 hg
        generalize bestI x y = I at *
        generalize bestB x y = E at *
        have hI : I = 0 := by simpa using fin.1
        have hE : E = true := by simpa using fin.2
        subst hI hE
        clear fin
        have ⟨H_hx, H_hy, H_b1, H_q1, H_q2, H_h0, H_h1⟩ := hid7 hx hy b1 q1 q2 h0 h1; clear hx hy b1 q1 q2 h0 h1
        go_enter Tryz.func28, Tryz.ntmps28
        go_wp2_with fail
        refine (H_q1.out).mono ?_; rintro e w2 ⟨rfl, hbw2⟩
        have hsw2 := hbw2.size; (try simp only [World.size_alloc, World.heap_drewN, World.size_setCell, heap_drew] at hsw2)
        have gw2 : Below w.heap.size w w2 := belt
        have kw2x0x0 := keepc hbw2 (b := w.heap.size) (o := 0) omg (by go_simp; with_reducible rfl)
        have kw2x0x1 := keepc hbw2 (b := w.heap.size) (o := 1) omg (by go_simp; with_reducible rfl)
        have kw2x0x2 := keepc hbw2 (b := w.heap.size) (o := 2) omg (by go_simp; with_reducible rfl)
        have kw2x0x3 := keepc hbw2 (b := w.heap.size) (o := 3) omg (by go_simp; with_reducible rfl)
        have kw2x0x4 := keepc hbw2 (b := w.heap.size) (o := 4) omg (by go_simp; with_reducible rfl)
        have kw2x0x5 := keepc hbw2 (b := w.heap.size) (o := 5) omg (by go_simp; with_reducible rfl)
        have kw2x0x6 := keepc hbw2 (b := w.heap.size) (o := 6) omg (by go_simp; with_reducible rfl)
        have kw2x0x7 := keepc hbw2 (b := w.heap.size) (o := 7) omg (by go_simp; with_reducible rfl)
        have zw2x0 : w.heap.size < w2.heap.size := by omega
        have H_hbw2 := Lib.hid hbw2; clear hbw2
        have q2 := H_q2.out w2 (H_hy.out.below gw2)
        have H_q2 := Lib.hid q2; clear q2
        go_wp2_with fail
        refine (H_q2.out).mono ?_; rintro e w3 ⟨rfl, hbw3⟩
        have hsw3 := hbw3.size; (try simp only [World.size_alloc, World.heap_drewN, World.size_setCell, heap_drew] at hsw3)
        have gw3 : Below w.heap.size w w3 := belt
        have kw3x0x0 := keepc hbw3 (b := w.heap.size) (o := 0) omg (by go_simp; with_reducible rfl)
        have kw3x0x1 := keepc hbw3 (b := w.heap.size) (o := 1) omg (by go_simp; with_reducible rfl)
        have kw3x0x2 := keepc hbw3 (b := w.heap.size) (o := 2) omg (by go_simp; with_reducible rfl)
        have kw3x0x3 := keepc hbw3 (b := w.heap.size) (o := 3) omg (by go_simp; with_reducible rfl)
        have kw3x0x4 := keepc hbw3 (b := w.heap.size) (o := 4) omg (by go_simp; with_reducible rfl)
        have kw3x0x5 := keepc hbw3 (b := w.heap.size) (o := 5) omg (by go_simp; with_reducible rfl)
        have kw3x0x6 := keepc hbw3 (b := w.heap.size) (o := 6) omg (by go_simp; with_reducible rfl)
        have kw3x0x7 := keepc hbw3 (b := w.heap.size) (o := 7) omg (by go_simp; with_reducible rfl)
        have zw3x0 : w.heap.size < w3.heap.size := by omega
        have H_hbw3 := Lib.hid hbw3; clear hbw3
        clear gw2
        clear kw2x0x0
        clear kw2x0x1
        clear kw2x0x2
        clear kw2x0x3
        clear kw2x0x4
        clear kw2x0x5
        clear kw2x0x6
        clear kw2x0x7
        go_wp2_with fail
        go_ret2
        exact ⟨rfl, gw3⟩
end Go.Proofs.YtoehobaigfmnpaaGreatDoor

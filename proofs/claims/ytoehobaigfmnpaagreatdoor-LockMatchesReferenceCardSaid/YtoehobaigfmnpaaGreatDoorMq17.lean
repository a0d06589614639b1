/- Contracts of the reference of slot: Write, one case of which slot is the best. -/
import Derived.Test.YtoehobaigfmnpaaGreatDoorMq10
import Derived.Test.YtoehobaigfmnpaaGreatDoorMq16
set_option linter.unusedSimpArgs false
set_option linter.unusedVariables false
set_option maxRecDepth 100000
namespace Go.Proofs.YtoehobaigfmnpaaGreatDoor
open Go.RowKit
theorem rvalid_at {x : Slt} {A : Option Addr} {n : Nat} (cap : Nat) {w : World} (h : SlotIs w A n x) :
  Calls Tryz.prog 57 #[.agg #[.int .i64 x.s, .int .i64 x.c, .slice A n cap, .int .u64 x.u]] w fun e w' => e = .returned (.bool x.ok) ∧ Below w.heap.size w w' :=
 rvalid_any x.s x.c x.u A cap n x.l h.len w h.s h.c h.ints h.few h.fit
set_option maxHeartbeats 2000000 in
theorem rbest_any (x y : Slt) (A : Option Addr) (n p : Nat) (B : Option Addr) (m q : Nat) (w : World) (hx : SlotIs w A n x) (hy : SlotIs w B m y) :
  Calls Tryz.prog 28 #[.agg #[.int .i64 x.s, .int .i64 x.c, .slice A n p, .int .u64 x.u, .int .i64 y.s, .int .i64 y.c, .slice B m q, .int .u64 y.u]] w fun e w' => e = .returned (.tuple #[.int .i64 (bestI x y), .bool (bestB x y)]) ∧ Below w.heap.size w w' := by
 have b1 : Below w.heap.size w (w.alloc (.cells #[.int .i64 x.s, .int .i64 x.c, .slice A n p, .int .u64 x.u, .int .i64 y.s, .int .i64 y.c, .slice B m q, .int .u64 y.u] 26)) := (Below.refl _ _).alloc (Nat.le_refl _) _
 have q1 := rvalid_at p (hx.below b1)
 have q2 := fun W (h : SlotIs W B m y) => rvalid_at q h
 cases h0 : x.ok with
 | false =>
  cases h1 : y.ok with
  | false =>
   rw [h0] at q1
   rw [h1] at q2
   have fin := bestI_of h0 h1 rfl
   generalize bestI x y = I at *
   generalize bestB x y = E at *
   have hI : I = 0 := by simpa using fin.1
   have hE : E = false := by simpa using fin.2
   subst hI hE
   clear fin
   have ⟨H_hx, H_hy, H_b1, H_q1, H_q2, H_h0, H_h1⟩ := hid7 hx hy b1 q1 q2 h0 h1; clear hx hy b1 q1 q2 h0 h1
   go_enter Tryz.func28, Tryz.ntmps28
   go_wp2_with fail
   refine (H_q1.out).mono ?_; rintro e w2 ⟨rfl, hbw2⟩
   have hsw2 := hbw2.size; (try simp only [World.size_alloc, World.heap_drewN, World.size_setCell, heap_drew] at hsw2)
   have gw2 : Below w.heap.size w w2 := belt
   have kw2x0x0 := keepc hbw2 (b := w.heap.size) (o := 0) omg (by go_simp; with_reducible rfl)
   have kw2x0x1 := keepc hbw2 (b := w.heap.size) (o := 1) omg (by go_simp; with_reducible rfl)
   have kw2x0x2 := keepc hbw2 (b := w.heap.size) (o := 2) omg (by go_simp; with_reducible rfl)
   have kw2x0x3 := keepc hbw2 (b := w.heap.size) (o := 3) omg (by go_simp; with_reducible rfl)
   have kw2x0x4 := keepc hbw2 (b := w.heap.size) (o := 4) omg (by go_simp; with_reducible rfl)
   have kw2x0x5 := keepc hbw2 (b := w.heap.size) (o := 5) omg (by go_simp; with_reducible rfl)
   have kw2x0x6 := keepc hbw2 (b := w.heap.size) (o := 6) omg (by go_simp; with_reducible rfl)
   have kw2x0x7 := keepc hbw2 (b := w.heap.size) (o := 7) omg (by go_simp; with_reducible rfl)
   have zw2x0 : w.heap.size < w2.heap.size := by omega
   have H_hbw2 := Lib.hid hbw2; clear hbw2
   have q2 := H_q2.out w2 (H_hy.out.below gw2)
   have H_q2 := Lib.hid q2; clear q2
   go_wp2_with fail
   refine (H_q2.out).mono ?_; rintro e w3 ⟨rfl, hbw3⟩
   have hsw3 := hbw3.size; (try simp only [World.size_alloc, World.heap_drewN, World.size_setCell, heap_drew] at hsw3)
   have gw3 : Below w.heap.size w w3 := belt
   have kw3x0x0 := keepc hbw3 (b := w.heap.size) (o := 0) omg (by go_simp; with_reducible rfl)
   have kw3x0x1 := keepc hbw3 (b := w.heap.size) (o := 1) omg (by go_simp; with_reducible rfl)
   have kw3x0x2 := keepc hbw3 (b := w.heap.size) (o := 2) omg (by go_simp; with_reducible rfl)
   have kw3x0x3 := keepc hbw3 (b := w.heap.size) (o := 3) omg (by go_simp; with_reducible rfl)
   have kw3x0x4 := keepc hbw3 (b := w.heap.size) (o := 4) omg (by go_simp; with_reducible rfl)
   have kw3x0x5 := keepc hbw3 (b := w.heap.size) (o := 5) omg (by go_simp; with_reducible rfl)
   have kw3x0x6 := keepc hbw3 (b := w.heap.size) (o := 6) omg (by go_simp; with_reducible rfl)
   have kw3x0x7 := keepc hbw3 (b := w.heap.size) (o := 7) omg (by go_simp; with_reducible rfl)
   have zw3x0 : w.heap.size < w3.heap.size := by omega
   have H_hbw3 := Lib.hid hbw3; clear hbw3
   clear gw2
   clear kw2x0x0
   clear kw2x0x1
   clear kw2x0x2
   clear kw2x0x3
   clear kw2x0x4
   clear kw2x0x5
   clear kw2x0x6
   clear kw2x0x7
   go_wp2_with fail
   go_ret2
   exact ⟨rfl, gw3⟩
  | true =>
   rw [h0] at q1
   rw [h1] at q2
   have fin := bestI_of h0 h1 rfl
   generalize bestI x y = I at *
   generalize bestB x y = E at *
   have hI : I = 1 := by simpa using fin.1
   have hE : E = true := by simpa using fin.2
   subst hI hE
   clear fin
   have ⟨H_hx, H_hy, H_b1, H_q1, H_q2, H_h0, H_h1⟩ := hid7 hx hy b1 q1 q2 h0 h1; clear hx hy b1 q1 q2 h0 h1
   go_enter Tryz.func28, Tryz.ntmps28
   go_wp2_with fail
   refine (H_q1.out).mono ?_; rintro e w2 ⟨rfl, hbw2⟩
   have hsw2 := hbw2.size; (try simp only [World.size_alloc, World.heap_drewN, World.size_setCell, heap_drew] at hsw2)
   have gw2 : Below w.heap.size w w2 := belt
   have kw2x0x0 := keepc hbw2 (b := w.heap.size) (o := 0) omg (by go_simp; with_reducible rfl)
   have kw2x0x1 := keepc hbw2 (b := w.heap.size) (o := 1) omg (by go_simp; with_reducible rfl)
   have kw2x0x2 := keepc hbw2 (b := w.heap.size) (o := 2) omg (by go_simp; with_reducible rfl)
   have kw2x0x3 := keepc hbw2 (b := w.heap.size) (o := 3) omg (by go_simp; with_reducible rfl)
   have kw2x0x4 := keepc hbw2 (b := w.heap.size) (o := 4) omg (by go_simp; with_reducible rfl)
   have kw2x0x5 := keepc hbw2 (b := w.heap.size) (o := 5) omg (by go_simp; with_reducible rfl)
   have kw2x0x6 := keepc hbw2 (b := w.heap.size) (o := 6) omg (by go_simp; with_reducible rfl)
   have kw2x0x7 := keepc hbw2 (b := w.heap.size) (o := 7) omg (by go_simp; with_reducible rfl)
   have zw2x0 : w.heap.size < w2.heap.size := by omega
   have H_hbw2 := Lib.hid hbw2; clear hbw2
   have q2 := H_q2.out w2 (H_hy.out.below gw2)
   have H_q2 := Lib.hid q2; clear q2
   go_wp2_with fail
   refine (H_q2.out).mono ?_; rintro e w3 ⟨rfl, hbw3⟩
   have hsw3 := hbw3.size; (try simp only [World.size_alloc, World.heap_drewN, World.size_setCell, heap_drew] at hsw3)
   have gw3 : Below w.heap.size w w3 := belt
   have kw3x0x0 := keepc hbw3 (b := w.heap.size) (o := 0) omg (by go_simp; with_reducible rfl)
   have kw3x0x1 := keepc hbw3 (b := w.heap.size) (o := 1) omg (by go_simp; with_reducible rfl)
   have kw3x0x2 := keepc hbw3 (b := w.heap.size) (o := 2) omg (by go_simp; with_reducible rfl)
   have kw3x0x3 := keepc hbw3 (b := w.heap.size) (o := 3) omg (by go_simp; with_reducible rfl)
   have kw3x0x4 := keepc hbw3 (b := w.heap.size) (o := 4) omg (by go_simp; with_reducible rfl)
   have kw3x0x5 := keepc hbw3 (b := w.heap.size) (o := 5) omg (by go_simp; with_reducible rfl)
   have kw3x0x6 := keepc hbw3 (b := w.heap.size) (o := 6) omg (by go_simp; with_reducible rfl)
   have kw3x0x7 := keepc hbw3 (b := w.heap.size) (o := 7) omg (by go_simp; with_reducible rfl)
   have zw3x0 : w.heap.size < w3.heap.size := by omega
   have H_hbw3 := Lib.hid hbw3; clear hbw3
   clear gw2
   clear kw2x0x0
   clear kw2x0x1
   clear kw2x0x2
   clear kw2x0x3
   clear kw2x0x4
   clear kw2x0x5
   clear kw2x0x6
   clear kw2x0x7
   go_wp2_with fail
   go_ret2
   exact ⟨rfl, gw3⟩
 | true =>
  cases h1 : y.ok with
  | false =>
   rw [h0] at q1
   rw [h1] at q2
   have fin := bestI_of h0 h1 rfl
   generalize bestI x y = I at *
   generalize bestB x y = E at *
   have hI : I = 0 := by simpa using fin.1
   have hE : E = true := by simpa using fin.2
   subst hI hE
   clear fin
   have ⟨H_hx, H_hy, H_b1, H_q1, H_q2, H_h0, H_h1⟩ := hid7 hx hy b1 q1 q2 h0 h1; clear hx hy b1 q1 q2 h0 h1
   go_enter Tryz.func28, Tryz.ntmps28
   go_wp2_with fail
   refine (H_q1.out).mono ?_; rintro e w2 ⟨rfl, hbw2⟩
   have hsw2 := hbw2.size; (try simp only [World.size_alloc, World.heap_drewN, World.size_setCell, heap_drew] at hsw2)
   have gw2 : Below w.heap.size w w2 := belt
   have kw2x0x0 := keepc hbw2 (b := w.heap.size) (o := 0) omg (by go_simp; with_reducible rfl)
   have kw2x0x1 := keepc hbw2 (b := w.heap.size) (o := 1) omg (by go_simp; with_reducible rfl)
   have kw2x0x2 := keepc hbw2 (b := w.heap.size) (o := 2) omg (by go_simp; with_reducible rfl)
   have kw2x0x3 := keepc hbw2 (b := w.heap.size) (o := 3) omg (by go_simp; with_reducible rfl)
   have kw2x0x4 := keepc hbw2 (b := w.heap.size) (o := 4) omg (by go_simp; with_reducible rfl)
   have kw2x0x5 := keepc hbw2 (b := w.heap.size) (o := 5) omg (by go_simp; with_reducible rfl)
   have kw2x0x6 := keepc hbw2 (b := w.heap.size) (o := 6) omg (by go_simp; with_reducible rfl)
   have kw2x0x7 := keepc hbw2 (b := w.heap.size) (o := 7) omg (by go_simp; with_reducible rfl)
   have zw2x0 : w.heap.size < w2.heap.size := by omega
   have H_hbw2 := Lib.hid hbw2; clear hbw2
   have q2 := H_q2.out w2 (H_hy.out.below gw2)
   have H_q2 := Lib.hid q2; clear q2
   go_wp2_with fail
   refine (H_q2.out).mono ?_; rintro e w3 ⟨rfl, hbw3⟩
   have hsw3 := hbw3.size; (try simp only [World.size_alloc, World.heap_drewN, World.size_setCell, heap_drew] at hsw3)
   have gw3 : Below w.heap.size w w3 := belt
   have kw3x0x0 := keepc hbw3 (b := w.heap.size) (o := 0) omg (by go_simp; with_reducible rfl)
   have kw3x0x1 := keepc hbw3 (b := w.heap.size) (o := 1) omg (by go_simp; with_reducible rfl)
   have kw3x0x2 := keepc hbw3 (b := w.heap.size) (o := 2) omg (by go_simp; with_reducible rfl)
   have kw3x0x3 := keepc hbw3 (b := w.heap.size) (o := 3) omg (by go_simp; with_reducible rfl)
   have kw3x0x4 := keepc hbw3 (b := w.heap.size) (o := 4) omg (by go_simp; with_reducible rfl)
   have kw3x0x5 := keepc hbw3 (b := w.heap.size) (o := 5) omg (by go_simp; with_reducible rfl)
   have kw3x0x6 := keepc hbw3 (b := w.heap.size) (o := 6) omg (by go_simp; with_reducible rfl)
   have kw3x0x7 := keepc hbw3 (b := w.heap.size) (o := 7) omg (by go_simp; with_reducible rfl)
   have zw3x0 : w.heap.size < w3.heap.size := by omega
   have H_hbw3 := Lib.hid hbw3; clear hbw3
   clear gw2
   clear kw2x0x0
   clear kw2x0x1
   clear kw2x0x2
   clear kw2x0x3
   clear kw2x0x4
   clear kw2x0x5
   clear kw2x0x6
   clear kw2x0x7
   go_wp2_with fail
   go_ret2
   exact ⟨rfl, gw3⟩
  | true =>
   by_cases hlt : x.s < y.s
   ·have hg : decide (x.s < y.s) = true := by simpa using hlt
    rw [h0] at q1
    rw [h1] at q2
    have fin := bestI_of h0 h1 hg
    generalize bestI x y = I at *
    generalize bestB x y = E at *
    have hI : I = 1 := by simpa using fin.1
    have hE : E = true := by simpa using fin.2
    subst hI hE
    clear fin
    have ⟨H_hx, H_hy, H_b1, H_q1, H_q2, H_h0, H_h1⟩ := hid7 hx hy b1 q1 q2 h0 h1; clear hx hy b1 q1 q2 h0 h1
    go_enter Tryz.func28, Tryz.ntmps28
    go_wp2_with fail
    refine (H_q1.out).mono ?_; rintro e w2 ⟨rfl, hbw2⟩
    have hsw2 := hbw2.size; (try simp only [World.size_alloc, World.heap_drewN, World.size_setCell, heap_drew] at hsw2)
    have gw2 : Below w.heap.size w w2 := belt
    have kw2x0x0 := keepc hbw2 (b := w.heap.size) (o := 0) omg (by go_simp; with_reducible rfl)
    have kw2x0x1 := keepc hbw2 (b := w.heap.size) (o := 1) omg (by go_simp; with_reducible rfl)
    have kw2x0x2 := keepc hbw2 (b := w.heap.size) (o := 2) omg (by go_simp; with_reducible rfl)
    have kw2x0x3 := keepc hbw2 (b := w.heap.size) (o := 3) omg (by go_simp; with_reducible rfl)
    have kw2x0x4 := keepc hbw2 (b := w.heap.size) (o := 4) omg (by go_simp; with_reducible rfl)
    have kw2x0x5 := keepc hbw2 (b := w.heap.size) (o := 5) omg (by go_simp; with_reducible rfl)
    have kw2x0x6 := keepc hbw2 (b := w.heap.size) (o := 6) omg (by go_simp; with_reducible rfl)
    have kw2x0x7 := keepc hbw2 (b := w.heap.size) (o := 7) omg (by go_simp; with_reducible rfl)
    have zw2x0 : w.heap.size < w2.heap.size := by omega
    have H_hbw2 := Lib.hid hbw2; clear hbw2
    have q2 := H_q2.out w2 (H_hy.out.below gw2)
    have H_q2 := Lib.hid q2; clear q2
    go_wp2_with fail
    refine (H_q2.out).mono ?_; rintro e w3 ⟨rfl, hbw3⟩
    have hsw3 := hbw3.size; (try simp only [World.size_alloc, World.heap_drewN, World.size_setCell, heap_drew] at hsw3)
    have gw3 : Below w.heap.size w w3 := belt
    have kw3x0x0 := keepc hbw3 (b := w.heap.size) (o := 0) omg (by go_simp; with_reducible rfl)
    have kw3x0x1 := keepc hbw3 (b := w.heap.size) (o := 1) omg (by go_simp; with_reducible rfl)
    have kw3x0x2 := keepc hbw3 (b := w.heap.size) (o := 2) omg (by go_simp; with_reducible rfl)
    have kw3x0x3 := keepc hbw3 (b := w.heap.size) (o := 3) omg (by go_simp; with_reducible rfl)
    have kw3x0x4 := keepc hbw3 (b := w.heap.size) (o := 4) omg (by go_simp; with_reducible rfl)
    have kw3x0x5 := keepc hbw3 (b := w.heap.size) (o := 5) omg (by go_simp; with_reducible rfl)
    have kw3x0x6 := keepc hbw3 (b := w.heap.size) (o := 6) omg (by go_simp; with_reducible rfl)
    have kw3x0x7 := keepc hbw3 (b := w.heap.size) (o := 7) omg (by go_simp; with_reducible rfl)
    have zw3x0 : w.heap.size < w3.heap.size := by omega
    have H_hbw3 := Lib.hid hbw3; clear hbw3
    clear gw2
    clear kw2x0x0
    clear kw2x0x1
    clear kw2x0x2
    clear kw2x0x3
    clear kw2x0x4
    clear kw2x0x5
    clear kw2x0x6
    clear kw2x0x7
    go_wp2_with fail
    go_ret2
    exact ⟨rfl, gw3⟩
   ·have hg : decide (x.s < y.s) = false := by simpa using hlt
    rw [h0] at q1
    rw [h1] at q2
    have fin := bestI_of h0 h1 hg
    generalize bestI x y = I at *
    generalize bestB x y = E at *
    have hI : I = 0 := by simpa using fin.1
    have hE : E = true := by simpa using fin.2
    subst hI hE
    clear fin
    have ⟨H_hx, H_hy, H_b1, H_q1, H_q2, H_h0, H_h1⟩ := hid7 hx hy b1 q1 q2 h0 h1; clear hx hy b1 q1 q2 h0 h1
    go_enter Tryz.func28, Tryz.ntmps28
    go_wp2_with fail
    refine (H_q1.out).mono ?_; rintro e w2 ⟨rfl, hbw2⟩
    have hsw2 := hbw2.size; (try simp only [World.size_alloc, World.heap_drewN, World.size_setCell, heap_drew] at hsw2)
    have gw2 : Below w.heap.size w w2 := belt
    have kw2x0x0 := keepc hbw2 (b := w.heap.size) (o := 0) omg (by go_simp; with_reducible rfl)
    have kw2x0x1 := keepc hbw2 (b := w.heap.size) (o := 1) omg (by go_simp; with_reducible rfl)
    have kw2x0x2 := keepc hbw2 (b := w.heap.size) (o := 2) omg (by go_simp; with_reducible rfl)
    have kw2x0x3 := keepc hbw2 (b := w.heap.size) (o := 3) omg (by go_simp; with_reducible rfl)
    have kw2x0x4 := keepc hbw2 (b := w.heap.size) (o := 4) omg (by go_simp; with_reducible rfl)
    have kw2x0x5 := keepc hbw2 (b := w.heap.size) (o := 5) omg (by go_simp; with_reducible rfl)
    have kw2x0x6 := keepc hbw2 (b := w.heap.size) (o := 6) omg (by go_simp; with_reducible rfl)
    have kw2x0x7 := keepc hbw2 (b := w.heap.size) (o := 7) omg (by go_simp; with_reducible rfl)
    have zw2x0 : w.heap.size < w2.heap.size := by omega
    have H_hbw2 := Lib.hid hbw2; clear hbw2
    have q2 := H_q2.out w2 (H_hy.out.below gw2)
    have H_q2 := Lib.hid q2; clear q2
    go_wp2_with fail
    refine (H_q2.out).mono ?_; rintro e w3 ⟨rfl, hbw3⟩
    have hsw3 := hbw3.size; (try simp only [World.size_alloc, World.heap_drewN, World.size_setCell, heap_drew] at hsw3)
    have gw3 : Below w.heap.size w w3 := belt
    have kw3x0x0 := keepc hbw3 (b := w.heap.size) (o := 0) omg (by go_simp; with_reducible rfl)
    have kw3x0x1 := keepc hbw3 (b := w.heap.size) (o := 1) omg (by go_simp; with_reducible rfl)
    have kw3x0x2 := keepc hbw3 (b := w.heap.size) (o := 2) omg (by go_simp; with_reducible rfl)
    have kw3x0x3 := keepc hbw3 (b := w.heap.size) (o := 3) omg (by go_simp; with_reducible rfl)
    have kw3x0x4 := keepc hbw3 (b := w.heap.size) (o := 4) omg (by go_simp; with_reducible rfl)
    have kw3x0x5 := keepc hbw3 (b := w.heap.size) (o := 5) omg (by go_simp; with_reducible rfl)
    have kw3x0x6 := keepc hbw3 (b := w.heap.size) (o := 6) omg (by go_simp; with_reducible rfl)
    have kw3x0x7 := keepc hbw3 (b := w.heap.size) (o := 7) omg (by go_simp; with_reducible rfl)
    have zw3x0 : w.heap.size < w3.heap.size := by omega
    have H_hbw3 := Lib.hid hbw3; clear hbw3
    clear gw2
    clear kw2x0x0
    clear kw2x0x1
    clear kw2x0x2
    clear kw2x0x3
    clear kw2x0x4
    clear kw2x0x5
    clear kw2x0x6
    clear kw2x0x7
    go_wp2_with fail
    go_ret2
    exact ⟨rfl, gw3⟩
set_option maxHeartbeats 8000000 in
theorem rwrite_maken (x y : Slt) (c at_ : Int) (A : Option Addr) (n p : Nat) (B : Option Addr) (m q : Nat) (D : Option Addr) (k r : Nat) (l : List Int) (hlk : l.length = k) (w : World) (hx : SlotIs w A n x) (hy : SlotIs w B m y) (hc : -9223372036854775808 ≤ c ∧ c ≤ 9223372036854775807) (hl : IntsAt w D .i64 l) (hf : Fit l)
  (hE : bestB x y = false) (EE : Int) (hEE : (EE != 0) = true) (hm : ∀ W, Below w.heap.size w W → Calls Tryz.prog 26 #[.int .i64 0, .int .i64 c, .slice D k r] W (SlotErr Slt.zero EE W)) :
  Calls Tryz.prog 42 #[.agg #[.int .i64 x.s, .int .i64 x.c, .slice A n p, .int .u64 x.u, .int .i64 y.s, .int .i64 y.c, .slice B m q, .int .u64 y.u], .int .i64 c, .slice D k r, .int .i64 at_] w (SlotsErr Slt.zero Slt.zero EE w) := by
 have b1 : Below w.heap.size w ((w.alloc (.cells #[.int .i64 x.s, .int .i64 x.c, .slice A n p, .int .u64 x.u, .int .i64 y.s, .int .i64 y.c, .slice B m q, .int .u64 y.u] 26)).alloc (.cells #[.int .i64 0, .int .i64 0, .slice none 0 0, .int .u64 0, .int .i64 0, .int .i64 0, .slice none 0 0, .int .u64 0] 26)) := ((Below.refl _ _).alloc (Nat.le_refl _) _).alloc (by simp) _
 have q3 := rbest_any x y A n p B m q _ (hx.below b1) (hy.below b1)
 rw [hE] at q3
 have q1 := hm
 have ⟨H_hx, H_hy, H_hc, H_hl, H_hf, H_hE, H_b1, H_q1⟩ := hid8 hx hy hc hl hf hE b1 q1; clear hx hy hc hl hf hE b1 q1; have ⟨H_q3, H_hlk, H_hm⟩ := hid3 q3 hlk hm; clear q3 hlk hm
 go_enter Tryz.func42, Tryz.ntmps42
 go_wp2_with fail
 refine (H_q3.out).mono ?_; rintro e w2 ⟨rfl, hbw2⟩
 have hsw2 := hbw2.size; (try simp only [World.size_alloc, World.heap_drewN, World.size_setCell, heap_drew] at hsw2)
 have gw2 : Below w.heap.size w w2 := belt
 have kw2x0x0 := keepc hbw2 (b := w.heap.size) (o := 0) omg (by go_simp; with_reducible rfl)
 have fw2x0x0 := keepf hbw2 (b := w.heap.size) (o := 0) omg (by go_simp)
 have kw2x0x1 := keepc hbw2 (b := w.heap.size) (o := 1) omg (by go_simp; with_reducible rfl)
 have fw2x0x1 := keepf hbw2 (b := w.heap.size) (o := 1) omg (by go_simp)
 have kw2x0x2 := keepc hbw2 (b := w.heap.size) (o := 2) omg (by go_simp; with_reducible rfl)
 have fw2x0x2 := keepf hbw2 (b := w.heap.size) (o := 2) omg (by go_simp)
 have kw2x0x3 := keepc hbw2 (b := w.heap.size) (o := 3) omg (by go_simp; with_reducible rfl)
 have fw2x0x3 := keepf hbw2 (b := w.heap.size) (o := 3) omg (by go_simp)
 have kw2x0x4 := keepc hbw2 (b := w.heap.size) (o := 4) omg (by go_simp; with_reducible rfl)
 have fw2x0x4 := keepf hbw2 (b := w.heap.size) (o := 4) omg (by go_simp)
 have kw2x0x5 := keepc hbw2 (b := w.heap.size) (o := 5) omg (by go_simp; with_reducible rfl)
 have fw2x0x5 := keepf hbw2 (b := w.heap.size) (o := 5) omg (by go_simp)
 have kw2x0x6 := keepc hbw2 (b := w.heap.size) (o := 6) omg (by go_simp; with_reducible rfl)
 have fw2x0x6 := keepf hbw2 (b := w.heap.size) (o := 6) omg (by go_simp)
 have kw2x0x7 := keepc hbw2 (b := w.heap.size) (o := 7) omg (by go_simp; with_reducible rfl)
 have fw2x0x7 := keepf hbw2 (b := w.heap.size) (o := 7) omg (by go_simp)
 have zw2x0 : w.heap.size < w2.heap.size := by omega
 have kw2x1x0 := keepc hbw2 (b := w.heap.size + 1) (o := 0) omg (by go_simp; with_reducible rfl)
 have fw2x1x0 := keepf hbw2 (b := w.heap.size + 1) (o := 0) omg (by go_simp)
 have kw2x1x1 := keepc hbw2 (b := w.heap.size + 1) (o := 1) omg (by go_simp; with_reducible rfl)
 have fw2x1x1 := keepf hbw2 (b := w.heap.size + 1) (o := 1) omg (by go_simp)
 have kw2x1x2 := keepc hbw2 (b := w.heap.size + 1) (o := 2) omg (by go_simp; with_reducible rfl)
 have fw2x1x2 := keepf hbw2 (b := w.heap.size + 1) (o := 2) omg (by go_simp)
 have kw2x1x3 := keepc hbw2 (b := w.heap.size + 1) (o := 3) omg (by go_simp; with_reducible rfl)
 have fw2x1x3 := keepf hbw2 (b := w.heap.size + 1) (o := 3) omg (by go_simp)
 have kw2x1x4 := keepc hbw2 (b := w.heap.size + 1) (o := 4) omg (by go_simp; with_reducible rfl)
 have fw2x1x4 := keepf hbw2 (b := w.heap.size + 1) (o := 4) omg (by go_simp)
 have kw2x1x5 := keepc hbw2 (b := w.heap.size + 1) (o := 5) omg (by go_simp; with_reducible rfl)
 have fw2x1x5 := keepf hbw2 (b := w.heap.size + 1) (o := 5) omg (by go_simp)
 have kw2x1x6 := keepc hbw2 (b := w.heap.size + 1) (o := 6) omg (by go_simp; with_reducible rfl)
 have fw2x1x6 := keepf hbw2 (b := w.heap.size + 1) (o := 6) omg (by go_simp)
 have kw2x1x7 := keepc hbw2 (b := w.heap.size + 1) (o := 7) omg (by go_simp; with_reducible rfl)
 have fw2x1x7 := keepf hbw2 (b := w.heap.size + 1) (o := 7) omg (by go_simp)
 have zw2x1 : w.heap.size + 1 < w2.heap.size := by omega
 have H_hbw2 := Lib.hid hbw2; clear hbw2
 have q1 := H_q1.out w2 gw2
 unfold SlotErr at q1
 dsimp only [Slt.zero] at q1
 try rw [H_hlk.out] at q1
 have H_q1 := Lib.hid q1; clear q1
 go_wp2_with fail
 refine (H_q1.out).mono ?_; rintro e w3 ⟨X, cx, rfl, ho, hbw3⟩
 have hsw3 := hbw3.size; (try simp only [World.size_alloc, World.heap_drewN, World.size_setCell, heap_drew] at hsw3)
 have gw3 : Below w.heap.size w w3 := belt
 have kw3x0x0 := keepc hbw3 (b := w.heap.size) (o := 0) omg (by go_simp; with_reducible rfl)
 have fw3x0x0 := keepf hbw3 (b := w.heap.size) (o := 0) omg (by go_simp)
 have kw3x0x1 := keepc hbw3 (b := w.heap.size) (o := 1) omg (by go_simp; with_reducible rfl)
 have fw3x0x1 := keepf hbw3 (b := w.heap.size) (o := 1) omg (by go_simp)
 have kw3x0x2 := keepc hbw3 (b := w.heap.size) (o := 2) omg (by go_simp; with_reducible rfl)
 have fw3x0x2 := keepf hbw3 (b := w.heap.size) (o := 2) omg (by go_simp)
 have kw3x0x3 := keepc hbw3 (b := w.heap.size) (o := 3) omg (by go_simp; with_reducible rfl)
 have fw3x0x3 := keepf hbw3 (b := w.heap.size) (o := 3) omg (by go_simp)
 have kw3x0x4 := keepc hbw3 (b := w.heap.size) (o := 4) omg (by go_simp; with_reducible rfl)
 have fw3x0x4 := keepf hbw3 (b := w.heap.size) (o := 4) omg (by go_simp)
 have kw3x0x5 := keepc hbw3 (b := w.heap.size) (o := 5) omg (by go_simp; with_reducible rfl)
 have fw3x0x5 := keepf hbw3 (b := w.heap.size) (o := 5) omg (by go_simp)
 have kw3x0x6 := keepc hbw3 (b := w.heap.size) (o := 6) omg (by go_simp; with_reducible rfl)
 have fw3x0x6 := keepf hbw3 (b := w.heap.size) (o := 6) omg (by go_simp)
 have kw3x0x7 := keepc hbw3 (b := w.heap.size) (o := 7) omg (by go_simp; with_reducible rfl)
 have fw3x0x7 := keepf hbw3 (b := w.heap.size) (o := 7) omg (by go_simp)
 have zw3x0 : w.heap.size < w3.heap.size := by omega
 have kw3x1x0 := keepc hbw3 (b := w.heap.size + 1) (o := 0) omg (by go_simp; with_reducible rfl)
 have fw3x1x0 := keepf hbw3 (b := w.heap.size + 1) (o := 0) omg (by go_simp)
 have kw3x1x1 := keepc hbw3 (b := w.heap.size + 1) (o := 1) omg (by go_simp; with_reducible rfl)
 have fw3x1x1 := keepf hbw3 (b := w.heap.size + 1) (o := 1) omg (by go_simp)
 have kw3x1x2 := keepc hbw3 (b := w.heap.size + 1) (o := 2) omg (by go_simp; with_reducible rfl)
 have fw3x1x2 := keepf hbw3 (b := w.heap.size + 1) (o := 2) omg (by go_simp)
 have kw3x1x3 := keepc hbw3 (b := w.heap.size + 1) (o := 3) omg (by go_simp; with_reducible rfl)
 have fw3x1x3 := keepf hbw3 (b := w.heap.size + 1) (o := 3) omg (by go_simp)
 have kw3x1x4 := keepc hbw3 (b := w.heap.size + 1) (o := 4) omg (by go_simp; with_reducible rfl)
 have fw3x1x4 := keepf hbw3 (b := w.heap.size + 1) (o := 4) omg (by go_simp)
 have kw3x1x5 := keepc hbw3 (b := w.heap.size + 1) (o := 5) omg (by go_simp; with_reducible rfl)
 have fw3x1x5 := keepf hbw3 (b := w.heap.size + 1) (o := 5) omg (by go_simp)
 have kw3x1x6 := keepc hbw3 (b := w.heap.size + 1) (o := 6) omg (by go_simp; with_reducible rfl)
 have fw3x1x6 := keepf hbw3 (b := w.heap.size + 1) (o := 6) omg (by go_simp)
 have kw3x1x7 := keepc hbw3 (b := w.heap.size + 1) (o := 7) omg (by go_simp; with_reducible rfl)
 have fw3x1x7 := keepf hbw3 (b := w.heap.size + 1) (o := 7) omg (by go_simp)
 have zw3x1 : w.heap.size + 1 < w3.heap.size := by omega
 have H_hbw3 := Lib.hid hbw3; clear hbw3
 clear gw2
 clear kw2x0x0
 clear fw2x0x0
 clear kw2x0x1
 clear fw2x0x1
 clear kw2x0x2
 clear fw2x0x2
 clear kw2x0x3
 clear fw2x0x3
 clear kw2x0x4
 clear fw2x0x4
 clear kw2x0x5
 clear fw2x0x5
 clear kw2x0x6
 clear fw2x0x6
 clear kw2x0x7
 clear fw2x0x7
 clear kw2x1x0
 clear fw2x1x0
 clear kw2x1x1
 clear fw2x1x1
 clear kw2x1x2
 clear fw2x1x2
 clear kw2x1x3
 clear fw2x1x3
 clear kw2x1x4
 clear fw2x1x4
 clear kw2x1x5
 clear fw2x1x5
 clear kw2x1x6
 clear fw2x1x6
 clear kw2x1x7
 clear fw2x1x7
 go_wp2_with fail
 refine bodyPost_ret (v := .tuple #[.agg #[.int .i64 0, .int .i64 0, .slice none 0 0, .int .u64 0, .int .i64 0, .int .i64 0, .slice none 0 0, .int .u64 0], .int .i64 EE]) (by simp [results, Tryz.results42, go_sem, *]) rfl (slotsErr_zero belt)
set_option maxHeartbeats 8000000 in
theorem rwrite_argn (x y : Slt) (c at_ : Int) (A : Option Addr) (n p : Nat) (B : Option Addr) (m q : Nat) (D : Option Addr) (k r : Nat) (l : List Int) (hlk : l.length = k) (w : World) (hx : SlotIs w A n x) (hy : SlotIs w B m y) (hc : -9223372036854775808 ≤ c ∧ c ≤ 9223372036854775807) (hl : IntsAt w D .i64 l) (hk : k ≤ 500) (hf : Fit l)
    (hE : bestB x y = false) (hF : fldB 0 c l = true) (h3 : ¬ (0 ≤ at_ ∧ at_ ≤ 3)) :
    Calls Tryz.prog 42 #[.agg #[.int .i64 x.s, .int .i64 x.c, .slice A n p, .int .u64 x.u, .int .i64 y.s, .int .i64 y.c, .slice B m q, .int .u64 y.u], .int .i64 c, .slice D k r, .int .i64 at_] w (SlotsErr Slt.zero Slt.zero 1 w) := by
  have b1 : Below w.heap.size w ((w.alloc (.cells #[.int .i64 x.s, .int .i64 x.c, .slice A n p, .int .u64 x.u, .int .i64 y.s, .int .i64 y.c, .slice B m q, .int .u64 y.u] 26)).alloc (.cells #[.int .i64 0, .int .i64 0, .slice none 0 0, .int .u64 0, .int .i64 0, .int .i64 0, .slice none 0 0, .int .u64 0] 26)) := ((Below.refl _ _).alloc (Nat.le_refl _) _).alloc (by simp) _
  have q3 := rbest_any x y A n p B m q _ (hx.below b1) (hy.below b1)
  rw [hE] at q3
  have q1 := fun W (hb : Below w.heap.size w W) => rmake_ok 0 c D r k l hlk W (by omega) hc (hl.below hb) hk hf hF
  rcases Int.lt_or_le at_ 0 with ha | ha
  all_goals
    have hh := h3
    clear h3
    first
    | have d1 : decide (at_ < 0) = true := decide_eq_true ha
    | (have d1 : decide (at_ < 0) = false := decide_eq_false (by omega)
       have d2 : decide (3 < at_) = true := decide_eq_true (by omega))
    have ⟨H_hx, H_hy, H_hc, H_hl, H_hf, H_hE, H_b1, H_q1⟩ := hid8 hx hy hc hl hf hE b1 q1; clear hx hy hc hl hf hE b1 q1; have ⟨H_q3, H_hlk, H_hF, H_hh, H_ha⟩ := hid5 q3 hlk hF hh ha; clear q3 hlk hF hh ha
    go_enter Tryz.func42, Tryz.ntmps42
    go_wp2_with fail
    refine (H_q3.out).mono ?_; rintro e w2 ⟨rfl, hbw2⟩
    have hsw2 := hbw2.size; (try simp only [World.size_alloc, World.heap_drewN, World.size_setCell, heap_drew] at hsw2)
    have gw2 : Below w.heap.size w w2 := belt
    have kw2x0x0 := keepc hbw2 (b := w.heap.size) (o := 0) omg (by go_simp; with_reducible rfl)
    have fw2x0x0 := keepf hbw2 (b := w.heap.size) (o := 0) omg (by go_simp)
    have kw2x0x1 := keepc hbw2 (b := w.heap.size) (o := 1) omg (by go_simp; with_reducible rfl)
    have fw2x0x1 := keepf hbw2 (b := w.heap.size) (o := 1) omg (by go_simp)
    have kw2x0x2 := keepc hbw2 (b := w.heap.size) (o := 2) omg (by go_simp; with_reducible rfl)
    have fw2x0x2 := keepf hbw2 (b := w.heap.size) (o := 2) omg (by go_simp)
    have kw2x0x3 := keepc hbw2 (b := w.heap.size) (o := 3) omg (by go_simp; with_reducible rfl)
    have fw2x0x3 := keepf hbw2 (b := w.heap.size) (o := 3) omg (by go_simp)
    have kw2x0x4 := keepc hbw2 (b := w.heap.size) (o := 4) omg (by go_simp; with_reducible rfl)
    have fw2x0x4 := keepf hbw2 (b := w.heap.size) (o := 4) omg (by go_simp)
    have kw2x0x5 := keepc hbw2 (b := w.heap.size) (o := 5) omg (by go_simp; with_reducible rfl)
    have fw2x0x5 := keepf hbw2 (b := w.heap.size) (o := 5) omg (by go_simp)
    have kw2x0x6 := keepc hbw2 (b := w.heap.size) (o := 6) omg (by go_simp; with_reducible rfl)
    have fw2x0x6 := keepf hbw2 (b := w.heap.size) (o := 6) omg (by go_simp)
    have kw2x0x7 := keepc hbw2 (b := w.heap.size) (o := 7) omg (by go_simp; with_reducible rfl)
    have fw2x0x7 := keepf hbw2 (b := w.heap.size) (o := 7) omg (by go_simp)
    have zw2x0 : w.heap.size < w2.heap.size := by omega
    have kw2x1x0 := keepc hbw2 (b := w.heap.size + 1) (o := 0) omg (by go_simp; with_reducible rfl)
    have fw2x1x0 := keepf hbw2 (b := w.heap.size + 1) (o := 0) omg (by go_simp)
    have kw2x1x1 := keepc hbw2 (b := w.heap.size + 1) (o := 1) omg (by go_simp; with_reducible rfl)
    have fw2x1x1 := keepf hbw2 (b := w.heap.size + 1) (o := 1) omg (by go_simp)
    have kw2x1x2 := keepc hbw2 (b := w.heap.size + 1) (o := 2) omg (by go_simp; with_reducible rfl)
    have fw2x1x2 := keepf hbw2 (b := w.heap.size + 1) (o := 2) omg (by go_simp)
    have kw2x1x3 := keepc hbw2 (b := w.heap.size + 1) (o := 3) omg (by go_simp; with_reducible rfl)
    have fw2x1x3 := keepf hbw2 (b := w.heap.size + 1) (o := 3) omg (by go_simp)
    have kw2x1x4 := keepc hbw2 (b := w.heap.size + 1) (o := 4) omg (by go_simp; with_reducible rfl)
    have fw2x1x4 := keepf hbw2 (b := w.heap.size + 1) (o := 4) omg (by go_simp)
    have kw2x1x5 := keepc hbw2 (b := w.heap.size + 1) (o := 5) omg (by go_simp; with_reducible rfl)
    have fw2x1x5 := keepf hbw2 (b := w.heap.size + 1) (o := 5) omg (by go_simp)
    have kw2x1x6 := keepc hbw2 (b := w.heap.size + 1) (o := 6) omg (by go_simp; with_reducible rfl)
    have fw2x1x6 := keepf hbw2 (b := w.heap.size + 1) (o := 6) omg (by go_simp)
    have kw2x1x7 := keepc hbw2 (b := w.heap.size + 1) (o := 7) omg (by go_simp; with_reducible rfl)
    have fw2x1x7 := keepf hbw2 (b := w.heap.size + 1) (o := 7) omg (by go_simp)
    have zw2x1 : w.heap.size + 1 < w2.heap.size := by omega
    have H_hbw2 := Lib.hid hbw2; clear hbw2
    have q1 := H_q1.out w2 gw2
    unfold SlotErr at q1
    dsimp only [Slt.made] at q1
    try rw [H_hlk.out] at q1
    have H_q1 := Lib.hid q1; clear q1
    go_wp2_with fail
    refine (H_q1.out).mono ?_; rintro e w3 ⟨X, cx, rfl, ho, hbw3⟩
    have hsw3 := hbw3.size; (try simp only [World.size_alloc, World.heap_drewN, World.size_setCell, heap_drew] at hsw3)
    have gw3 : Below w.heap.size w w3 := belt
    have kw3x0x0 := keepc hbw3 (b := w.heap.size) (o := 0) omg (by go_simp; with_reducible rfl)
    have fw3x0x0 := keepf hbw3 (b := w.heap.size) (o := 0) omg (by go_simp)
    have kw3x0x1 := keepc hbw3 (b := w.heap.size) (o := 1) omg (by go_simp; with_reducible rfl)
    have fw3x0x1 := keepf hbw3 (b := w.heap.size) (o := 1) omg (by go_simp)
    have kw3x0x2 := keepc hbw3 (b := w.heap.size) (o := 2) omg (by go_simp; with_reducible rfl)
    have fw3x0x2 := keepf hbw3 (b := w.heap.size) (o := 2) omg (by go_simp)
    have kw3x0x3 := keepc hbw3 (b := w.heap.size) (o := 3) omg (by go_simp; with_reducible rfl)
    have fw3x0x3 := keepf hbw3 (b := w.heap.size) (o := 3) omg (by go_simp)
    have kw3x0x4 := keepc hbw3 (b := w.heap.size) (o := 4) omg (by go_simp; with_reducible rfl)
    have fw3x0x4 := keepf hbw3 (b := w.heap.size) (o := 4) omg (by go_simp)
    have kw3x0x5 := keepc hbw3 (b := w.heap.size) (o := 5) omg (by go_simp; with_reducible rfl)
    have fw3x0x5 := keepf hbw3 (b := w.heap.size) (o := 5) omg (by go_simp)
    have kw3x0x6 := keepc hbw3 (b := w.heap.size) (o := 6) omg (by go_simp; with_reducible rfl)
    have fw3x0x6 := keepf hbw3 (b := w.heap.size) (o := 6) omg (by go_simp)
    have kw3x0x7 := keepc hbw3 (b := w.heap.size) (o := 7) omg (by go_simp; with_reducible rfl)
    have fw3x0x7 := keepf hbw3 (b := w.heap.size) (o := 7) omg (by go_simp)
    have zw3x0 : w.heap.size < w3.heap.size := by omega
    have kw3x1x0 := keepc hbw3 (b := w.heap.size + 1) (o := 0) omg (by go_simp; with_reducible rfl)
    have fw3x1x0 := keepf hbw3 (b := w.heap.size + 1) (o := 0) omg (by go_simp)
    have kw3x1x1 := keepc hbw3 (b := w.heap.size + 1) (o := 1) omg (by go_simp; with_reducible rfl)
    have fw3x1x1 := keepf hbw3 (b := w.heap.size + 1) (o := 1) omg (by go_simp)
    have kw3x1x2 := keepc hbw3 (b := w.heap.size + 1) (o := 2) omg (by go_simp; with_reducible rfl)
    have fw3x1x2 := keepf hbw3 (b := w.heap.size + 1) (o := 2) omg (by go_simp)
    have kw3x1x3 := keepc hbw3 (b := w.heap.size + 1) (o := 3) omg (by go_simp; with_reducible rfl)
    have fw3x1x3 := keepf hbw3 (b := w.heap.size + 1) (o := 3) omg (by go_simp)
    have kw3x1x4 := keepc hbw3 (b := w.heap.size + 1) (o := 4) omg (by go_simp; with_reducible rfl)
    have fw3x1x4 := keepf hbw3 (b := w.heap.size + 1) (o := 4) omg (by go_simp)
    have kw3x1x5 := keepc hbw3 (b := w.heap.size + 1) (o := 5) omg (by go_simp; with_reducible rfl)
    have fw3x1x5 := keepf hbw3 (b := w.heap.size + 1) (o := 5) omg (by go_simp)
    have kw3x1x6 := keepc hbw3 (b := w.heap.size + 1) (o := 6) omg (by go_simp; with_reducible rfl)
    have fw3x1x6 := keepf hbw3 (b := w.heap.size + 1) (o := 6) omg (by go_simp)
    have kw3x1x7 := keepc hbw3 (b := w.heap.size + 1) (o := 7) omg (by go_simp; with_reducible rfl)
    have fw3x1x7 := keepf hbw3 (b := w.heap.size + 1) (o := 7) omg (by go_simp)
    have zw3x1 : w.heap.size + 1 < w3.heap.size := by omega
    have H_hbw3 := Lib.hid hbw3; clear hbw3
    clear gw2
    clear kw2x0x0
    clear fw2x0x0
    clear kw2x0x1
    clear fw2x0x1
    clear kw2x0x2
    clear fw2x0x2
    clear kw2x0x3
    clear fw2x0x3
    clear kw2x0x4
    clear fw2x0x4
    clear kw2x0x5
    clear fw2x0x5
    clear kw2x0x6
    clear fw2x0x6
    clear kw2x0x7
    clear fw2x0x7
    clear kw2x1x0
    clear fw2x1x0
    clear kw2x1x1
    clear fw2x1x1
    clear kw2x1x2
    clear fw2x1x2
    clear kw2x1x3
    clear fw2x1x3
    clear kw2x1x4
    clear fw2x1x4
    clear kw2x1x5
    clear fw2x1x5
    clear kw2x1x6
    clear fw2x1x6
    clear kw2x1x7
    clear fw2x1x7
    go_wp2_with fail
    refine bodyPost_ret (v := .tuple #[.agg #[.int .i64 0, .int .i64 0, .slice none 0 0, .int .u64 0, .int .i64 0, .int .i64 0, .slice none 0 0, .int .u64 0], .int .i64 1]) (by simp [results, Tryz.results42, go_sem, *]) rfl (slotsErr_zero belt)
end Go.Proofs.YtoehobaigfmnpaaGreatDoor

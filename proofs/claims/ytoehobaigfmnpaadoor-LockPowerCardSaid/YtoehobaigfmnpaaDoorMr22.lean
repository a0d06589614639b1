/- Contracts of the reference of slot: Best. -/
import Derived.Test.YtoehobaigfmnpaaDoorMr12
import Derived.Test.YtoehobaigfmnpaaDoorMr21
section
namespace Go.Proofs.YtoehobaigfmnpaaDoor
set_option linter.unusedSimpArgs false
set_option linter.unusedVariables false
set_option maxRecDepth 100000
open Go.RowKit
/-- two slots are equal -/
def sameS (x y : Slt) : Bool := decide (x = y)
theorem sameS_iff {x y : Slt} : sameS x y = true ↔ x = y := by simp [sameS]
end Go.Proofs.YtoehobaigfmnpaaDoor
end
section
namespace Go.Proofs.YtoehobaigfmnpaaDoor
set_option linter.unusedSimpArgs false
set_option linter.unusedVariables false
set_option maxRecDepth 100000
open Go.RowKit
/-- a slot says a counter and lost cards -/
def saysS (x : Slt) (c : Int) (l : List Int) : Bool := sameS ⟨0, x.c, x.l, 0⟩ ⟨0, c, l, 0⟩
theorem saysS_iff {x : Slt} {c : Int} {l : List Int} : saysS x c l = true ↔ x.c = c ∧ x.l = l := by
  rw [saysS, sameS_iff]; simp
def len40B (n : Nat) : Bool := decide (n ≤ 40)
theorem rfew_any (xs xc xu ys yc yu : Int) (A : Option Addr) (n p : Nat) (B : Option Addr) (m q : Nat) (w : World) (hn : n ≤ 9223372036854775807) (hm : m ≤ 9223372036854775807) :
    Calls Tryd.prog 61 #[.agg #[.int .i64 xs, .int .i64 xc, .slice A n p, .int .u64 xu, .int .i64 ys, .int .i64 yc, .slice B m q, .int .u64 yu]] w fun e w' => e = .returned (.bool (len40B n && len40B m)) ∧ Below w.heap.size w w' := by
  by_cases h1 : n ≤ 40
  · have e1 : len40B n = true := decide_eq_true h1
    have d1 : decide ((n : Int) ≤ 40) = true := decide_eq_true (by omega)
    by_cases h2 : m ≤ 40
    · have e2 : len40B m = true := decide_eq_true h2
      have d2 : decide ((m : Int) ≤ 40) = true := decide_eq_true (by omega)
      rw [e1, e2]
      clear e1 e2
      go_enter Tryd.func61, Tryd.ntmps61
      go_wp2_with fail
      go_ret
      exact ⟨rfl, belt⟩
    · have e2 : len40B m = false := decide_eq_false h2
      have d2 : decide ((m : Int) ≤ 40) = false := decide_eq_false (by omega)
      rw [e1, e2]
      clear e1 e2
      go_enter Tryd.func61, Tryd.ntmps61
      go_wp2_with fail
      go_ret
      exact ⟨rfl, belt⟩
  · have e1 : len40B n = false := decide_eq_false h1
    have d1 : decide ((n : Int) ≤ 40) = false := decide_eq_false (by omega)
    rw [e1, Bool.false_and]
    clear e1
    go_enter Tryd.func61, Tryd.ntmps61
    go_wp2_with fail
    go_ret
    exact ⟨rfl, belt⟩

end Go.Proofs.YtoehobaigfmnpaaDoor
end
section
namespace Go.Proofs.YtoehobaigfmnpaaDoor
set_option linter.unusedSimpArgs false
set_option linter.unusedVariables false
set_option maxRecDepth 100000
open Go.RowKit
theorem rvalid_at {x : Slt} {A : Option Addr} {n : Nat} (cap : Nat) {w : World} (h : SlotIs w A n x) :
    Calls Tryd.prog 79 #[.agg #[.int .i64 x.s, .int .i64 x.c, .slice A n cap, .int .u64 x.u]] w fun e w' => e = .returned (.bool x.ok) ∧ Below w.heap.size w w' :=
  rvalid_any x.s x.c x.u A cap n x.l h.len w h.s h.c h.ints h.few h.fit

set_option maxHeartbeats 2000000 in
theorem rbest_any (x y : Slt) (A : Option Addr) (n p : Nat) (B : Option Addr) (m q : Nat) (w : World) (hx : SlotIs w A n x) (hy : SlotIs w B m y) :
    Calls Tryd.prog 59 #[.agg #[.int .i64 x.s, .int .i64 x.c, .slice A n p, .int .u64 x.u, .int .i64 y.s, .int .i64 y.c, .slice B m q, .int .u64 y.u]] w fun e w' => e = .returned (.tuple #[.int .i64 (bestI x y), .bool (bestB x y)]) ∧ Below w.heap.size w w' := by
  have b1 : Below w.heap.size w (w.alloc (.cells #[.int .i64 x.s, .int .i64 x.c, .slice A n p, .int .u64 x.u, .int .i64 y.s, .int .i64 y.c, .slice B m q, .int .u64 y.u] 53)) := (Below.refl _ _).alloc (Nat.le_refl _) _
  have q1 := rvalid_at p (hx.below b1)
  have q2 := fun W (h : SlotIs W B m y) => rvalid_at q h
  cases h0 : x.ok with
  | false =>
    cases h1 : y.ok with
    | false =>
      rw [h0] at q1
      rw [h1] at q2
      have fin := bestI_of h0 h1 rfl
      generalize bestI x y = I at *
      generalize bestB x y = E at *
      have hI : I = 0 := by simpa using fin.1
      have hE : E = false := by simpa using fin.2
      subst hI hE
      clear fin
      have H_hx := Lib.hid hx; clear hx; have H_hy := Lib.hid hy; clear hy; have H_b1 := Lib.hid b1; clear b1; have H_q1 := Lib.hid q1; clear q1; have H_q2 := Lib.hid q2; clear q2; have H_h0 := Lib.hid h0; clear h0; have H_h1 := Lib.hid h1; clear h1
      go_enter Tryd.func59, Tryd.ntmps59
      go_wp2_with fail
      refine (H_q1.out).mono ?_; rintro e w2 ⟨rfl, hbw2⟩
      have hsw2 := hbw2.size; (try simp only [World.size_alloc, World.heap_drewN, World.size_setCell, heap_drew] at hsw2)
      have gw2 : Below w.heap.size w w2 := belt
      have kw2x0x0 := keepc hbw2 (b := w.heap.size) (o := 0) omg (by go_simp; with_reducible rfl)
      have kw2x0x1 := keepc hbw2 (b := w.heap.size) (o := 1) omg (by go_simp; with_reducible rfl)
      have kw2x0x2 := keepc hbw2 (b := w.heap.size) (o := 2) omg (by go_simp; with_reducible rfl)
      have kw2x0x3 := keepc hbw2 (b := w.heap.size) (o := 3) omg (by go_simp; with_reducible rfl)
      have kw2x0x4 := keepc hbw2 (b := w.heap.size) (o := 4) omg (by go_simp; with_reducible rfl)
      have kw2x0x5 := keepc hbw2 (b := w.heap.size) (o := 5) omg (by go_simp; with_reducible rfl)
      have kw2x0x6 := keepc hbw2 (b := w.heap.size) (o := 6) omg (by go_simp; with_reducible rfl)
      have kw2x0x7 := keepc hbw2 (b := w.heap.size) (o := 7) omg (by go_simp; with_reducible rfl)
      have zw2x0 : w.heap.size < w2.heap.size := by omega
      have H_hbw2 := Lib.hid hbw2; clear hbw2
      have q2 := H_q2.out w2 (H_hy.out.below gw2)
      have H_q2 := Lib.hid q2; clear q2
      go_wp2_with fail
      refine (H_q2.out).mono ?_; rintro e w3 ⟨rfl, hbw3⟩
      have hsw3 := hbw3.size; (try simp only [World.size_alloc, World.heap_drewN, World.size_setCell, heap_drew] at hsw3)
      have gw3 : Below w.heap.size w w3 := belt
      have kw3x0x0 := keepc hbw3 (b := w.heap.size) (o := 0) omg (by go_simp; with_reducible rfl)
      have kw3x0x1 := keepc hbw3 (b := w.heap.size) (o := 1) omg (by go_simp; with_reducible rfl)
      have kw3x0x2 := keepc hbw3 (b := w.heap.size) (o := 2) omg (by go_simp; with_reducible rfl)
      have kw3x0x3 := keepc hbw3 (b := w.heap.size) (o := 3) omg (by go_simp; with_reducible rfl)
      have kw3x0x4 := keepc hbw3 (b := w.heap.size) (o := 4) omg (by go_simp; with_reducible rfl)
      have kw3x0x5 := keepc hbw3 (b := w.heap.size) (o := 5) omg (by go_simp; with_reducible rfl)
      have kw3x0x6 := keepc hbw3 (b := w.heap.size) (o := 6) omg (by go_simp; with_reducible rfl)
      have kw3x0x7 := keepc hbw3 (b := w.heap.size) (o := 7) omg (by go_simp; with_reducible rfl)
      have zw3x0 : w.heap.size < w3.heap.size := by omega
      have H_hbw3 := Lib.hid hbw3; clear hbw3
      clear gw2
      clear kw2x0x0
      clear kw2x0x1
      clear kw2x0x2
      clear kw2x0x3
      clear kw2x0x4
      clear kw2x0x5
      clear kw2x0x6
      clear kw2x0x7
      go_wp2_with fail
      go_ret2
      exact ⟨rfl, gw3⟩
    | true =>
      rw [h0] at q1
      rw [h1] at q2
      have fin := bestI_of h0 h1 rfl
      generalize bestI x y = I at *
      generalize bestB x y = E at *
      have hI : I = 1 := by simpa using fin.1
      have hE : E = true := by simpa using fin.2
      subst hI hE
      clear fin
      have H_hx := Lib.hid hx; clear hx; have H_hy := Lib.hid hy; clear hy; have H_b1 := Lib.hid b1; clear b1; have H_q1 := Lib.hid q1; clear q1; have H_q2 := Lib.hid q2; clear q2; have H_h0 := Lib.hid h0; clear h0; have H_h1 := Lib.hid h1; clear h1
      go_enter Tryd.func59, Tryd.ntmps59
      go_wp2_with fail
      refine (H_q1.out).mono ?_; rintro e w2 ⟨rfl, hbw2⟩
      have hsw2 := hbw2.size; (try simp only [World.size_alloc, World.heap_drewN, World.size_setCell, heap_drew] at hsw2)
      have gw2 : Below w.heap.size w w2 := belt
      have kw2x0x0 := keepc hbw2 (b := w.heap.size) (o := 0) omg (by go_simp; with_reducible rfl)
      have kw2x0x1 := keepc hbw2 (b := w.heap.size) (o := 1) omg (by go_simp; with_reducible rfl)
      have kw2x0x2 := keepc hbw2 (b := w.heap.size) (o := 2) omg (by go_simp; with_reducible rfl)
      have kw2x0x3 := keepc hbw2 (b := w.heap.size) (o := 3) omg (by go_simp; with_reducible rfl)
      have kw2x0x4 := keepc hbw2 (b := w.heap.size) (o := 4) omg (by go_simp; with_reducible rfl)
      have kw2x0x5 := keepc hbw2 (b := w.heap.size) (o := 5) omg (by go_simp; with_reducible rfl)
      have kw2x0x6 := keepc hbw2 (b := w.heap.size) (o := 6) omg (by go_simp; with_reducible rfl)
      have kw2x0x7 := keepc hbw2 (b := w.heap.size) (o := 7) omg (by go_simp; with_reducible rfl)
      have zw2x0 : w.heap.size < w2.heap.size := by omega
      have H_hbw2 := Lib.hid hbw2; clear hbw2
      have q2 := H_q2.out w2 (H_hy.out.below gw2)
      have H_q2 := Lib.hid q2; clear q2
      go_wp2_with fail
      refine (H_q2.out).mono ?_; rintro e w3 ⟨rfl, hbw3⟩
      have hsw3 := hbw3.size; (try simp only [World.size_alloc, World.heap_drewN, World.size_setCell, heap_drew] at hsw3)
      have gw3 : Below w.heap.size w w3 := belt
      have kw3x0x0 := keepc hbw3 (b := w.heap.size) (o := 0) omg (by go_simp; with_reducible rfl)
      have kw3x0x1 := keepc hbw3 (b := w.heap.size) (o := 1) omg (by go_simp; with_reducible rfl)
      have kw3x0x2 := keepc hbw3 (b := w.heap.size) (o := 2) omg (by go_simp; with_reducible rfl)
      have kw3x0x3 := keepc hbw3 (b := w.heap.size) (o := 3) omg (by go_simp; with_reducible rfl)
      have kw3x0x4 := keepc hbw3 (b := w.heap.size) (o := 4) omg (by go_simp; with_reducible rfl)
      have kw3x0x5 := keepc hbw3 (b := w.heap.size) (o := 5) omg (by go_simp; with_reducible rfl)
      have kw3x0x6 := keepc hbw3 (b := w.heap.size) (o := 6) omg (by go_simp; with_reducible rfl)
      have kw3x0x7 := keepc hbw3 (b := w.heap.size) (o := 7) omg (by go_simp; with_reducible rfl)
      have zw3x0 : w.heap.size < w3.heap.size := by omega
      have H_hbw3 := Lib.hid hbw3; clear hbw3
      clear gw2
      clear kw2x0x0
      clear kw2x0x1
      clear kw2x0x2
      clear kw2x0x3
      clear kw2x0x4
      clear kw2x0x5
      clear kw2x0x6
      clear kw2x0x7
      go_wp2_with fail
      go_ret2
      exact ⟨rfl, gw3⟩
  | true =>
    cases h1 : y.ok with
    | false =>
      rw [h0] at q1
      rw [h1] at q2
      have fin := bestI_of h0 h1 rfl
      generalize bestI x y = I at *
      generalize bestB x y = E at *
      have hI : I = 0 := by simpa using fin.1
      have hE : E = true := by simpa using fin.2
      subst hI hE
      clear fin
      have H_hx := Lib.hid hx; clear hx; have H_hy := Lib.hid hy; clear hy; have H_b1 := Lib.hid b1; clear b1; have H_q1 := Lib.hid q1; clear q1; have H_q2 := Lib.hid q2; clear q2; have H_h0 := Lib.hid h0; clear h0; have H_h1 := Lib.hid h1; clear h1
      go_enter Tryd.func59, Tryd.ntmps59
      go_wp2_with fail
      refine (H_q1.out).mono ?_; rintro e w2 ⟨rfl, hbw2⟩
      have hsw2 := hbw2.size; (try simp only [World.size_alloc, World.heap_drewN, World.size_setCell, heap_drew] at hsw2)
      have gw2 : Below w.heap.size w w2 := belt
      have kw2x0x0 := keepc hbw2 (b := w.heap.size) (o := 0) omg (by go_simp; with_reducible rfl)
      have kw2x0x1 := keepc hbw2 (b := w.heap.size) (o := 1) omg (by go_simp; with_reducible rfl)
      have kw2x0x2 := keepc hbw2 (b := w.heap.size) (o := 2) omg (by go_simp; with_reducible rfl)
      have kw2x0x3 := keepc hbw2 (b := w.heap.size) (o := 3) omg (by go_simp; with_reducible rfl)
      have kw2x0x4 := keepc hbw2 (b := w.heap.size) (o := 4) omg (by go_simp; with_reducible rfl)
      have kw2x0x5 := keepc hbw2 (b := w.heap.size) (o := 5) omg (by go_simp; with_reducible rfl)
      have kw2x0x6 := keepc hbw2 (b := w.heap.size) (o := 6) omg (by go_simp; with_reducible rfl)
      have kw2x0x7 := keepc hbw2 (b := w.heap.size) (o := 7) omg (by go_simp; with_reducible rfl)
      have zw2x0 : w.heap.size < w2.heap.size := by omega
      have H_hbw2 := Lib.hid hbw2; clear hbw2
      have q2 := H_q2.out w2 (H_hy.out.below gw2)
      have H_q2 := Lib.hid q2; clear q2
      go_wp2_with fail
      refine (H_q2.out).mono ?_; rintro e w3 ⟨rfl, hbw3⟩
      have hsw3 := hbw3.size; (try simp only [World.size_alloc, World.heap_drewN, World.size_setCell, heap_drew] at hsw3)
      have gw3 : Below w.heap.size w w3 := belt
      have kw3x0x0 := keepc hbw3 (b := w.heap.size) (o := 0) omg (by go_simp; with_reducible rfl)
      have kw3x0x1 := keepc hbw3 (b := w.heap.size) (o := 1) omg (by go_simp; with_reducible rfl)
      have kw3x0x2 := keepc hbw3 (b := w.heap.size) (o := 2) omg (by go_simp; with_reducible rfl)
      have kw3x0x3 := keepc hbw3 (b := w.heap.size) (o := 3) omg (by go_simp; with_reducible rfl)
      have kw3x0x4 := keepc hbw3 (b := w.heap.size) (o := 4) omg (by go_simp; with_reducible rfl)
      have kw3x0x5 := keepc hbw3 (b := w.heap.size) (o := 5) omg (by go_simp; with_reducible rfl)
      have kw3x0x6 := keepc hbw3 (b := w.heap.size) (o := 6) omg (by go_simp; with_reducible rfl)
      have kw3x0x7 := keepc hbw3 (b := w.heap.size) (o := 7) omg (by go_simp; with_reducible rfl)
      have zw3x0 : w.heap.size < w3.heap.size := by omega
      have H_hbw3 := Lib.hid hbw3; clear hbw3
      clear gw2
      clear kw2x0x0
      clear kw2x0x1
      clear kw2x0x2
      clear kw2x0x3
      clear kw2x0x4
      clear kw2x0x5
      clear kw2x0x6
      clear kw2x0x7
      go_wp2_with fail
      go_ret2
      exact ⟨rfl, gw3⟩
    | true =>
      by_cases hlt : x.s < y.s
      · have hg : decide (x.s < y.s) = true := by simpa using hlt
        rw [h0] at q1
        rw [h1] at q2
        have fin := bestI_of h0 h1 hg
        generalize bestI x y = I at *
        generalize bestB x y = E at *
        have hI : I = 1 := by simpa using fin.1
        have hE : E = true := by simpa using fin.2
        subst hI hE
        clear fin
        have H_hx := Lib.hid hx; clear hx; have H_hy := Lib.hid hy; clear hy; have H_b1 := Lib.hid b1; clear b1; have H_q1 := Lib.hid q1; clear q1; have H_q2 := Lib.hid q2; clear q2; have H_h0 := Lib.hid h0; clear h0; have H_h1 := Lib.hid h1; clear h1
        go_enter Tryd.func59, Tryd.ntmps59
        go_wp2_with fail
        refine (H_q1.out).mono ?_; rintro e w2 ⟨rfl, hbw2⟩
        have hsw2 := hbw2.size; (try simp only [World.size_alloc, World.heap_drewN, World.size_setCell, heap_drew] at hsw2)
        have gw2 : Below w.heap.size w w2 := belt
        have kw2x0x0 := keepc hbw2 (b := w.heap.size) (o := 0) omg (by go_simp; with_reducible rfl)
        have kw2x0x1 := keepc hbw2 (b := w.heap.size) (o := 1) omg (by go_simp; with_reducible rfl)
        have kw2x0x2 := keepc hbw2 (b := w.heap.size) (o := 2) omg (by go_simp; with_reducible rfl)
        have kw2x0x3 := keepc hbw2 (b := w.heap.size) (o := 3) omg (by go_simp; with_reducible rfl)
        have kw2x0x4 := keepc hbw2 (b := w.heap.size) (o := 4) omg (by go_simp; with_reducible rfl)
        have kw2x0x5 := keepc hbw2 (b := w.heap.size) (o := 5) omg (by go_simp; with_reducible rfl)
        have kw2x0x6 := keepc hbw2 (b := w.heap.size) (o := 6) omg (by go_simp; with_reducible rfl)
        have kw2x0x7 := keepc hbw2 (b := w.heap.size) (o := 7) omg (by go_simp; with_reducible rfl)
        have zw2x0 : w.heap.size < w2.heap.size := by omega
        have H_hbw2 := Lib.hid hbw2; clear hbw2
        have q2 := H_q2.out w2 (H_hy.out.below gw2)
        have H_q2 := Lib.hid q2; clear q2
        go_wp2_with fail
        refine (H_q2.out).mono ?_; rintro e w3 ⟨rfl, hbw3⟩
        have hsw3 := hbw3.size; (try simp only [World.size_alloc, World.heap_drewN, World.size_setCell, heap_drew] at hsw3)
        have gw3 : Below w.heap.size w w3 := belt
        have kw3x0x0 := keepc hbw3 (b := w.heap.size) (o := 0) omg (by go_simp; with_reducible rfl)
        have kw3x0x1 := keepc hbw3 (b := w.heap.size) (o := 1) omg (by go_simp; with_reducible rfl)
        have kw3x0x2 := keepc hbw3 (b := w.heap.size) (o := 2) omg (by go_simp; with_reducible rfl)
        have kw3x0x3 := keepc hbw3 (b := w.heap.size) (o := 3) omg (by go_simp; with_reducible rfl)
        have kw3x0x4 := keepc hbw3 (b := w.heap.size) (o := 4) omg (by go_simp; with_reducible rfl)
        have kw3x0x5 := keepc hbw3 (b := w.heap.size) (o := 5) omg (by go_simp; with_reducible rfl)
        have kw3x0x6 := keepc hbw3 (b := w.heap.size) (o := 6) omg (by go_simp; with_reducible rfl)
        have kw3x0x7 := keepc hbw3 (b := w.heap.size) (o := 7) omg (by go_simp; with_reducible rfl)
        have zw3x0 : w.heap.size < w3.heap.size := by omega
        have H_hbw3 := Lib.hid hbw3; clear hbw3
        clear gw2
        clear kw2x0x0
        clear kw2x0x1
        clear kw2x0x2
        clear kw2x0x3
        clear kw2x0x4
        clear kw2x0x5
        clear kw2x0x6
        clear kw2x0x7
        go_wp2_with fail
        go_ret2
        exact ⟨rfl, gw3⟩
      · have hg : decide (x.s < y.s) = false := by simpa using hlt
        rw [h0] at q1
        rw [h1] at q2
        have fin := bestI_of h0 h1 hg
        generalize bestI x y = I at *
        generalize bestB x y = E at *
        have hI : I = 0 := by simpa using fin.1
        have hE : E = true := by simpa using fin.2
        subst hI hE
        clear fin
        have H_hx := Lib.hid hx; clear hx; have H_hy := Lib.hid hy; clear hy; have H_b1 := Lib.hid b1; clear b1; have H_q1 := Lib.hid q1; clear q1; have H_q2 := Lib.hid q2; clear q2; have H_h0 := Lib.hid h0; clear h0; have H_h1 := Lib.hid h1; clear h1
        go_enter Tryd.func59, Tryd.ntmps59
        go_wp2_with fail
        refine (H_q1.out).mono ?_; rintro e w2 ⟨rfl, hbw2⟩
        have hsw2 := hbw2.size; (try simp only [World.size_alloc, World.heap_drewN, World.size_setCell, heap_drew] at hsw2)
        have gw2 : Below w.heap.size w w2 := belt
        have kw2x0x0 := keepc hbw2 (b := w.heap.size) (o := 0) omg (by go_simp; with_reducible rfl)
        have kw2x0x1 := keepc hbw2 (b := w.heap.size) (o := 1) omg (by go_simp; with_reducible rfl)
        have kw2x0x2 := keepc hbw2 (b := w.heap.size) (o := 2) omg (by go_simp; with_reducible rfl)
        have kw2x0x3 := keepc hbw2 (b := w.heap.size) (o := 3) omg (by go_simp; with_reducible rfl)
        have kw2x0x4 := keepc hbw2 (b := w.heap.size) (o := 4) omg (by go_simp; with_reducible rfl)
        have kw2x0x5 := keepc hbw2 (b := w.heap.size) (o := 5) omg (by go_simp; with_reducible rfl)
        have kw2x0x6 := keepc hbw2 (b := w.heap.size) (o := 6) omg (by go_simp; with_reducible rfl)
        have kw2x0x7 := keepc hbw2 (b := w.heap.size) (o := 7) omg (by go_simp; with_reducible rfl)
        have zw2x0 : w.heap.size < w2.heap.size := by omega
        have H_hbw2 := Lib.hid hbw2; clear hbw2
        have q2 := H_q2.out w2 (H_hy.out.below gw2)
        have H_q2 := Lib.hid q2; clear q2
        go_wp2_with fail
        refine (H_q2.out).mono ?_; rintro e w3 ⟨rfl, hbw3⟩
        have hsw3 := hbw3.size; (try simp only [World.size_alloc, World.heap_drewN, World.size_setCell, heap_drew] at hsw3)
        have gw3 : Below w.heap.size w w3 := belt
        have kw3x0x0 := keepc hbw3 (b := w.heap.size) (o := 0) omg (by go_simp; with_reducible rfl)
        have kw3x0x1 := keepc hbw3 (b := w.heap.size) (o := 1) omg (by go_simp; with_reducible rfl)
        have kw3x0x2 := keepc hbw3 (b := w.heap.size) (o := 2) omg (by go_simp; with_reducible rfl)
        have kw3x0x3 := keepc hbw3 (b := w.heap.size) (o := 3) omg (by go_simp; with_reducible rfl)
        have kw3x0x4 := keepc hbw3 (b := w.heap.size) (o := 4) omg (by go_simp; with_reducible rfl)
        have kw3x0x5 := keepc hbw3 (b := w.heap.size) (o := 5) omg (by go_simp; with_reducible rfl)
        have kw3x0x6 := keepc hbw3 (b := w.heap.size) (o := 6) omg (by go_simp; with_reducible rfl)
        have kw3x0x7 := keepc hbw3 (b := w.heap.size) (o := 7) omg (by go_simp; with_reducible rfl)
        have zw3x0 : w.heap.size < w3.heap.size := by omega
        have H_hbw3 := Lib.hid hbw3; clear hbw3
        clear gw2
        clear kw2x0x0
        clear kw2x0x1
        clear kw2x0x2
        clear kw2x0x3
        clear kw2x0x4
        clear kw2x0x5
        clear kw2x0x6
        clear kw2x0x7
        go_wp2_with fail
        go_ret2
        exact ⟨rfl, gw3⟩
end Go.Proofs.YtoehobaigfmnpaaDoor
end

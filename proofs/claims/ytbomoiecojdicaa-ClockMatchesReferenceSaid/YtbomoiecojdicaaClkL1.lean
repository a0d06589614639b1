/- The walk of ClockMatchesReference: for any numbers the law's function returns true. -/
import Derived.Test.YtbomoiecojdicaaClkE
namespace Go.Proofs.Ytbomoiecojdicaa
set_option linter.unusedSimpArgs false
set_option linter.unusedVariables false
open Go.RowKit
set_option maxHeartbeats 1000000 in
theorem clockMatches_walk (s r a b : Int) (w : World) (_ : (Lit.int .i64 s).wf = true) (_ : (Lit.int .i64 r).wf = true) (_ : (Lit.int .i64 a).wf = true) (_ : (Lit.int .i64 b).wf = true) :
    Calls Try.prog 3 #[.int .i64 s, .int .i64 r, .agg #[.int .i64 a, .int .i64 b]] w fun e w' => e = .returned (.bool true) ∧ Below w.heap.size w w' := by
  go_enter Try.func3, Try.ntmps3
  go_wp2_with fail
  refine (head34 _).mono ?_; rintro e w1 ⟨rfl, hbw1⟩
  have hsw1 := hbw1.size; (try simp only [World.size_alloc, World.heap_drewN, World.size_setCell, heap_drew] at hsw1)
  have gw1 : Below w.heap.size w w1 := (by (repeat (first | exact Below.refl _ _ | exact Nat.le_refl _ | assumption | exact And.right (by assumption) | refine Below.drew ?_ | refine below_drewN ?_ _ | refine Below.alloc ?_ ?_ _ | refine Below.setCell ?_ ?_ _ | refine Below.trans ?_ (Below.mono (by assumption) ?_) | exact Below.size (And.right (by assumption)) | (focus omega) | (focus (simp; done)) | (focus (simp; omega)) | (focus (simp at *; omega)))))
  have kw1x0x0 := keepc hbw1 (b := w.heap.size) (o := 0) (by first | omega | (simp; done) | (simp; omega)) (by go_simp; rfl)
  have kw1x0x1 := keepc hbw1 (b := w.heap.size) (o := 1) (by first | omega | (simp; done) | (simp; omega)) (by go_simp; rfl)
  have zw1x0 : w.heap.size < w1.heap.size := by omega
  clear hbw1
  go_wp2_with fail
  refine (clockTrue_any _ _ _).mono ?_; rintro e w2 ⟨rfl, hbw2⟩
  have hsw2 := hbw2.size; (try simp only [World.size_alloc, World.heap_drewN, World.size_setCell, heap_drew] at hsw2)
  have gw2 : Below w.heap.size w w2 := (by (repeat (first | exact Below.refl _ _ | exact Nat.le_refl _ | assumption | exact And.right (by assumption) | refine Below.drew ?_ | refine below_drewN ?_ _ | refine Below.alloc ?_ ?_ _ | refine Below.setCell ?_ ?_ _ | refine Below.trans ?_ (Below.mono (by assumption) ?_) | exact Below.size (And.right (by assumption)) | (focus omega) | (focus (simp; done)) | (focus (simp; omega)) | (focus (simp at *; omega)))))
  have kw2x0x0 := keepc hbw2 (b := w.heap.size) (o := 0) (by first | omega | (simp; done) | (simp; omega)) (by go_simp; rfl)
  have kw2x0x1 := keepc hbw2 (b := w.heap.size) (o := 1) (by first | omega | (simp; done) | (simp; omega)) (by go_simp; rfl)
  have zw2x0 : w.heap.size < w2.heap.size := by omega
  clear hbw2
  clear gw1
  clear kw1x0x0
  clear kw1x0x1
  go_wp2_with fail
  refine (rTrue_any _ _ _).mono ?_; rintro e w3 ⟨rfl, hbw3⟩
  have hsw3 := hbw3.size; (try simp only [World.size_alloc, World.heap_drewN, World.size_setCell, heap_drew] at hsw3)
  have gw3 : Below w.heap.size w w3 := (by (repeat (first | exact Below.refl _ _ | exact Nat.le_refl _ | assumption | exact And.right (by assumption) | refine Below.drew ?_ | refine below_drewN ?_ _ | refine Below.alloc ?_ ?_ _ | refine Below.setCell ?_ ?_ _ | refine Below.trans ?_ (Below.mono (by assumption) ?_) | exact Below.size (And.right (by assumption)) | (focus omega) | (focus (simp; done)) | (focus (simp; omega)) | (focus (simp at *; omega)))))
  have kw3x0x0 := keepc hbw3 (b := w.heap.size) (o := 0) (by first | omega | (simp; done) | (simp; omega)) (by go_simp; rfl)
  have kw3x0x1 := keepc hbw3 (b := w.heap.size) (o := 1) (by first | omega | (simp; done) | (simp; omega)) (by go_simp; rfl)
  have zw3x0 : w.heap.size < w3.heap.size := by omega
  have kw3x1x0 := keepc hbw3 (b := w2.heap.size) (o := 0) (by first | omega | (simp; done) | (simp; omega)) (by go_simp; rfl)
  have kw3x1x1 := keepc hbw3 (b := w2.heap.size) (o := 1) (by first | omega | (simp; done) | (simp; omega)) (by go_simp; rfl)
  have zw3x1 : w2.heap.size < w3.heap.size := by omega
  clear hbw3
  clear gw2
  clear kw2x0x0
  clear kw2x0x1
  go_wp2_with fail
  refine (clockSurely_any _ _ _ _ _).mono ?_; rintro e w4 ⟨rfl, hbw4⟩
  have hsw4 := hbw4.size; (try simp only [World.size_alloc, World.heap_drewN, World.size_setCell, heap_drew] at hsw4)
  have gw4 : Below w.heap.size w w4 := (by (repeat (first | exact Below.refl _ _ | exact Nat.le_refl _ | assumption | exact And.right (by assumption) | refine Below.drew ?_ | refine below_drewN ?_ _ | refine Below.alloc ?_ ?_ _ | refine Below.setCell ?_ ?_ _ | refine Below.trans ?_ (Below.mono (by assumption) ?_) | exact Below.size (And.right (by assumption)) | (focus omega) | (focus (simp; done)) | (focus (simp; omega)) | (focus (simp at *; omega)))))
  have kw4x0x0 := keepc hbw4 (b := w.heap.size) (o := 0) (by first | omega | (simp; done) | (simp; omega)) (by go_simp; rfl)
  have kw4x0x1 := keepc hbw4 (b := w.heap.size) (o := 1) (by first | omega | (simp; done) | (simp; omega)) (by go_simp; rfl)
  have zw4x0 : w.heap.size < w4.heap.size := by omega
  clear hbw4
  clear gw3
  clear kw3x0x0
  clear kw3x0x1
  clear kw3x1x0
  clear kw3x1x1
  go_wp2_with fail
  refine (rSurely_any _ _ _ _ _).mono ?_; rintro e w5 ⟨rfl, hbw5⟩
  have hsw5 := hbw5.size; (try simp only [World.size_alloc, World.heap_drewN, World.size_setCell, heap_drew] at hsw5)
  have gw5 : Below w.heap.size w w5 := (by (repeat (first | exact Below.refl _ _ | exact Nat.le_refl _ | assumption | exact And.right (by assumption) | refine Below.drew ?_ | refine below_drewN ?_ _ | refine Below.alloc ?_ ?_ _ | refine Below.setCell ?_ ?_ _ | refine Below.trans ?_ (Below.mono (by assumption) ?_) | exact Below.size (And.right (by assumption)) | (focus omega) | (focus (simp; done)) | (focus (simp; omega)) | (focus (simp at *; omega)))))
  have kw5x0x0 := keepc hbw5 (b := w.heap.size) (o := 0) (by first | omega | (simp; done) | (simp; omega)) (by go_simp; rfl)
  have kw5x0x1 := keepc hbw5 (b := w.heap.size) (o := 1) (by first | omega | (simp; done) | (simp; omega)) (by go_simp; rfl)
  have zw5x0 : w.heap.size < w5.heap.size := by omega
  clear hbw5
  clear gw4
  clear kw4x0x0
  clear kw4x0x1
  go_wp2_with fail
  refine (clockMaybe_any _ _ _ _ _).mono ?_; rintro e w6 ⟨rfl, hbw6⟩
  have hsw6 := hbw6.size; (try simp only [World.size_alloc, World.heap_drewN, World.size_setCell, heap_drew] at hsw6)
  have gw6 : Below w.heap.size w w6 := (by (repeat (first | exact Below.refl _ _ | exact Nat.le_refl _ | assumption | exact And.right (by assumption) | refine Below.drew ?_ | refine below_drewN ?_ _ | refine Below.alloc ?_ ?_ _ | refine Below.setCell ?_ ?_ _ | refine Below.trans ?_ (Below.mono (by assumption) ?_) | exact Below.size (And.right (by assumption)) | (focus omega) | (focus (simp; done)) | (focus (simp; omega)) | (focus (simp at *; omega)))))
  have kw6x0x0 := keepc hbw6 (b := w.heap.size) (o := 0) (by first | omega | (simp; done) | (simp; omega)) (by go_simp; rfl)
  have kw6x0x1 := keepc hbw6 (b := w.heap.size) (o := 1) (by first | omega | (simp; done) | (simp; omega)) (by go_simp; rfl)
  have zw6x0 : w.heap.size < w6.heap.size := by omega
  clear hbw6
  clear gw5
  clear kw5x0x0
  clear kw5x0x1
  go_wp2_with fail
  refine (rMaybe_any _ _ _ _ _).mono ?_; rintro e w7 ⟨rfl, hbw7⟩
  have hsw7 := hbw7.size; (try simp only [World.size_alloc, World.heap_drewN, World.size_setCell, heap_drew] at hsw7)
  have gw7 : Below w.heap.size w w7 := (by (repeat (first | exact Below.refl _ _ | exact Nat.le_refl _ | assumption | exact And.right (by assumption) | refine Below.drew ?_ | refine below_drewN ?_ _ | refine Below.alloc ?_ ?_ _ | refine Below.setCell ?_ ?_ _ | refine Below.trans ?_ (Below.mono (by assumption) ?_) | exact Below.size (And.right (by assumption)) | (focus omega) | (focus (simp; done)) | (focus (simp; omega)) | (focus (simp at *; omega)))))
  have kw7x0x0 := keepc hbw7 (b := w.heap.size) (o := 0) (by first | omega | (simp; done) | (simp; omega)) (by go_simp; rfl)
  have kw7x0x1 := keepc hbw7 (b := w.heap.size) (o := 1) (by first | omega | (simp; done) | (simp; omega)) (by go_simp; rfl)
  have zw7x0 : w.heap.size < w7.heap.size := by omega
  clear hbw7
  clear gw6
  clear kw6x0x0
  clear kw6x0x1
  go_wp2_with fail
  go_ret
  exact ⟨rfl, (by (repeat (first | exact Below.refl _ _ | exact Nat.le_refl _ | assumption | exact And.right (by assumption) | refine Below.drew ?_ | refine below_drewN ?_ _ | refine Below.alloc ?_ ?_ _ | refine Below.setCell ?_ ?_ _ | refine Below.trans ?_ (Below.mono (by assumption) ?_) | exact Below.size (And.right (by assumption)) | (focus omega) | (focus (simp; done)) | (focus (simp; omega)) | (focus (simp at *; omega)))))⟩
end Go.Proofs.Ytbomoiecojdicaa

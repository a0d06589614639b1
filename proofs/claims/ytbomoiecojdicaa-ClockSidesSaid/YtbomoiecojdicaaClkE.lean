/- The law's own helpers of chapter 34: span and head. -/
import Derived.Test.YtbomoiecojdicaaClkD
namespace Go.Proofs.Ytbomoiecojdicaa
set_option linter.unusedSimpArgs false
set_option linter.unusedVariables false
open Go.RowKit

theorem keepc {W w1 : World} {b o : Nat} {v : Value} (hb : Below W.heap.size W w1) (hlt : b < W.heap.size) (h : W.cell? ⟨b, o, none⟩ = some v) : w1.cell? ⟨b, o, none⟩ = some v :=
  (hb.cell (p := ⟨b, o, none⟩) hlt).trans h
theorem keepf {W w1 : World} {b o : Nat} (hb : Below W.heap.size W w1) (hlt : b < W.heap.size) (h : W.frozen? ⟨b, o, none⟩ = false) : w1.frozen? ⟨b, o, none⟩ = false :=
  (hb.frozen (p := ⟨b, o, none⟩) hlt).trans h

theorem span34_any (a b : Int) (w : World) :
    Calls Try.prog 18 #[.int .i64 a, .int .i64 b] w fun e w' => e = .returned (.agg #[.int .i64 a, .int .i64 b]) ∧ Below w.heap.size w w' := by
  go_enter Try.func18, Try.ntmps18
  go_wp2_with fail
  refine bodyPost_ret (by simp [results, Try.results18, go_sem]; rfl) rfl ?_
  exact ⟨rfl, (by (repeat (first | exact Below.refl _ _ | exact Nat.le_refl _ | assumption | exact And.right (by assumption) | refine Below.drew ?_ | refine below_drewN ?_ _ | refine Below.alloc ?_ ?_ _ | refine Below.setCell ?_ ?_ _ | refine Below.trans ?_ (Below.mono (by assumption) ?_) | exact Below.size (And.right (by assumption)) | (focus omega) | (focus (simp; done)) | (focus (simp; omega)) | (focus (simp at *; omega)))))⟩

set_option maxHeartbeats 1000000 in
theorem head34 (w : World) : Calls Try.prog 9 #[] w fun e w' => e = .returned (.bool true) ∧ Below w.heap.size w w' := by
  have e1 : trueA 100 5 = 95 := by decide
  have e2 : trueB 100 5 = 106 := by decide
  have e3 : errN (readB 100 5) = 0 := by decide
  have e4 : trueA 3 5 = 0 := by decide
  have e5 : trueB 3 5 = 9 := by decide
  have e6 : errN (readB 3 5) = 0 := by decide
  have e7 : sureB 100 5 95 106 = true := by decide
  have e8 : errN (askB 100 5 95 106) = 0 := by decide
  have e9 : sureB 100 5 96 106 = false := by decide
  have e10 : errN (askB 100 5 96 106) = 0 := by decide
  have e11 : mayB 100 5 105 200 = true := by decide
  have e12 : errN (askB 100 5 105 200) = 0 := by decide
  have e13 : mayB 100 5 106 200 = false := by decide
  have e14 : errN (askB 100 5 106 200) = 0 := by decide
  have e15 : errN (readB (-1) 5) = 1 := by decide
  go_enter Try.func9, Try.ntmps9
  go_wp2_with fail
  refine (clockTrue_any _ _ _).mono ?_; rintro e w1 ⟨rfl, hbw1⟩
  have hsw1 := hbw1.size; (try simp only [World.size_alloc, World.heap_drewN, World.size_setCell, heap_drew] at hsw1)
  have gw1 : Below w.heap.size w w1 := (by (repeat (first | exact Below.refl _ _ | exact Nat.le_refl _ | assumption | exact And.right (by assumption) | refine Below.drew ?_ | refine below_drewN ?_ _ | refine Below.alloc ?_ ?_ _ | refine Below.setCell ?_ ?_ _ | refine Below.trans ?_ (Below.mono (by assumption) ?_) | exact Below.size (And.right (by assumption)) | (focus omega) | (focus (simp; done)) | (focus (simp; omega)) | (focus (simp at *; omega)))))
  clear hbw1
  go_wp2_with fail
  refine (clockTrue_any _ _ _).mono ?_; rintro e w2 ⟨rfl, hbw2⟩
  have hsw2 := hbw2.size; (try simp only [World.size_alloc, World.heap_drewN, World.size_setCell, heap_drew] at hsw2)
  have gw2 : Below w.heap.size w w2 := (by (repeat (first | exact Below.refl _ _ | exact Nat.le_refl _ | assumption | exact And.right (by assumption) | refine Below.drew ?_ | refine below_drewN ?_ _ | refine Below.alloc ?_ ?_ _ | refine Below.setCell ?_ ?_ _ | refine Below.trans ?_ (Below.mono (by assumption) ?_) | exact Below.size (And.right (by assumption)) | (focus omega) | (focus (simp; done)) | (focus (simp; omega)) | (focus (simp at *; omega)))))
  have kw2x0x0 := keepc hbw2 (b := w1.heap.size) (o := 0) (by first | omega | (simp; done) | (simp; omega)) (by go_simp; rfl)
  have kw2x0x1 := keepc hbw2 (b := w1.heap.size) (o := 1) (by first | omega | (simp; done) | (simp; omega)) (by go_simp; rfl)
  have zw2x0 : w1.heap.size < w2.heap.size := by omega
  clear hbw2
  clear gw1
  go_wp2_with fail
  refine (span34_any _ _ _).mono ?_; rintro e w3 ⟨rfl, hbw3⟩
  have hsw3 := hbw3.size; (try simp only [World.size_alloc, World.heap_drewN, World.size_setCell, heap_drew] at hsw3)
  have gw3 : Below w.heap.size w w3 := (by (repeat (first | exact Below.refl _ _ | exact Nat.le_refl _ | assumption | exact And.right (by assumption) | refine Below.drew ?_ | refine below_drewN ?_ _ | refine Below.alloc ?_ ?_ _ | refine Below.setCell ?_ ?_ _ | refine Below.trans ?_ (Below.mono (by assumption) ?_) | exact Below.size (And.right (by assumption)) | (focus omega) | (focus (simp; done)) | (focus (simp; omega)) | (focus (simp at *; omega)))))
  have kw3x0x0 := keepc hbw3 (b := w1.heap.size) (o := 0) (by first | omega | (simp; done) | (simp; omega)) (by go_simp; rfl)
  have kw3x0x1 := keepc hbw3 (b := w1.heap.size) (o := 1) (by first | omega | (simp; done) | (simp; omega)) (by go_simp; rfl)
  have zw3x0 : w1.heap.size < w3.heap.size := by omega
  have kw3x1x0 := keepc hbw3 (b := w2.heap.size) (o := 0) (by first | omega | (simp; done) | (simp; omega)) (by go_simp; rfl)
  have kw3x1x1 := keepc hbw3 (b := w2.heap.size) (o := 1) (by first | omega | (simp; done) | (simp; omega)) (by go_simp; rfl)
  have zw3x1 : w2.heap.size < w3.heap.size := by omega
  clear hbw3
  clear gw2
  clear kw2x0x0
  clear kw2x0x1
  go_wp2_with fail
  refine (clockSurely_any _ _ _ _ _).mono ?_; rintro e w4 ⟨rfl, hbw4⟩
  have hsw4 := hbw4.size; (try simp only [World.size_alloc, World.heap_drewN, World.size_setCell, heap_drew] at hsw4)
  have gw4 : Below w.heap.size w w4 := (by (repeat (first | exact Below.refl _ _ | exact Nat.le_refl _ | assumption | exact And.right (by assumption) | refine Below.drew ?_ | refine below_drewN ?_ _ | refine Below.alloc ?_ ?_ _ | refine Below.setCell ?_ ?_ _ | refine Below.trans ?_ (Below.mono (by assumption) ?_) | exact Below.size (And.right (by assumption)) | (focus omega) | (focus (simp; done)) | (focus (simp; omega)) | (focus (simp at *; omega)))))
  have kw4x0x0 := keepc hbw4 (b := w1.heap.size) (o := 0) (by first | omega | (simp; done) | (simp; omega)) (by go_simp; rfl)
  have kw4x0x1 := keepc hbw4 (b := w1.heap.size) (o := 1) (by first | omega | (simp; done) | (simp; omega)) (by go_simp; rfl)
  have zw4x0 : w1.heap.size < w4.heap.size := by omega
  have kw4x1x0 := keepc hbw4 (b := w2.heap.size) (o := 0) (by first | omega | (simp; done) | (simp; omega)) (by go_simp; rfl)
  have kw4x1x1 := keepc hbw4 (b := w2.heap.size) (o := 1) (by first | omega | (simp; done) | (simp; omega)) (by go_simp; rfl)
  have zw4x1 : w2.heap.size < w4.heap.size := by omega
  clear hbw4
  clear gw3
  clear kw3x0x0
  clear kw3x0x1
  clear kw3x1x0
  clear kw3x1x1
  go_wp2_with fail
  refine (span34_any _ _ _).mono ?_; rintro e w5 ⟨rfl, hbw5⟩
  have hsw5 := hbw5.size; (try simp only [World.size_alloc, World.heap_drewN, World.size_setCell, heap_drew] at hsw5)
  have gw5 : Below w.heap.size w w5 := (by (repeat (first | exact Below.refl _ _ | exact Nat.le_refl _ | assumption | exact And.right (by assumption) | refine Below.drew ?_ | refine below_drewN ?_ _ | refine Below.alloc ?_ ?_ _ | refine Below.setCell ?_ ?_ _ | refine Below.trans ?_ (Below.mono (by assumption) ?_) | exact Below.size (And.right (by assumption)) | (focus omega) | (focus (simp; done)) | (focus (simp; omega)) | (focus (simp at *; omega)))))
  have kw5x0x0 := keepc hbw5 (b := w1.heap.size) (o := 0) (by first | omega | (simp; done) | (simp; omega)) (by go_simp; rfl)
  have kw5x0x1 := keepc hbw5 (b := w1.heap.size) (o := 1) (by first | omega | (simp; done) | (simp; omega)) (by go_simp; rfl)
  have zw5x0 : w1.heap.size < w5.heap.size := by omega
  have kw5x1x0 := keepc hbw5 (b := w2.heap.size) (o := 0) (by first | omega | (simp; done) | (simp; omega)) (by go_simp; rfl)
  have kw5x1x1 := keepc hbw5 (b := w2.heap.size) (o := 1) (by first | omega | (simp; done) | (simp; omega)) (by go_simp; rfl)
  have zw5x1 : w2.heap.size < w5.heap.size := by omega
  clear hbw5
  clear gw4
  clear kw4x0x0
  clear kw4x0x1
  clear kw4x1x0
  clear kw4x1x1
  go_wp2_with fail
  refine (clockSurely_any _ _ _ _ _).mono ?_; rintro e w6 ⟨rfl, hbw6⟩
  have hsw6 := hbw6.size; (try simp only [World.size_alloc, World.heap_drewN, World.size_setCell, heap_drew] at hsw6)
  have gw6 : Below w.heap.size w w6 := (by (repeat (first | exact Below.refl _ _ | exact Nat.le_refl _ | assumption | exact And.right (by assumption) | refine Below.drew ?_ | refine below_drewN ?_ _ | refine Below.alloc ?_ ?_ _ | refine Below.setCell ?_ ?_ _ | refine Below.trans ?_ (Below.mono (by assumption) ?_) | exact Below.size (And.right (by assumption)) | (focus omega) | (focus (simp; done)) | (focus (simp; omega)) | (focus (simp at *; omega)))))
  have kw6x0x0 := keepc hbw6 (b := w1.heap.size) (o := 0) (by first | omega | (simp; done) | (simp; omega)) (by go_simp; rfl)
  have kw6x0x1 := keepc hbw6 (b := w1.heap.size) (o := 1) (by first | omega | (simp; done) | (simp; omega)) (by go_simp; rfl)
  have zw6x0 : w1.heap.size < w6.heap.size := by omega
  have kw6x1x0 := keepc hbw6 (b := w2.heap.size) (o := 0) (by first | omega | (simp; done) | (simp; omega)) (by go_simp; rfl)
  have kw6x1x1 := keepc hbw6 (b := w2.heap.size) (o := 1) (by first | omega | (simp; done) | (simp; omega)) (by go_simp; rfl)
  have zw6x1 : w2.heap.size < w6.heap.size := by omega
  clear hbw6
  clear gw5
  clear kw5x0x0
  clear kw5x0x1
  clear kw5x1x0
  clear kw5x1x1
  go_wp2_with fail
  refine (span34_any _ _ _).mono ?_; rintro e w7 ⟨rfl, hbw7⟩
  have hsw7 := hbw7.size; (try simp only [World.size_alloc, World.heap_drewN, World.size_setCell, heap_drew] at hsw7)
  have gw7 : Below w.heap.size w w7 := (by (repeat (first | exact Below.refl _ _ | exact Nat.le_refl _ | assumption | exact And.right (by assumption) | refine Below.drew ?_ | refine below_drewN ?_ _ | refine Below.alloc ?_ ?_ _ | refine Below.setCell ?_ ?_ _ | refine Below.trans ?_ (Below.mono (by assumption) ?_) | exact Below.size (And.right (by assumption)) | (focus omega) | (focus (simp; done)) | (focus (simp; omega)) | (focus (simp at *; omega)))))
  have kw7x0x0 := keepc hbw7 (b := w1.heap.size) (o := 0) (by first | omega | (simp; done) | (simp; omega)) (by go_simp; rfl)
  have kw7x0x1 := keepc hbw7 (b := w1.heap.size) (o := 1) (by first | omega | (simp; done) | (simp; omega)) (by go_simp; rfl)
  have zw7x0 : w1.heap.size < w7.heap.size := by omega
  have kw7x1x0 := keepc hbw7 (b := w2.heap.size) (o := 0) (by first | omega | (simp; done) | (simp; omega)) (by go_simp; rfl)
  have kw7x1x1 := keepc hbw7 (b := w2.heap.size) (o := 1) (by first | omega | (simp; done) | (simp; omega)) (by go_simp; rfl)
  have zw7x1 : w2.heap.size < w7.heap.size := by omega
  clear hbw7
  clear gw6
  clear kw6x0x0
  clear kw6x0x1
  clear kw6x1x0
  clear kw6x1x1
  go_wp2_with fail
  refine (clockMaybe_any _ _ _ _ _).mono ?_; rintro e w8 ⟨rfl, hbw8⟩
  have hsw8 := hbw8.size; (try simp only [World.size_alloc, World.heap_drewN, World.size_setCell, heap_drew] at hsw8)
  have gw8 : Below w.heap.size w w8 := (by (repeat (first | exact Below.refl _ _ | exact Nat.le_refl _ | assumption | exact And.right (by assumption) | refine Below.drew ?_ | refine below_drewN ?_ _ | refine Below.alloc ?_ ?_ _ | refine Below.setCell ?_ ?_ _ | refine Below.trans ?_ (Below.mono (by assumption) ?_) | exact Below.size (And.right (by assumption)) | (focus omega) | (focus (simp; done)) | (focus (simp; omega)) | (focus (simp at *; omega)))))
  have kw8x0x0 := keepc hbw8 (b := w1.heap.size) (o := 0) (by first | omega | (simp; done) | (simp; omega)) (by go_simp; rfl)
  have kw8x0x1 := keepc hbw8 (b := w1.heap.size) (o := 1) (by first | omega | (simp; done) | (simp; omega)) (by go_simp; rfl)
  have zw8x0 : w1.heap.size < w8.heap.size := by omega
  have kw8x1x0 := keepc hbw8 (b := w2.heap.size) (o := 0) (by first | omega | (simp; done) | (simp; omega)) (by go_simp; rfl)
  have kw8x1x1 := keepc hbw8 (b := w2.heap.size) (o := 1) (by first | omega | (simp; done) | (simp; omega)) (by go_simp; rfl)
  have zw8x1 : w2.heap.size < w8.heap.size := by omega
  clear hbw8
  clear gw7
  clear kw7x0x0
  clear kw7x0x1
  clear kw7x1x0
  clear kw7x1x1
  go_wp2_with fail
  refine (span34_any _ _ _).mono ?_; rintro e w9 ⟨rfl, hbw9⟩
  have hsw9 := hbw9.size; (try simp only [World.size_alloc, World.heap_drewN, World.size_setCell, heap_drew] at hsw9)
  have gw9 : Below w.heap.size w w9 := (by (repeat (first | exact Below.refl _ _ | exact Nat.le_refl _ | assumption | exact And.right (by assumption) | refine Below.drew ?_ | refine below_drewN ?_ _ | refine Below.alloc ?_ ?_ _ | refine Below.setCell ?_ ?_ _ | refine Below.trans ?_ (Below.mono (by assumption) ?_) | exact Below.size (And.right (by assumption)) | (focus omega) | (focus (simp; done)) | (focus (simp; omega)) | (focus (simp at *; omega)))))
  have kw9x0x0 := keepc hbw9 (b := w1.heap.size) (o := 0) (by first | omega | (simp; done) | (simp; omega)) (by go_simp; rfl)
  have kw9x0x1 := keepc hbw9 (b := w1.heap.size) (o := 1) (by first | omega | (simp; done) | (simp; omega)) (by go_simp; rfl)
  have zw9x0 : w1.heap.size < w9.heap.size := by omega
  have kw9x1x0 := keepc hbw9 (b := w2.heap.size) (o := 0) (by first | omega | (simp; done) | (simp; omega)) (by go_simp; rfl)
  have kw9x1x1 := keepc hbw9 (b := w2.heap.size) (o := 1) (by first | omega | (simp; done) | (simp; omega)) (by go_simp; rfl)
  have zw9x1 : w2.heap.size < w9.heap.size := by omega
  clear hbw9
  clear gw8
  clear kw8x0x0
  clear kw8x0x1
  clear kw8x1x0
  clear kw8x1x1
  go_wp2_with fail
  refine (clockMaybe_any _ _ _ _ _).mono ?_; rintro e w10 ⟨rfl, hbw10⟩
  have hsw10 := hbw10.size; (try simp only [World.size_alloc, World.heap_drewN, World.size_setCell, heap_drew] at hsw10)
  have gw10 : Below w.heap.size w w10 := (by (repeat (first | exact Below.refl _ _ | exact Nat.le_refl _ | assumption | exact And.right (by assumption) | refine Below.drew ?_ | refine below_drewN ?_ _ | refine Below.alloc ?_ ?_ _ | refine Below.setCell ?_ ?_ _ | refine Below.trans ?_ (Below.mono (by assumption) ?_) | exact Below.size (And.right (by assumption)) | (focus omega) | (focus (simp; done)) | (focus (simp; omega)) | (focus (simp at *; omega)))))
  have kw10x0x0 := keepc hbw10 (b := w1.heap.size) (o := 0) (by first | omega | (simp; done) | (simp; omega)) (by go_simp; rfl)
  have kw10x0x1 := keepc hbw10 (b := w1.heap.size) (o := 1) (by first | omega | (simp; done) | (simp; omega)) (by go_simp; rfl)
  have zw10x0 : w1.heap.size < w10.heap.size := by omega
  have kw10x1x0 := keepc hbw10 (b := w2.heap.size) (o := 0) (by first | omega | (simp; done) | (simp; omega)) (by go_simp; rfl)
  have kw10x1x1 := keepc hbw10 (b := w2.heap.size) (o := 1) (by first | omega | (simp; done) | (simp; omega)) (by go_simp; rfl)
  have zw10x1 : w2.heap.size < w10.heap.size := by omega
  clear hbw10
  clear gw9
  clear kw9x0x0
  clear kw9x0x1
  clear kw9x1x0
  clear kw9x1x1
  go_wp2_with fail
  refine (clockTrue_any _ _ _).mono ?_; rintro e w11 ⟨rfl, hbw11⟩
  have hsw11 := hbw11.size; (try simp only [World.size_alloc, World.heap_drewN, World.size_setCell, heap_drew] at hsw11)
  have gw11 : Below w.heap.size w w11 := (by (repeat (first | exact Below.refl _ _ | exact Nat.le_refl _ | assumption | exact And.right (by assumption) | refine Below.drew ?_ | refine below_drewN ?_ _ | refine Below.alloc ?_ ?_ _ | refine Below.setCell ?_ ?_ _ | refine Below.trans ?_ (Below.mono (by assumption) ?_) | exact Below.size (And.right (by assumption)) | (focus omega) | (focus (simp; done)) | (focus (simp; omega)) | (focus (simp at *; omega)))))
  have kw11x0x0 := keepc hbw11 (b := w1.heap.size) (o := 0) (by first | omega | (simp; done) | (simp; omega)) (by go_simp; rfl)
  have kw11x0x1 := keepc hbw11 (b := w1.heap.size) (o := 1) (by first | omega | (simp; done) | (simp; omega)) (by go_simp; rfl)
  have zw11x0 : w1.heap.size < w11.heap.size := by omega
  have kw11x1x0 := keepc hbw11 (b := w2.heap.size) (o := 0) (by first | omega | (simp; done) | (simp; omega)) (by go_simp; rfl)
  have kw11x1x1 := keepc hbw11 (b := w2.heap.size) (o := 1) (by first | omega | (simp; done) | (simp; omega)) (by go_simp; rfl)
  have zw11x1 : w2.heap.size < w11.heap.size := by omega
  clear hbw11
  clear gw10
  clear kw10x0x0
  clear kw10x0x1
  clear kw10x1x0
  clear kw10x1x1
  go_wp2_with fail
  go_region_held3 (fun W => (∀ b o, b < w11.heap.size → W.cell? ⟨b, o, none⟩ = w11.cell? ⟨b, o, none⟩) ∧ Below w11.heap.size w11 W) (first | (refine ext_mk ?_; (repeat (first | exact Below.refl _ _ | exact Nat.le_refl _ | assumption | exact And.right (by assumption) | refine Below.drew ?_ | refine below_drewN ?_ _ | refine Below.alloc ?_ ?_ _ | refine Below.setCell ?_ ?_ _ | refine Below.trans ?_ (Below.mono (by assumption) ?_) | exact Below.size (And.right (by assumption)) | (focus omega) | (focus (simp; done)) | (focus (simp; omega)) | (focus (simp at *; omega)))))) (first | (go_at_call 18; refine (span34_any _ _ _).mono ?_; rintro e w1 ⟨rfl, hb1⟩))
  
  all_goals
    go_wp2_with fail
    go_ret
    exact ⟨rfl, gw11.trans (Below.mono (And.right (by assumption)) (by omega))⟩
end Go.Proofs.Ytbomoiecojdicaa

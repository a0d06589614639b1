/- The law's own helpers of chapter 34: span and head. -/
import Derived.Test.YtbomoiecojdicaaClkD
namespace Go.Proofs.Ytbomoiecojdicaa
open Go.RowKit

theorem keepc {W w1 : World} {b o : Nat} {v : Value} (hb : Below W.heap.size W w1) (hlt : b < W.heap.size) (h : W.cell? ⟨b, o, none⟩ = some v) : w1.cell? ⟨b, o, none⟩ = some v :=
  (hb.cell (p := ⟨b, o, none⟩) hlt).trans h
theorem keepf {W w1 : World} {b o : Nat} (hb : Below W.heap.size W w1) (hlt : b < W.heap.size) (h : W.frozen? ⟨b, o, none⟩ = false) : w1.frozen? ⟨b, o, none⟩ = false :=
  (hb.frozen (p := ⟨b, o, none⟩) hlt).trans h

theorem span34_any (a b : Int) (w : World) :
    Calls Try.prog 18 #[.int .i64 a, .int .i64 b] w fun e w' => e = .returned (.agg #[.int .i64 a, .int .i64 b]) ∧ Below w.heap.size w w' := by
  go_enter Try.func18, Try.ntmps18
  go_wp2_with fail
  refine bodyPost_ret (by simp [results, Try.results18, go_sem]; rfl) rfl ?_
  exact ⟨rfl, (by (repeat (first | exact Below.refl _ _ | exact Nat.le_refl _ | assumption | exact And.right (by assumption) | refine Below.drew ?_ | refine below_drewN ?_ _ | refine Below.alloc ?_ ?_ _ | refine Below.setCell ?_ ?_ _ | refine Below.trans ?_ (Below.mono (by assumption) ?_) | exact Below.size (And.right (by assumption)) | (focus omega) | (focus (simp; done)) | (focus (simp; omega)) | (focus (simp at *; omega)))))⟩

set_option maxHeartbeats 1000000 in
theorem head34 (w : World) : Calls Try.prog 9 #[] w fun e w' => e = .returned (.bool true) ∧ Below w.heap.size w w' := by
  have e1 : trueA 100 5 = 95 := by decide
  have e2 : trueB 100 5 = 106 := by decide
  have e3 : errN (readB 100 5) = 0 := by decide
  have e4 : trueA 3 5 = 0 := by decide
  have e5 : trueB 3 5 = 9 := by decide
  have e6 : errN (readB 3 5) = 0 := by decide
  have e7 : sureB 100 5 95 106 = true := by decide
  have e8 : errN (askB 100 5 95 106) = 0 := by decide
  have e9 : sureB 100 5 96 106 = false := by decide
  have e10 : errN (askB 100 5 96 106) = 0 := by decide
  have e11 : mayB 100 5 105 200 = true := by decide
  have e12 : errN (askB 100 5 105 200) = 0 := by decide
  have e13 : mayB 100 5 106 200 = false := by decide
  have e14 : errN (askB 100 5 106 200) = 0 := by decide
  have e15 : errN (readB (-1) 5) = 1 := by decide
  go_enter Try.func9, Try.ntmps9
  go_wp2_with fail
  refine (clockTrue_any _ _ _).mono ?_; rintro e w1 ⟨rfl, hb_w1⟩
  have hs_w1 := hb_w1.size; (try simp only [World.size_alloc, World.heap_drewN, World.size_setCell, heap_drew] at hs_w1)
  have g_w1 : Below w.heap.size w w1 := (by (repeat (first | exact Below.refl _ _ | exact Nat.le_refl _ | assumption | exact And.right (by assumption) | refine Below.drew ?_ | refine below_drewN ?_ _ | refine Below.alloc ?_ ?_ _ | refine Below.setCell ?_ ?_ _ | refine Below.trans ?_ (Below.mono (by assumption) ?_) | exact Below.size (And.right (by assumption)) | (focus omega) | (focus (simp; done)) | (focus (simp; omega)) | (focus (simp at *; omega)))))
  clear hb_w1
  go_wp2_with fail
  refine (clockTrue_any _ _ _).mono ?_; rintro e w2 ⟨rfl, hb_w2⟩
  have hs_w2 := hb_w2.size; (try simp only [World.size_alloc, World.heap_drewN, World.size_setCell, heap_drew] at hs_w2)
  have g_w2 : Below w.heap.size w w2 := (by (repeat (first | exact Below.refl _ _ | exact Nat.le_refl _ | assumption | exact And.right (by assumption) | refine Below.drew ?_ | refine below_drewN ?_ _ | refine Below.alloc ?_ ?_ _ | refine Below.setCell ?_ ?_ _ | refine Below.trans ?_ (Below.mono (by assumption) ?_) | exact Below.size (And.right (by assumption)) | (focus omega) | (focus (simp; done)) | (focus (simp; omega)) | (focus (simp at *; omega)))))
  have k_w2_0_0 := keepc hb_w2 (b := w1.heap.size) (o := 0) (by first | omega | (simp; done) | (simp; omega)) (by go_simp; rfl)
  have k_w2_0_1 := keepc hb_w2 (b := w1.heap.size) (o := 1) (by first | omega | (simp; done) | (simp; omega)) (by go_simp; rfl)
  have z_w2_0 : w1.heap.size < w2.heap.size := by omega
  clear hb_w2
  clear g_w1
  go_wp2_with fail
  refine (span34_any _ _ _).mono ?_; rintro e w3 ⟨rfl, hb_w3⟩
  have hs_w3 := hb_w3.size; (try simp only [World.size_alloc, World.heap_drewN, World.size_setCell, heap_drew] at hs_w3)
  have g_w3 : Below w.heap.size w w3 := (by (repeat (first | exact Below.refl _ _ | exact Nat.le_refl _ | assumption | exact And.right (by assumption) | refine Below.drew ?_ | refine below_drewN ?_ _ | refine Below.alloc ?_ ?_ _ | refine Below.setCell ?_ ?_ _ | refine Below.trans ?_ (Below.mono (by assumption) ?_) | exact Below.size (And.right (by assumption)) | (focus omega) | (focus (simp; done)) | (focus (simp; omega)) | (focus (simp at *; omega)))))
  have k_w3_0_0 := keepc hb_w3 (b := w1.heap.size) (o := 0) (by first | omega | (simp; done) | (simp; omega)) (by go_simp; rfl)
  have k_w3_0_1 := keepc hb_w3 (b := w1.heap.size) (o := 1) (by first | omega | (simp; done) | (simp; omega)) (by go_simp; rfl)
  have z_w3_0 : w1.heap.size < w3.heap.size := by omega
  have k_w3_1_0 := keepc hb_w3 (b := w2.heap.size) (o := 0) (by first | omega | (simp; done) | (simp; omega)) (by go_simp; rfl)
  have k_w3_1_1 := keepc hb_w3 (b := w2.heap.size) (o := 1) (by first | omega | (simp; done) | (simp; omega)) (by go_simp; rfl)
  have z_w3_1 : w2.heap.size < w3.heap.size := by omega
  clear hb_w3
  clear g_w2
  clear k_w2_0_0
  clear k_w2_0_1
  go_wp2_with fail
  refine (clockSurely_any _ _ _ _ _).mono ?_; rintro e w4 ⟨rfl, hb_w4⟩
  have hs_w4 := hb_w4.size; (try simp only [World.size_alloc, World.heap_drewN, World.size_setCell, heap_drew] at hs_w4)
  have g_w4 : Below w.heap.size w w4 := (by (repeat (first | exact Below.refl _ _ | exact Nat.le_refl _ | assumption | exact And.right (by assumption) | refine Below.drew ?_ | refine below_drewN ?_ _ | refine Below.alloc ?_ ?_ _ | refine Below.setCell ?_ ?_ _ | refine Below.trans ?_ (Below.mono (by assumption) ?_) | exact Below.size (And.right (by assumption)) | (focus omega) | (focus (simp; done)) | (focus (simp; omega)) | (focus (simp at *; omega)))))
  have k_w4_0_0 := keepc hb_w4 (b := w1.heap.size) (o := 0) (by first | omega | (simp; done) | (simp; omega)) (by go_simp; rfl)
  have k_w4_0_1 := keepc hb_w4 (b := w1.heap.size) (o := 1) (by first | omega | (simp; done) | (simp; omega)) (by go_simp; rfl)
  have z_w4_0 : w1.heap.size < w4.heap.size := by omega
  have k_w4_1_0 := keepc hb_w4 (b := w2.heap.size) (o := 0) (by first | omega | (simp; done) | (simp; omega)) (by go_simp; rfl)
  have k_w4_1_1 := keepc hb_w4 (b := w2.heap.size) (o := 1) (by first | omega | (simp; done) | (simp; omega)) (by go_simp; rfl)
  have z_w4_1 : w2.heap.size < w4.heap.size := by omega
  clear hb_w4
  clear g_w3
  clear k_w3_0_0
  clear k_w3_0_1
  clear k_w3_1_0
  clear k_w3_1_1
  go_wp2_with fail
  refine (span34_any _ _ _).mono ?_; rintro e w5 ⟨rfl, hb_w5⟩
  have hs_w5 := hb_w5.size; (try simp only [World.size_alloc, World.heap_drewN, World.size_setCell, heap_drew] at hs_w5)
  have g_w5 : Below w.heap.size w w5 := (by (repeat (first | exact Below.refl _ _ | exact Nat.le_refl _ | assumption | exact And.right (by assumption) | refine Below.drew ?_ | refine below_drewN ?_ _ | refine Below.alloc ?_ ?_ _ | refine Below.setCell ?_ ?_ _ | refine Below.trans ?_ (Below.mono (by assumption) ?_) | exact Below.size (And.right (by assumption)) | (focus omega) | (focus (simp; done)) | (focus (simp; omega)) | (focus (simp at *; omega)))))
  have k_w5_0_0 := keepc hb_w5 (b := w1.heap.size) (o := 0) (by first | omega | (simp; done) | (simp; omega)) (by go_simp; rfl)
  have k_w5_0_1 := keepc hb_w5 (b := w1.heap.size) (o := 1) (by first | omega | (simp; done) | (simp; omega)) (by go_simp; rfl)
  have z_w5_0 : w1.heap.size < w5.heap.size := by omega
  have k_w5_1_0 := keepc hb_w5 (b := w2.heap.size) (o := 0) (by first | omega | (simp; done) | (simp; omega)) (by go_simp; rfl)
  have k_w5_1_1 := keepc hb_w5 (b := w2.heap.size) (o := 1) (by first | omega | (simp; done) | (simp; omega)) (by go_simp; rfl)
  have z_w5_1 : w2.heap.size < w5.heap.size := by omega
  clear hb_w5
  clear g_w4
  clear k_w4_0_0
  clear k_w4_0_1
  clear k_w4_1_0
  clear k_w4_1_1
  go_wp2_with fail
  refine (clockSurely_any _ _ _ _ _).mono ?_; rintro e w6 ⟨rfl, hb_w6⟩
  have hs_w6 := hb_w6.size; (try simp only [World.size_alloc, World.heap_drewN, World.size_setCell, heap_drew] at hs_w6)
  have g_w6 : Below w.heap.size w w6 := (by (repeat (first | exact Below.refl _ _ | exact Nat.le_refl _ | assumption | exact And.right (by assumption) | refine Below.drew ?_ | refine below_drewN ?_ _ | refine Below.alloc ?_ ?_ _ | refine Below.setCell ?_ ?_ _ | refine Below.trans ?_ (Below.mono (by assumption) ?_) | exact Below.size (And.right (by assumption)) | (focus omega) | (focus (simp; done)) | (focus (simp; omega)) | (focus (simp at *; omega)))))
  have k_w6_0_0 := keepc hb_w6 (b := w1.heap.size) (o := 0) (by first | omega | (simp; done) | (simp; omega)) (by go_simp; rfl)
  have k_w6_0_1 := keepc hb_w6 (b := w1.heap.size) (o := 1) (by first | omega | (simp; done) | (simp; omega)) (by go_simp; rfl)
  have z_w6_0 : w1.heap.size < w6.heap.size := by omega
  have k_w6_1_0 := keepc hb_w6 (b := w2.heap.size) (o := 0) (by first | omega | (simp; done) | (simp; omega)) (by go_simp; rfl)
  have k_w6_1_1 := keepc hb_w6 (b := w2.heap.size) (o := 1) (by first | omega | (simp; done) | (simp; omega)) (by go_simp; rfl)
  have z_w6_1 : w2.heap.size < w6.heap.size := by omega
  clear hb_w6
  clear g_w5
  clear k_w5_0_0
  clear k_w5_0_1
  clear k_w5_1_0
  clear k_w5_1_1
  go_wp2_with fail
  refine (span34_any _ _ _).mono ?_; rintro e w7 ⟨rfl, hb_w7⟩
  have hs_w7 := hb_w7.size; (try simp only [World.size_alloc, World.heap_drewN, World.size_setCell, heap_drew] at hs_w7)
  have g_w7 : Below w.heap.size w w7 := (by (repeat (first | exact Below.refl _ _ | exact Nat.le_refl _ | assumption | exact And.right (by assumption) | refine Below.drew ?_ | refine below_drewN ?_ _ | refine Below.alloc ?_ ?_ _ | refine Below.setCell ?_ ?_ _ | refine Below.trans ?_ (Below.mono (by assumption) ?_) | exact Below.size (And.right (by assumption)) | (focus omega) | (focus (simp; done)) | (focus (simp; omega)) | (focus (simp at *; omega)))))
  have k_w7_0_0 := keepc hb_w7 (b := w1.heap.size) (o := 0) (by first | omega | (simp; done) | (simp; omega)) (by go_simp; rfl)
  have k_w7_0_1 := keepc hb_w7 (b := w1.heap.size) (o := 1) (by first | omega | (simp; done) | (simp; omega)) (by go_simp; rfl)
  have z_w7_0 : w1.heap.size < w7.heap.size := by omega
  have k_w7_1_0 := keepc hb_w7 (b := w2.heap.size) (o := 0) (by first | omega | (simp; done) | (simp; omega)) (by go_simp; rfl)
  have k_w7_1_1 := keepc hb_w7 (b := w2.heap.size) (o := 1) (by first | omega | (simp; done) | (simp; omega)) (by go_simp; rfl)
  have z_w7_1 : w2.heap.size < w7.heap.size := by omega
  clear hb_w7
  clear g_w6
  clear k_w6_0_0
  clear k_w6_0_1
  clear k_w6_1_0
  clear k_w6_1_1
  go_wp2_with fail
  refine (clockMaybe_any _ _ _ _ _).mono ?_; rintro e w8 ⟨rfl, hb_w8⟩
  have hs_w8 := hb_w8.size; (try simp only [World.size_alloc, World.heap_drewN, World.size_setCell, heap_drew] at hs_w8)
  have g_w8 : Below w.heap.size w w8 := (by (repeat (first | exact Below.refl _ _ | exact Nat.le_refl _ | assumption | exact And.right (by assumption) | refine Below.drew ?_ | refine below_drewN ?_ _ | refine Below.alloc ?_ ?_ _ | refine Below.setCell ?_ ?_ _ | refine Below.trans ?_ (Below.mono (by assumption) ?_) | exact Below.size (And.right (by assumption)) | (focus omega) | (focus (simp; done)) | (focus (simp; omega)) | (focus (simp at *; omega)))))
  have k_w8_0_0 := keepc hb_w8 (b := w1.heap.size) (o := 0) (by first | omega | (simp; done) | (simp; omega)) (by go_simp; rfl)
  have k_w8_0_1 := keepc hb_w8 (b := w1.heap.size) (o := 1) (by first | omega | (simp; done) | (simp; omega)) (by go_simp; rfl)
  have z_w8_0 : w1.heap.size < w8.heap.size := by omega
  have k_w8_1_0 := keepc hb_w8 (b := w2.heap.size) (o := 0) (by first | omega | (simp; done) | (simp; omega)) (by go_simp; rfl)
  have k_w8_1_1 := keepc hb_w8 (b := w2.heap.size) (o := 1) (by first | omega | (simp; done) | (simp; omega)) (by go_simp; rfl)
  have z_w8_1 : w2.heap.size < w8.heap.size := by omega
  clear hb_w8
  clear g_w7
  clear k_w7_0_0
  clear k_w7_0_1
  clear k_w7_1_0
  clear k_w7_1_1
  go_wp2_with fail
  refine (span34_any _ _ _).mono ?_; rintro e w9 ⟨rfl, hb_w9⟩
  have hs_w9 := hb_w9.size; (try simp only [World.size_alloc, World.heap_drewN, World.size_setCell, heap_drew] at hs_w9)
  have g_w9 : Below w.heap.size w w9 := (by (repeat (first | exact Below.refl _ _ | exact Nat.le_refl _ | assumption | exact And.right (by assumption) | refine Below.drew ?_ | refine below_drewN ?_ _ | refine Below.alloc ?_ ?_ _ | refine Below.setCell ?_ ?_ _ | refine Below.trans ?_ (Below.mono (by assumption) ?_) | exact Below.size (And.right (by assumption)) | (focus omega) | (focus (simp; done)) | (focus (simp; omega)) | (focus (simp at *; omega)))))
  have k_w9_0_0 := keepc hb_w9 (b := w1.heap.size) (o := 0) (by first | omega | (simp; done) | (simp; omega)) (by go_simp; rfl)
  have k_w9_0_1 := keepc hb_w9 (b := w1.heap.size) (o := 1) (by first | omega | (simp; done) | (simp; omega)) (by go_simp; rfl)
  have z_w9_0 : w1.heap.size < w9.heap.size := by omega
  have k_w9_1_0 := keepc hb_w9 (b := w2.heap.size) (o := 0) (by first | omega | (simp; done) | (simp; omega)) (by go_simp; rfl)
  have k_w9_1_1 := keepc hb_w9 (b := w2.heap.size) (o := 1) (by first | omega | (simp; done) | (simp; omega)) (by go_simp; rfl)
  have z_w9_1 : w2.heap.size < w9.heap.size := by omega
  clear hb_w9
  clear g_w8
  clear k_w8_0_0
  clear k_w8_0_1
  clear k_w8_1_0
  clear k_w8_1_1
  go_wp2_with fail
  refine (clockMaybe_any _ _ _ _ _).mono ?_; rintro e w10 ⟨rfl, hb_w10⟩
  have hs_w10 := hb_w10.size; (try simp only [World.size_alloc, World.heap_drewN, World.size_setCell, heap_drew] at hs_w10)
  have g_w10 : Below w.heap.size w w10 := (by (repeat (first | exact Below.refl _ _ | exact Nat.le_refl _ | assumption | exact And.right (by assumption) | refine Below.drew ?_ | refine below_drewN ?_ _ | refine Below.alloc ?_ ?_ _ | refine Below.setCell ?_ ?_ _ | refine Below.trans ?_ (Below.mono (by assumption) ?_) | exact Below.size (And.right (by assumption)) | (focus omega) | (focus (simp; done)) | (focus (simp; omega)) | (focus (simp at *; omega)))))
  have k_w10_0_0 := keepc hb_w10 (b := w1.heap.size) (o := 0) (by first | omega | (simp; done) | (simp; omega)) (by go_simp; rfl)
  have k_w10_0_1 := keepc hb_w10 (b := w1.heap.size) (o := 1) (by first | omega | (simp; done) | (simp; omega)) (by go_simp; rfl)
  have z_w10_0 : w1.heap.size < w10.heap.size := by omega
  have k_w10_1_0 := keepc hb_w10 (b := w2.heap.size) (o := 0) (by first | omega | (simp; done) | (simp; omega)) (by go_simp; rfl)
  have k_w10_1_1 := keepc hb_w10 (b := w2.heap.size) (o := 1) (by first | omega | (simp; done) | (simp; omega)) (by go_simp; rfl)
  have z_w10_1 : w2.heap.size < w10.heap.size := by omega
  clear hb_w10
  clear g_w9
  clear k_w9_0_0
  clear k_w9_0_1
  clear k_w9_1_0
  clear k_w9_1_1
  go_wp2_with fail
  refine (clockTrue_any _ _ _).mono ?_; rintro e w11 ⟨rfl, hb_w11⟩
  have hs_w11 := hb_w11.size; (try simp only [World.size_alloc, World.heap_drewN, World.size_setCell, heap_drew] at hs_w11)
  have g_w11 : Below w.heap.size w w11 := (by (repeat (first | exact Below.refl _ _ | exact Nat.le_refl _ | assumption | exact And.right (by assumption) | refine Below.drew ?_ | refine below_drewN ?_ _ | refine Below.alloc ?_ ?_ _ | refine Below.setCell ?_ ?_ _ | refine Below.trans ?_ (Below.mono (by assumption) ?_) | exact Below.size (And.right (by assumption)) | (focus omega) | (focus (simp; done)) | (focus (simp; omega)) | (focus (simp at *; omega)))))
  have k_w11_0_0 := keepc hb_w11 (b := w1.heap.size) (o := 0) (by first | omega | (simp; done) | (simp; omega)) (by go_simp; rfl)
  have k_w11_0_1 := keepc hb_w11 (b := w1.heap.size) (o := 1) (by first | omega | (simp; done) | (simp; omega)) (by go_simp; rfl)
  have z_w11_0 : w1.heap.size < w11.heap.size := by omega
  have k_w11_1_0 := keepc hb_w11 (b := w2.heap.size) (o := 0) (by first | omega | (simp; done) | (simp; omega)) (by go_simp; rfl)
  have k_w11_1_1 := keepc hb_w11 (b := w2.heap.size) (o := 1) (by first | omega | (simp; done) | (simp; omega)) (by go_simp; rfl)
  have z_w11_1 : w2.heap.size < w11.heap.size := by omega
  clear hb_w11
  clear g_w10
  clear k_w10_0_0
  clear k_w10_0_1
  clear k_w10_1_0
  clear k_w10_1_1
  go_wp2_with fail
  go_region_held3 (fun W => (∀ b o, b < w11.heap.size → W.cell? ⟨b, o, none⟩ = w11.cell? ⟨b, o, none⟩) ∧ Below w11.heap.size w11 W) (first | (refine ext_mk ?_; (repeat (first | exact Below.refl _ _ | exact Nat.le_refl _ | assumption | exact And.right (by assumption) | refine Below.drew ?_ | refine below_drewN ?_ _ | refine Below.alloc ?_ ?_ _ | refine Below.setCell ?_ ?_ _ | refine Below.trans ?_ (Below.mono (by assumption) ?_) | exact Below.size (And.right (by assumption)) | (focus omega) | (focus (simp; done)) | (focus (simp; omega)) | (focus (simp at *; omega)))))) (first | (go_at_call 18; refine (span34_any _ _ _).mono ?_; rintro e w1 ⟨rfl, hb1⟩))
  go_goals
  all_goals
    go_wp2_with fail
    go_ret
    exact ⟨rfl, g_w11.trans (Below.mono (And.right (by assumption)) (by omega))⟩
end Go.Proofs.Ytbomoiecojdicaa

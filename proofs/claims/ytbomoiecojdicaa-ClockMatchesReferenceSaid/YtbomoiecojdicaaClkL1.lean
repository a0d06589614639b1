/- The walk of ClockMatchesReference: for any numbers the law's function returns true. -/
import Derived.Test.YtbomoiecojdicaaClkE
namespace Go.Proofs.Ytbomoiecojdicaa
open Go.RowKit
set_option maxHeartbeats 1000000 in
theorem clockMatches_walk (s r a b : Int) (w : World) (_ : (Lit.int .i64 s).wf = true) (_ : (Lit.int .i64 r).wf = true) (_ : (Lit.int .i64 a).wf = true) (_ : (Lit.int .i64 b).wf = true) :
    Calls Try.prog 3 #[.int .i64 s, .int .i64 r, .agg #[.int .i64 a, .int .i64 b]] w fun e w' => e = .returned (.bool true) ∧ Below w.heap.size w w' := by
  go_enter Try.func3, Try.ntmps3
  go_wp2_with fail
  refine (head34 _).mono ?_; rintro e w1 ⟨rfl, hb_w1⟩
  have hs_w1 := hb_w1.size; (try simp only [World.size_alloc, World.heap_drewN, World.size_setCell, heap_drew] at hs_w1)
  have g_w1 : Below w.heap.size w w1 := (by (repeat (first | exact Below.refl _ _ | exact Nat.le_refl _ | assumption | exact And.right (by assumption) | refine Below.drew ?_ | refine below_drewN ?_ _ | refine Below.alloc ?_ ?_ _ | refine Below.setCell ?_ ?_ _ | refine Below.trans ?_ (Below.mono (by assumption) ?_) | exact Below.size (And.right (by assumption)) | (focus omega) | (focus (simp; done)) | (focus (simp; omega)) | (focus (simp at *; omega)))))
  have k_w1_0_0 := keepc hb_w1 (b := w.heap.size) (o := 0) (by first | omega | (simp; done) | (simp; omega)) (by go_simp; rfl)
  have k_w1_0_1 := keepc hb_w1 (b := w.heap.size) (o := 1) (by first | omega | (simp; done) | (simp; omega)) (by go_simp; rfl)
  have z_w1_0 : w.heap.size < w1.heap.size := by omega
  clear hb_w1
  go_wp2_with fail
  refine (clockTrue_any _ _ _).mono ?_; rintro e w2 ⟨rfl, hb_w2⟩
  have hs_w2 := hb_w2.size; (try simp only [World.size_alloc, World.heap_drewN, World.size_setCell, heap_drew] at hs_w2)
  have g_w2 : Below w.heap.size w w2 := (by (repeat (first | exact Below.refl _ _ | exact Nat.le_refl _ | assumption | exact And.right (by assumption) | refine Below.drew ?_ | refine below_drewN ?_ _ | refine Below.alloc ?_ ?_ _ | refine Below.setCell ?_ ?_ _ | refine Below.trans ?_ (Below.mono (by assumption) ?_) | exact Below.size (And.right (by assumption)) | (focus omega) | (focus (simp; done)) | (focus (simp; omega)) | (focus (simp at *; omega)))))
  have k_w2_0_0 := keepc hb_w2 (b := w.heap.size) (o := 0) (by first | omega | (simp; done) | (simp; omega)) (by go_simp; rfl)
  have k_w2_0_1 := keepc hb_w2 (b := w.heap.size) (o := 1) (by first | omega | (simp; done) | (simp; omega)) (by go_simp; rfl)
  have z_w2_0 : w.heap.size < w2.heap.size := by omega
  clear hb_w2
  clear g_w1
  clear k_w1_0_0
  clear k_w1_0_1
  go_wp2_with fail
  refine (rTrue_any _ _ _).mono ?_; rintro e w3 ⟨rfl, hb_w3⟩
  have hs_w3 := hb_w3.size; (try simp only [World.size_alloc, World.heap_drewN, World.size_setCell, heap_drew] at hs_w3)
  have g_w3 : Below w.heap.size w w3 := (by (repeat (first | exact Below.refl _ _ | exact Nat.le_refl _ | assumption | exact And.right (by assumption) | refine Below.drew ?_ | refine below_drewN ?_ _ | refine Below.alloc ?_ ?_ _ | refine Below.setCell ?_ ?_ _ | refine Below.trans ?_ (Below.mono (by assumption) ?_) | exact Below.size (And.right (by assumption)) | (focus omega) | (focus (simp; done)) | (focus (simp; omega)) | (focus (simp at *; omega)))))
  have k_w3_0_0 := keepc hb_w3 (b := w.heap.size) (o := 0) (by first | omega | (simp; done) | (simp; omega)) (by go_simp; rfl)
  have k_w3_0_1 := keepc hb_w3 (b := w.heap.size) (o := 1) (by first | omega | (simp; done) | (simp; omega)) (by go_simp; rfl)
  have z_w3_0 : w.heap.size < w3.heap.size := by omega
  have k_w3_1_0 := keepc hb_w3 (b := w2.heap.size) (o := 0) (by first | omega | (simp; done) | (simp; omega)) (by go_simp; rfl)
  have k_w3_1_1 := keepc hb_w3 (b := w2.heap.size) (o := 1) (by first | omega | (simp; done) | (simp; omega)) (by go_simp; rfl)
  have z_w3_1 : w2.heap.size < w3.heap.size := by omega
  clear hb_w3
  clear g_w2
  clear k_w2_0_0
  clear k_w2_0_1
  go_wp2_with fail
  refine (clockSurely_any _ _ _ _ _).mono ?_; rintro e w4 ⟨rfl, hb_w4⟩
  have hs_w4 := hb_w4.size; (try simp only [World.size_alloc, World.heap_drewN, World.size_setCell, heap_drew] at hs_w4)
  have g_w4 : Below w.heap.size w w4 := (by (repeat (first | exact Below.refl _ _ | exact Nat.le_refl _ | assumption | exact And.right (by assumption) | refine Below.drew ?_ | refine below_drewN ?_ _ | refine Below.alloc ?_ ?_ _ | refine Below.setCell ?_ ?_ _ | refine Below.trans ?_ (Below.mono (by assumption) ?_) | exact Below.size (And.right (by assumption)) | (focus omega) | (focus (simp; done)) | (focus (simp; omega)) | (focus (simp at *; omega)))))
  have k_w4_0_0 := keepc hb_w4 (b := w.heap.size) (o := 0) (by first | omega | (simp; done) | (simp; omega)) (by go_simp; rfl)
  have k_w4_0_1 := keepc hb_w4 (b := w.heap.size) (o := 1) (by first | omega | (simp; done) | (simp; omega)) (by go_simp; rfl)
  have z_w4_0 : w.heap.size < w4.heap.size := by omega
  clear hb_w4
  clear g_w3
  clear k_w3_0_0
  clear k_w3_0_1
  clear k_w3_1_0
  clear k_w3_1_1
  go_wp2_with fail
  refine (rSurely_any _ _ _ _ _).mono ?_; rintro e w5 ⟨rfl, hb_w5⟩
  have hs_w5 := hb_w5.size; (try simp only [World.size_alloc, World.heap_drewN, World.size_setCell, heap_drew] at hs_w5)
  have g_w5 : Below w.heap.size w w5 := (by (repeat (first | exact Below.refl _ _ | exact Nat.le_refl _ | assumption | exact And.right (by assumption) | refine Below.drew ?_ | refine below_drewN ?_ _ | refine Below.alloc ?_ ?_ _ | refine Below.setCell ?_ ?_ _ | refine Below.trans ?_ (Below.mono (by assumption) ?_) | exact Below.size (And.right (by assumption)) | (focus omega) | (focus (simp; done)) | (focus (simp; omega)) | (focus (simp at *; omega)))))
  have k_w5_0_0 := keepc hb_w5 (b := w.heap.size) (o := 0) (by first | omega | (simp; done) | (simp; omega)) (by go_simp; rfl)
  have k_w5_0_1 := keepc hb_w5 (b := w.heap.size) (o := 1) (by first | omega | (simp; done) | (simp; omega)) (by go_simp; rfl)
  have z_w5_0 : w.heap.size < w5.heap.size := by omega
  clear hb_w5
  clear g_w4
  clear k_w4_0_0
  clear k_w4_0_1
  go_wp2_with fail
  refine (clockMaybe_any _ _ _ _ _).mono ?_; rintro e w6 ⟨rfl, hb_w6⟩
  have hs_w6 := hb_w6.size; (try simp only [World.size_alloc, World.heap_drewN, World.size_setCell, heap_drew] at hs_w6)
  have g_w6 : Below w.heap.size w w6 := (by (repeat (first | exact Below.refl _ _ | exact Nat.le_refl _ | assumption | exact And.right (by assumption) | refine Below.drew ?_ | refine below_drewN ?_ _ | refine Below.alloc ?_ ?_ _ | refine Below.setCell ?_ ?_ _ | refine Below.trans ?_ (Below.mono (by assumption) ?_) | exact Below.size (And.right (by assumption)) | (focus omega) | (focus (simp; done)) | (focus (simp; omega)) | (focus (simp at *; omega)))))
  have k_w6_0_0 := keepc hb_w6 (b := w.heap.size) (o := 0) (by first | omega | (simp; done) | (simp; omega)) (by go_simp; rfl)
  have k_w6_0_1 := keepc hb_w6 (b := w.heap.size) (o := 1) (by first | omega | (simp; done) | (simp; omega)) (by go_simp; rfl)
  have z_w6_0 : w.heap.size < w6.heap.size := by omega
  clear hb_w6
  clear g_w5
  clear k_w5_0_0
  clear k_w5_0_1
  go_wp2_with fail
  refine (rMaybe_any _ _ _ _ _).mono ?_; rintro e w7 ⟨rfl, hb_w7⟩
  have hs_w7 := hb_w7.size; (try simp only [World.size_alloc, World.heap_drewN, World.size_setCell, heap_drew] at hs_w7)
  have g_w7 : Below w.heap.size w w7 := (by (repeat (first | exact Below.refl _ _ | exact Nat.le_refl _ | assumption | exact And.right (by assumption) | refine Below.drew ?_ | refine below_drewN ?_ _ | refine Below.alloc ?_ ?_ _ | refine Below.setCell ?_ ?_ _ | refine Below.trans ?_ (Below.mono (by assumption) ?_) | exact Below.size (And.right (by assumption)) | (focus omega) | (focus (simp; done)) | (focus (simp; omega)) | (focus (simp at *; omega)))))
  have k_w7_0_0 := keepc hb_w7 (b := w.heap.size) (o := 0) (by first | omega | (simp; done) | (simp; omega)) (by go_simp; rfl)
  have k_w7_0_1 := keepc hb_w7 (b := w.heap.size) (o := 1) (by first | omega | (simp; done) | (simp; omega)) (by go_simp; rfl)
  have z_w7_0 : w.heap.size < w7.heap.size := by omega
  clear hb_w7
  clear g_w6
  clear k_w6_0_0
  clear k_w6_0_1
  go_wp2_with fail
  go_ret
  exact ⟨rfl, (by (repeat (first | exact Below.refl _ _ | exact Nat.le_refl _ | assumption | exact And.right (by assumption) | refine Below.drew ?_ | refine below_drewN ?_ _ | refine Below.alloc ?_ ?_ _ | refine Below.setCell ?_ ?_ _ | refine Below.trans ?_ (Below.mono (by assumption) ?_) | exact Below.size (And.right (by assumption)) | (focus omega) | (focus (simp; done)) | (focus (simp; omega)) | (focus (simp at *; omega)))))⟩
end Go.Proofs.Ytbomoiecojdicaa

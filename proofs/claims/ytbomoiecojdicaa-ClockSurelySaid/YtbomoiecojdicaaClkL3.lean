/- The walks of ClockSides and ClockSurely: for any numbers the law's function returns true. -/
import Derived.Test.YtbomoiecojdicaaClkL2
namespace Go.Proofs.Ytbomoiecojdicaa
set_option linter.unusedSimpArgs false
set_option linter.unusedVariables false
open Go.RowKit
set_option maxHeartbeats 1000000 in
theorem clockSides_bad (s r t : Int) (w : World) (h : (timeB s && errB r && timeB t) = false) :
    Calls Try.prog 7 #[.int .i64 s, .int .i64 r, .int .i64 t] w fun e w' => e = .returned (.bool true) ∧ Below w.heap.size w w' := by
  rcases and3F h with h1 | ⟨h1, h2⟩ | ⟨h1, h2, h3⟩
  all_goals
    have H_h := Lib.hid h; clear h
    go_enter Try.func7, Try.ntmps7
    go_wp2_with fail
    refine (head34 _).mono ?_; rintro e w1 ⟨rfl, hbw1⟩
    have hsw1 := hbw1.size; (try simp only [World.size_alloc, World.heap_drewN, World.size_setCell, heap_drew] at hsw1)
    have gw1 : Below w.heap.size w w1 := (by (repeat (first | exact Below.refl _ _ | exact Nat.le_refl _ | assumption | exact And.right (by assumption) | refine Below.drew ?_ | refine below_drewN ?_ _ | refine Below.alloc ?_ ?_ _ | refine Below.setCell ?_ ?_ _ | refine Below.trans ?_ (Below.mono (by assumption) ?_) | exact Below.size (And.right (by assumption)) | (focus omega) | (focus (simp; done)) | (focus (simp; omega)) | (focus (simp at *; omega)))))
    clear hbw1
    go_wp2_with (first | (go_at_call 16; refine (rTime_any _ _).mono ?_; rintro e wx ⟨rfl, rfl⟩) | (go_at_call 17; refine (rError_any _ _).mono ?_; rintro e wx ⟨rfl, rfl⟩))
    go_ret
    exact ⟨rfl, (by (repeat (first | exact Below.refl _ _ | exact Nat.le_refl _ | assumption | exact And.right (by assumption) | refine Below.drew ?_ | refine below_drewN ?_ _ | refine Below.alloc ?_ ?_ _ | refine Below.setCell ?_ ?_ _ | refine Below.trans ?_ (Below.mono (by assumption) ?_) | exact Below.size (And.right (by assumption)) | (focus omega) | (focus (simp; done)) | (focus (simp; omega)) | (focus (simp at *; omega)))))⟩
theorem sidesFacts (s r t : Int) (h1 : 0 ≤ s) (h2 : s < 1000000000) (h3 : 0 ≤ r) (h4 : r ≤ 10000) (h5 : 0 ≤ t) (h6 : t < 1000000000) :
    errN (askB s r 0 t) = 0 ∧ errN (askB s r t 1000000000) = 0 ∧ sureB s r 0 t = (!mayB s r t 1000000000) ∧ sureB s r t 1000000000 = (!mayB s r 0 t) := by
  have ha : askB s r 0 t = true := askB_iff.2 ⟨⟨⟨h1, h2⟩, h3, h4⟩, by omega, by omega, by omega⟩
  have hb : askB s r t 1000000000 = true := askB_iff.2 ⟨⟨⟨h1, h2⟩, h3, h4⟩, by omega, by omega, by omega⟩
  refine ⟨errN_ok ha, errN_ok hb, ?_, ?_⟩
  · rw [sureB, mayB, ha, hb, Bool.true_and, Bool.true_and, loT, hiT, Bool.eq_iff_iff]; simp only [Bool.and_eq_true, decide_eq_true_eq, Bool.not_eq_true', decide_eq_false_iff_not]; omega
  · rw [sureB, mayB, ha, hb, Bool.true_and, Bool.true_and, loT, hiT, Bool.eq_iff_iff]; simp only [Bool.and_eq_true, decide_eq_true_eq, Bool.not_eq_true', decide_eq_false_iff_not]; omega
set_option maxHeartbeats 1000000 in
theorem clockSides_good (s r t : Int) (w : World) (h1 : 0 ≤ s) (h2 : s < 1000000000) (h3 : 0 ≤ r) (h4 : r ≤ 10000) (h5 : 0 ≤ t) (h6 : t < 1000000000) :
    Calls Try.prog 7 #[.int .i64 s, .int .i64 r, .int .i64 t] w fun e w' => e = .returned (.bool true) ∧ Below w.heap.size w w' := by
  obtain ⟨e0, e1, q1, q2⟩ := sidesFacts s r t h1 h2 h3 h4 h5 h6
  have t1 := time_true h1 h2
  have t2 := errB_iff.2 ⟨h3, h4⟩
  have t3 := time_true h5 h6
  cases m1 : mayB s r t 1000000000 <;> cases m2 : mayB s r 0 t <;> rw [m1] at q1 <;> rw [m2] at q2 <;> simp only [Bool.not_true, Bool.not_false] at q1 q2
  all_goals
    go_enter Try.func7, Try.ntmps7
    go_wp2_with fail
    refine (head34 _).mono ?_; rintro e w1 ⟨rfl, hbw1⟩
    have hsw1 := hbw1.size; (try simp only [World.size_alloc, World.heap_drewN, World.size_setCell, heap_drew] at hsw1)
    have gw1 : Below w.heap.size w w1 := (by (repeat (first | exact Below.refl _ _ | exact Nat.le_refl _ | assumption | exact And.right (by assumption) | refine Below.drew ?_ | refine below_drewN ?_ _ | refine Below.alloc ?_ ?_ _ | refine Below.setCell ?_ ?_ _ | refine Below.trans ?_ (Below.mono (by assumption) ?_) | exact Below.size (And.right (by assumption)) | (focus omega) | (focus (simp; done)) | (focus (simp; omega)) | (focus (simp at *; omega)))))
    clear hbw1
    go_wp2_with (first | (go_at_call 16; refine (rTime_any _ _).mono ?_; rintro e wx ⟨rfl, rfl⟩) | (go_at_call 17; refine (rError_any _ _).mono ?_; rintro e wx ⟨rfl, rfl⟩))
    refine (span34_any _ _ _).mono ?_; rintro e w2 ⟨rfl, hbw2⟩
    have hsw2 := hbw2.size; (try simp only [World.size_alloc, World.heap_drewN, World.size_setCell, heap_drew] at hsw2)
    have gw2 : Below w.heap.size w w2 := (by (repeat (first | exact Below.refl _ _ | exact Nat.le_refl _ | assumption | exact And.right (by assumption) | refine Below.drew ?_ | refine below_drewN ?_ _ | refine Below.alloc ?_ ?_ _ | refine Below.setCell ?_ ?_ _ | refine Below.trans ?_ (Below.mono (by assumption) ?_) | exact Below.size (And.right (by assumption)) | (focus omega) | (focus (simp; done)) | (focus (simp; omega)) | (focus (simp at *; omega)))))
    clear hbw2
    clear gw1
    go_wp2_with fail
    refine (span34_any _ _ _).mono ?_; rintro e w3 ⟨rfl, hbw3⟩
    have hsw3 := hbw3.size; (try simp only [World.size_alloc, World.heap_drewN, World.size_setCell, heap_drew] at hsw3)
    have gw3 : Below w.heap.size w w3 := (by (repeat (first | exact Below.refl _ _ | exact Nat.le_refl _ | assumption | exact And.right (by assumption) | refine Below.drew ?_ | refine below_drewN ?_ _ | refine Below.alloc ?_ ?_ _ | refine Below.setCell ?_ ?_ _ | refine Below.trans ?_ (Below.mono (by assumption) ?_) | exact Below.size (And.right (by assumption)) | (focus omega) | (focus (simp; done)) | (focus (simp; omega)) | (focus (simp at *; omega)))))
    clear hbw3
    clear gw2
    go_wp2_with fail
    refine (clockSurely_any _ _ _ _ _).mono ?_; rintro e w4 ⟨rfl, hbw4⟩
    have hsw4 := hbw4.size; (try simp only [World.size_alloc, World.heap_drewN, World.size_setCell, heap_drew] at hsw4)
    have gw4 : Below w.heap.size w w4 := (by (repeat (first | exact Below.refl _ _ | exact Nat.le_refl _ | assumption | exact And.right (by assumption) | refine Below.drew ?_ | refine below_drewN ?_ _ | refine Below.alloc ?_ ?_ _ | refine Below.setCell ?_ ?_ _ | refine Below.trans ?_ (Below.mono (by assumption) ?_) | exact Below.size (And.right (by assumption)) | (focus omega) | (focus (simp; done)) | (focus (simp; omega)) | (focus (simp at *; omega)))))
    have kw4x0x0 := keepc hbw4 (b := w3.heap.size) (o := 0) (by first | omega | (simp; done) | (simp; omega)) (by go_simp; rfl)
    have kw4x0x1 := keepc hbw4 (b := w3.heap.size) (o := 1) (by first | omega | (simp; done) | (simp; omega)) (by go_simp; rfl)
    have zw4x0 : w3.heap.size < w4.heap.size := by omega
    have kw4x1x0 := keepc hbw4 (b := w3.heap.size + 1) (o := 0) (by first | omega | (simp; done) | (simp; omega)) (by go_simp; rfl)
    have kw4x1x1 := keepc hbw4 (b := w3.heap.size + 1) (o := 1) (by first | omega | (simp; done) | (simp; omega)) (by go_simp; rfl)
    have zw4x1 : w3.heap.size + 1 < w4.heap.size := by omega
    clear hbw4
    clear gw3
    go_wp2_with fail
    refine (clockMaybe_any _ _ _ _ _).mono ?_; rintro e w5 ⟨rfl, hbw5⟩
    have hsw5 := hbw5.size; (try simp only [World.size_alloc, World.heap_drewN, World.size_setCell, heap_drew] at hsw5)
    have gw5 : Below w.heap.size w w5 := (by (repeat (first | exact Below.refl _ _ | exact Nat.le_refl _ | assumption | exact And.right (by assumption) | refine Below.drew ?_ | refine below_drewN ?_ _ | refine Below.alloc ?_ ?_ _ | refine Below.setCell ?_ ?_ _ | refine Below.trans ?_ (Below.mono (by assumption) ?_) | exact Below.size (And.right (by assumption)) | (focus omega) | (focus (simp; done)) | (focus (simp; omega)) | (focus (simp at *; omega)))))
    have kw5x0x0 := keepc hbw5 (b := w3.heap.size) (o := 0) (by first | omega | (simp; done) | (simp; omega)) (by go_simp; rfl)
    have kw5x0x1 := keepc hbw5 (b := w3.heap.size) (o := 1) (by first | omega | (simp; done) | (simp; omega)) (by go_simp; rfl)
    have zw5x0 : w3.heap.size < w5.heap.size := by omega
    have kw5x1x0 := keepc hbw5 (b := w3.heap.size + 1) (o := 0) (by first | omega | (simp; done) | (simp; omega)) (by go_simp; rfl)
    have kw5x1x1 := keepc hbw5 (b := w3.heap.size + 1) (o := 1) (by first | omega | (simp; done) | (simp; omega)) (by go_simp; rfl)
    have zw5x1 : w3.heap.size + 1 < w5.heap.size := by omega
    clear hbw5
    clear gw4
    clear kw4x0x0
    clear kw4x0x1
    clear kw4x1x0
    clear kw4x1x1
    go_wp2_with fail
    refine (clockSurely_any _ _ _ _ _).mono ?_; rintro e w6 ⟨rfl, hbw6⟩
    have hsw6 := hbw6.size; (try simp only [World.size_alloc, World.heap_drewN, World.size_setCell, heap_drew] at hsw6)
    have gw6 : Below w.heap.size w w6 := (by (repeat (first | exact Below.refl _ _ | exact Nat.le_refl _ | assumption | exact And.right (by assumption) | refine Below.drew ?_ | refine below_drewN ?_ _ | refine Below.alloc ?_ ?_ _ | refine Below.setCell ?_ ?_ _ | refine Below.trans ?_ (Below.mono (by assumption) ?_) | exact Below.size (And.right (by assumption)) | (focus omega) | (focus (simp; done)) | (focus (simp; omega)) | (focus (simp at *; omega)))))
    have kw6x0x0 := keepc hbw6 (b := w3.heap.size) (o := 0) (by first | omega | (simp; done) | (simp; omega)) (by go_simp; rfl)
    have kw6x0x1 := keepc hbw6 (b := w3.heap.size) (o := 1) (by first | omega | (simp; done) | (simp; omega)) (by go_simp; rfl)
    have zw6x0 : w3.heap.size < w6.heap.size := by omega
    have kw6x1x0 := keepc hbw6 (b := w3.heap.size + 1) (o := 0) (by first | omega | (simp; done) | (simp; omega)) (by go_simp; rfl)
    have kw6x1x1 := keepc hbw6 (b := w3.heap.size + 1) (o := 1) (by first | omega | (simp; done) | (simp; omega)) (by go_simp; rfl)
    have zw6x1 : w3.heap.size + 1 < w6.heap.size := by omega
    clear hbw6
    clear gw5
    clear kw5x0x0
    clear kw5x0x1
    clear kw5x1x0
    clear kw5x1x1
    go_wp2_with fail
    refine (clockMaybe_any _ _ _ _ _).mono ?_; rintro e w7 ⟨rfl, hbw7⟩
    have hsw7 := hbw7.size; (try simp only [World.size_alloc, World.heap_drewN, World.size_setCell, heap_drew] at hsw7)
    have gw7 : Below w.heap.size w w7 := (by (repeat (first | exact Below.refl _ _ | exact Nat.le_refl _ | assumption | exact And.right (by assumption) | refine Below.drew ?_ | refine below_drewN ?_ _ | refine Below.alloc ?_ ?_ _ | refine Below.setCell ?_ ?_ _ | refine Below.trans ?_ (Below.mono (by assumption) ?_) | exact Below.size (And.right (by assumption)) | (focus omega) | (focus (simp; done)) | (focus (simp; omega)) | (focus (simp at *; omega)))))
    have kw7x0x0 := keepc hbw7 (b := w3.heap.size) (o := 0) (by first | omega | (simp; done) | (simp; omega)) (by go_simp; rfl)
    have kw7x0x1 := keepc hbw7 (b := w3.heap.size) (o := 1) (by first | omega | (simp; done) | (simp; omega)) (by go_simp; rfl)
    have zw7x0 : w3.heap.size < w7.heap.size := by omega
    have kw7x1x0 := keepc hbw7 (b := w3.heap.size + 1) (o := 0) (by first | omega | (simp; done) | (simp; omega)) (by go_simp; rfl)
    have kw7x1x1 := keepc hbw7 (b := w3.heap.size + 1) (o := 1) (by first | omega | (simp; done) | (simp; omega)) (by go_simp; rfl)
    have zw7x1 : w3.heap.size + 1 < w7.heap.size := by omega
    clear hbw7
    clear gw6
    clear kw6x0x0
    clear kw6x0x1
    clear kw6x1x0
    clear kw6x1x1
    go_wp2_with fail
    go_ret
    exact ⟨rfl, (by (repeat (first | exact Below.refl _ _ | exact Nat.le_refl _ | assumption | exact And.right (by assumption) | refine Below.drew ?_ | refine below_drewN ?_ _ | refine Below.alloc ?_ ?_ _ | refine Below.setCell ?_ ?_ _ | refine Below.trans ?_ (Below.mono (by assumption) ?_) | exact Below.size (And.right (by assumption)) | (focus omega) | (focus (simp; done)) | (focus (simp; omega)) | (focus (simp at *; omega)))))⟩
theorem clockSides_walk (s r t : Int) (w : World) (_ : (Lit.int .i64 s).wf = true) (_ : (Lit.int .i64 r).wf = true) (_ : (Lit.int .i64 t).wf = true) :
    Calls Try.prog 7 #[.int .i64 s, .int .i64 r, .int .i64 t] w fun e w' => e = .returned (.bool true) ∧ Below w.heap.size w w' := by
  cases h : (timeB s && errB r && timeB t)
  · exact clockSides_bad s r t w h
  · simp only [Bool.and_eq_true, timeB_iff, errB_iff] at h
    exact clockSides_good s r t w h.1.1.1 h.1.1.2 h.1.2.1 h.1.2.2 h.2.1 h.2.2

set_option maxHeartbeats 1000000 in
theorem clockSurely_bad (s r a b : Int) (w : World) (h : askB s r a b = false) :
    Calls Try.prog 5 #[.int .i64 s, .int .i64 r, .agg #[.int .i64 a, .int .i64 b]] w fun e w' => e = .returned (.bool true) ∧ Below w.heap.size w w' := by
  rcases and3F h with h1 | ⟨h1, h2⟩ | ⟨h1, h2, h3⟩
  all_goals
    have H_h := Lib.hid h; clear h
    go_enter Try.func5, Try.ntmps5
    go_wp2_with fail
    refine (head34 _).mono ?_; rintro e w1 ⟨rfl, hbw1⟩
    have hsw1 := hbw1.size; (try simp only [World.size_alloc, World.heap_drewN, World.size_setCell, heap_drew] at hsw1)
    have gw1 : Below w.heap.size w w1 := (by (repeat (first | exact Below.refl _ _ | exact Nat.le_refl _ | assumption | exact And.right (by assumption) | refine Below.drew ?_ | refine below_drewN ?_ _ | refine Below.alloc ?_ ?_ _ | refine Below.setCell ?_ ?_ _ | refine Below.trans ?_ (Below.mono (by assumption) ?_) | exact Below.size (And.right (by assumption)) | (focus omega) | (focus (simp; done)) | (focus (simp; omega)) | (focus (simp at *; omega)))))
    have kw1x0x0 := keepc hbw1 (b := w.heap.size) (o := 0) (by first | omega | (simp; done) | (simp; omega)) (by go_simp; rfl)
    have kw1x0x1 := keepc hbw1 (b := w.heap.size) (o := 1) (by first | omega | (simp; done) | (simp; omega)) (by go_simp; rfl)
    have zw1x0 : w.heap.size < w1.heap.size := by omega
    clear hbw1
    go_wp2_with (first | (go_at_call 16; refine (rTime_any _ _).mono ?_; rintro e wx ⟨rfl, rfl⟩) | (go_at_call 17; refine (rError_any _ _).mono ?_; rintro e wx ⟨rfl, rfl⟩) | (go_at_call 19; refine (rPeriod_any _ _ _).mono ?_; rintro e wx ⟨rfl, hbx⟩))
    go_ret
    exact ⟨rfl, (by (repeat (first | exact Below.refl _ _ | exact Nat.le_refl _ | assumption | exact And.right (by assumption) | refine Below.drew ?_ | refine below_drewN ?_ _ | refine Below.alloc ?_ ?_ _ | refine Below.setCell ?_ ?_ _ | refine Below.trans ?_ (Below.mono (by assumption) ?_) | exact Below.size (And.right (by assumption)) | (focus omega) | (focus (simp; done)) | (focus (simp; omega)) | (focus (simp at *; omega)))))⟩
theorem surelyFacts (s r a b : Int) (h1 : 0 ≤ s) (h2 : s < 1000000000) (h3 : 0 ≤ r) (h4 : r ≤ 10000) (h5 : 0 ≤ a) (h6 : a ≤ b) (h7 : b ≤ 1000000000) :
    errN (askB s r a b) = 0 ∧ errN (askB s 0 a b) = 0 ∧ errN (readB s r) = 0 ∧ (sureB s r a b = true → mayB s r a b = true) ∧ sureB s 0 a b = mayB s 0 a b ∧
    errN (askB s r (trueA s r) (trueB s r)) = 0 ∧ sureB s r (trueA s r) (trueB s r) = true ∧
    errN (askB s r (trueA s r + 1) (trueB s r)) = 0 ∧ sureB s r (trueA s r + 1) (trueB s r) = false ∧
    errN (askB s r (trueA s r) (trueB s r - 1)) = 0 ∧ sureB s r (trueA s r) (trueB s r - 1) = false ∧ 0 ≤ trueA s r ∧ trueA s r + 1 ≤ trueB s r ∧ trueB s r ≤ 1000000000 := by
  have hr : readB s r = true := readB_iff.2 ⟨⟨h1, h2⟩, h3, h4⟩
  have el : trueA s r = max 0 (s - r) := by simp [trueA, hr, loT]
  have eh : trueB s r = min 1000000000 (s + r + 1) := by simp [trueB, hr, hiT]
  have ha : askB s r a b = true := askB_iff.2 ⟨⟨⟨h1, h2⟩, h3, h4⟩, h5, h6, h7⟩
  have ha0 : askB s 0 a b = true := askB_iff.2 ⟨⟨⟨h1, h2⟩, by omega, by omega⟩, h5, h6, h7⟩
  have hb : askB s r (trueA s r) (trueB s r) = true := askB_iff.2 ⟨⟨⟨h1, h2⟩, h3, h4⟩, by omega, by omega, by omega⟩
  have hc : askB s r (trueA s r + 1) (trueB s r) = true := askB_iff.2 ⟨⟨⟨h1, h2⟩, h3, h4⟩, by omega, by omega, by omega⟩
  have hd : askB s r (trueA s r) (trueB s r - 1) = true := askB_iff.2 ⟨⟨⟨h1, h2⟩, h3, h4⟩, by omega, by omega, by omega⟩
  refine ⟨errN_ok ha, errN_ok ha0, errN_ok hr, ?_, ?_, errN_ok hb, ?_, errN_ok hc, ?_, errN_ok hd, ?_, by omega, by omega, by omega⟩
  · rw [sureB, mayB, ha, Bool.true_and, Bool.true_and, loT, hiT]; simp only [Bool.and_eq_true, decide_eq_true_eq]; omega
  · rw [sureB, mayB, ha0, Bool.true_and, Bool.true_and, loT, hiT, Bool.eq_iff_iff]; simp only [Bool.and_eq_true, decide_eq_true_eq]; omega
  · rw [sureB, hb, Bool.true_and, loT, hiT]; simp only [Bool.and_eq_true, decide_eq_true_eq]; omega
  · rw [sureB, hc, Bool.true_and, loT, hiT]; simp only [Bool.and_eq_false_iff, decide_eq_false_iff_not]; omega
  · rw [sureB, hd, Bool.true_and, loT, hiT]; simp only [Bool.and_eq_false_iff, decide_eq_false_iff_not]; omega
set_option maxHeartbeats 1000000 in
theorem clockSurely_good (s r a b : Int) (w : World) (h1 : 0 ≤ s) (h2 : s < 1000000000) (h3 : 0 ≤ r) (h4 : r ≤ 10000) (h5 : 0 ≤ a) (h6 : a ≤ b) (h7 : b ≤ 1000000000) :
    Calls Try.prog 5 #[.int .i64 s, .int .i64 r, .agg #[.int .i64 a, .int .i64 b]] w fun e w' => e = .returned (.bool true) ∧ Below w.heap.size w w' := by
  obtain ⟨e0, e1, e2, q1, q2, e3, q3, e4, q4, e5, q5, b1, b2, b3⟩ := surelyFacts s r a b h1 h2 h3 h4 h5 h6 h7
  have t1 := time_true h1 h2
  have t2 := errB_iff.2 ⟨h3, h4⟩
  have t3 := perB_iff.2 ⟨h5, h6, h7⟩
  have e4' : errN (askB s r (trueA s r + 1) (trueA s r + 1)) = 0 ∨ trueA s r + 1 < trueB s r := by
    by_cases h : trueA s r + 1 < trueB s r
    · exact .inr h
    · rw [show trueB s r = trueA s r + 1 by omega] at e4; exact .inl e4
  have q4' : sureB s r (trueA s r + 1) (trueA s r + 1) = false ∨ trueA s r + 1 < trueB s r := by
    by_cases h : trueA s r + 1 < trueB s r
    · exact .inr h
    · rw [show trueB s r = trueA s r + 1 by omega] at q4; exact .inl q4
  have key : ∃ x y z u : Bool, sureB s r a b = x ∧ mayB s r a b = y ∧ sureB s 0 a b = z ∧ mayB s 0 a b = u ∧ (!x || y) = true ∧ z = u :=
    ⟨_, _, _, _, rfl, rfl, rfl, rfl, by revert q1; cases sureB s r a b <;> simp, q2⟩
  clear q1 q2
  obtain ⟨x, y, z, u, kx, ky, kz, ku, kxy, kzu⟩ := key
  subst kzu
  generalize hL : trueA s r = L at *
  generalize hH : trueB s r = H at *
  have hcase : (x = false ∧ y = y) ∨ (x = true ∧ y = true) := by revert kxy; cases x <;> simp
  rcases hcase with ⟨rfl, -⟩ | ⟨rfl, rfl⟩
  all_goals
    clear kxy
    by_cases hm : L + 1 < H
    all_goals
      simp only [hm, or_true, or_false] at e4' q4'
      go_enter Try.func5, Try.ntmps5
      go_wp2_with fail
      refine (head34 _).mono ?_; rintro e w1 ⟨rfl, hbw1⟩
      have hsw1 := hbw1.size; (try simp only [World.size_alloc, World.heap_drewN, World.size_setCell, heap_drew] at hsw1)
      have gw1 : Below w.heap.size w w1 := (by (repeat (first | exact Below.refl _ _ | exact Nat.le_refl _ | assumption | exact And.right (by assumption) | refine Below.drew ?_ | refine below_drewN ?_ _ | refine Below.alloc ?_ ?_ _ | refine Below.setCell ?_ ?_ _ | refine Below.trans ?_ (Below.mono (by assumption) ?_) | exact Below.size (And.right (by assumption)) | (focus omega) | (focus (simp; done)) | (focus (simp; omega)) | (focus (simp at *; omega)))))
      have kw1x0x0 := keepc hbw1 (b := w.heap.size) (o := 0) (by first | omega | (simp; done) | (simp; omega)) (by go_simp; rfl)
      have kw1x0x1 := keepc hbw1 (b := w.heap.size) (o := 1) (by first | omega | (simp; done) | (simp; omega)) (by go_simp; rfl)
      have zw1x0 : w.heap.size < w1.heap.size := by omega
      clear hbw1
      go_wp2_with (first | (go_at_call 16; refine (rTime_any _ _).mono ?_; rintro e wx ⟨rfl, rfl⟩) | (go_at_call 17; refine (rError_any _ _).mono ?_; rintro e wx ⟨rfl, rfl⟩))
      refine (rPeriod_any _ _ _).mono ?_; rintro e w2 ⟨rfl, hbw2⟩
      have hsw2 := hbw2.size; (try simp only [World.size_alloc, World.heap_drewN, World.size_setCell, heap_drew] at hsw2)
      have gw2 : Below w.heap.size w w2 := (by (repeat (first | exact Below.refl _ _ | exact Nat.le_refl _ | assumption | exact And.right (by assumption) | refine Below.drew ?_ | refine below_drewN ?_ _ | refine Below.alloc ?_ ?_ _ | refine Below.setCell ?_ ?_ _ | refine Below.trans ?_ (Below.mono (by assumption) ?_) | exact Below.size (And.right (by assumption)) | (focus omega) | (focus (simp; done)) | (focus (simp; omega)) | (focus (simp at *; omega)))))
      have kw2x0x0 := keepc hbw2 (b := w.heap.size) (o := 0) (by first | omega | (simp; done) | (simp; omega)) (by go_simp; rfl)
      have kw2x0x1 := keepc hbw2 (b := w.heap.size) (o := 1) (by first | omega | (simp; done) | (simp; omega)) (by go_simp; rfl)
      have zw2x0 : w.heap.size < w2.heap.size := by omega
      clear hbw2
      clear gw1
      clear kw1x0x0
      clear kw1x0x1
      go_wp2_with fail
      refine (clockSurely_any _ _ _ _ _).mono ?_; rintro e w3 ⟨rfl, hbw3⟩
      have hsw3 := hbw3.size; (try simp only [World.size_alloc, World.heap_drewN, World.size_setCell, heap_drew] at hsw3)
      have gw3 : Below w.heap.size w w3 := (by (repeat (first | exact Below.refl _ _ | exact Nat.le_refl _ | assumption | exact And.right (by assumption) | refine Below.drew ?_ | refine below_drewN ?_ _ | refine Below.alloc ?_ ?_ _ | refine Below.setCell ?_ ?_ _ | refine Below.trans ?_ (Below.mono (by assumption) ?_) | exact Below.size (And.right (by assumption)) | (focus omega) | (focus (simp; done)) | (focus (simp; omega)) | (focus (simp at *; omega)))))
      have kw3x0x0 := keepc hbw3 (b := w.heap.size) (o := 0) (by first | omega | (simp; done) | (simp; omega)) (by go_simp; rfl)
      have kw3x0x1 := keepc hbw3 (b := w.heap.size) (o := 1) (by first | omega | (simp; done) | (simp; omega)) (by go_simp; rfl)
      have zw3x0 : w.heap.size < w3.heap.size := by omega
      clear hbw3
      clear gw2
      clear kw2x0x0
      clear kw2x0x1
      go_wp2_with fail
      refine (clockMaybe_any _ _ _ _ _).mono ?_; rintro e w4 ⟨rfl, hbw4⟩
      have hsw4 := hbw4.size; (try simp only [World.size_alloc, World.heap_drewN, World.size_setCell, heap_drew] at hsw4)
      have gw4 : Below w.heap.size w w4 := (by (repeat (first | exact Below.refl _ _ | exact Nat.le_refl _ | assumption | exact And.right (by assumption) | refine Below.drew ?_ | refine below_drewN ?_ _ | refine Below.alloc ?_ ?_ _ | refine Below.setCell ?_ ?_ _ | refine Below.trans ?_ (Below.mono (by assumption) ?_) | exact Below.size (And.right (by assumption)) | (focus omega) | (focus (simp; done)) | (focus (simp; omega)) | (focus (simp at *; omega)))))
      have kw4x0x0 := keepc hbw4 (b := w.heap.size) (o := 0) (by first | omega | (simp; done) | (simp; omega)) (by go_simp; rfl)
      have kw4x0x1 := keepc hbw4 (b := w.heap.size) (o := 1) (by first | omega | (simp; done) | (simp; omega)) (by go_simp; rfl)
      have zw4x0 : w.heap.size < w4.heap.size := by omega
      clear hbw4
      clear gw3
      clear kw3x0x0
      clear kw3x0x1
      go_wp2_with fail
      refine (clockSurely_any _ _ _ _ _).mono ?_; rintro e w5 ⟨rfl, hbw5⟩
      have hsw5 := hbw5.size; (try simp only [World.size_alloc, World.heap_drewN, World.size_setCell, heap_drew] at hsw5)
      have gw5 : Below w.heap.size w w5 := (by (repeat (first | exact Below.refl _ _ | exact Nat.le_refl _ | assumption | exact And.right (by assumption) | refine Below.drew ?_ | refine below_drewN ?_ _ | refine Below.alloc ?_ ?_ _ | refine Below.setCell ?_ ?_ _ | refine Below.trans ?_ (Below.mono (by assumption) ?_) | exact Below.size (And.right (by assumption)) | (focus omega) | (focus (simp; done)) | (focus (simp; omega)) | (focus (simp at *; omega)))))
      have kw5x0x0 := keepc hbw5 (b := w.heap.size) (o := 0) (by first | omega | (simp; done) | (simp; omega)) (by go_simp; rfl)
      have kw5x0x1 := keepc hbw5 (b := w.heap.size) (o := 1) (by first | omega | (simp; done) | (simp; omega)) (by go_simp; rfl)
      have zw5x0 : w.heap.size < w5.heap.size := by omega
      clear hbw5
      clear gw4
      clear kw4x0x0
      clear kw4x0x1
      go_wp2_with fail
      refine (clockMaybe_any _ _ _ _ _).mono ?_; rintro e w6 ⟨rfl, hbw6⟩
      have hsw6 := hbw6.size; (try simp only [World.size_alloc, World.heap_drewN, World.size_setCell, heap_drew] at hsw6)
      have gw6 : Below w.heap.size w w6 := (by (repeat (first | exact Below.refl _ _ | exact Nat.le_refl _ | assumption | exact And.right (by assumption) | refine Below.drew ?_ | refine below_drewN ?_ _ | refine Below.alloc ?_ ?_ _ | refine Below.setCell ?_ ?_ _ | refine Below.trans ?_ (Below.mono (by assumption) ?_) | exact Below.size (And.right (by assumption)) | (focus omega) | (focus (simp; done)) | (focus (simp; omega)) | (focus (simp at *; omega)))))
      have kw6x0x0 := keepc hbw6 (b := w.heap.size) (o := 0) (by first | omega | (simp; done) | (simp; omega)) (by go_simp; rfl)
      have kw6x0x1 := keepc hbw6 (b := w.heap.size) (o := 1) (by first | omega | (simp; done) | (simp; omega)) (by go_simp; rfl)
      have zw6x0 : w.heap.size < w6.heap.size := by omega
      clear hbw6
      clear gw5
      clear kw5x0x0
      clear kw5x0x1
      go_wp2_with fail
      refine (clockTrue_any _ _ _).mono ?_; rintro e w7 ⟨rfl, hbw7⟩
      have hsw7 := hbw7.size; (try simp only [World.size_alloc, World.heap_drewN, World.size_setCell, heap_drew] at hsw7)
      have gw7 : Below w.heap.size w w7 := (by (repeat (first | exact Below.refl _ _ | exact Nat.le_refl _ | assumption | exact And.right (by assumption) | refine Below.drew ?_ | refine below_drewN ?_ _ | refine Below.alloc ?_ ?_ _ | refine Below.setCell ?_ ?_ _ | refine Below.trans ?_ (Below.mono (by assumption) ?_) | exact Below.size (And.right (by assumption)) | (focus omega) | (focus (simp; done)) | (focus (simp; omega)) | (focus (simp at *; omega)))))
      clear hbw7
      clear gw6
      clear kw6x0x0
      clear kw6x0x1
      go_wp2_with fail
      refine (clockSurely_any _ _ _ _ _).mono ?_; rintro e w8 ⟨rfl, hbw8⟩
      have hsw8 := hbw8.size; (try simp only [World.size_alloc, World.heap_drewN, World.size_setCell, heap_drew] at hsw8)
      have gw8 : Below w.heap.size w w8 := (by (repeat (first | exact Below.refl _ _ | exact Nat.le_refl _ | assumption | exact And.right (by assumption) | refine Below.drew ?_ | refine below_drewN ?_ _ | refine Below.alloc ?_ ?_ _ | refine Below.setCell ?_ ?_ _ | refine Below.trans ?_ (Below.mono (by assumption) ?_) | exact Below.size (And.right (by assumption)) | (focus omega) | (focus (simp; done)) | (focus (simp; omega)) | (focus (simp at *; omega)))))
      have kw8x0x0 := keepc hbw8 (b := w7.heap.size) (o := 0) (by first | omega | (simp; done) | (simp; omega)) (by go_simp; rfl)
      have kw8x0x1 := keepc hbw8 (b := w7.heap.size) (o := 1) (by first | omega | (simp; done) | (simp; omega)) (by go_simp; rfl)
      have zw8x0 : w7.heap.size < w8.heap.size := by omega
      clear hbw8
      clear gw7
      go_wp2_with fail
      refine (span34_any _ _ _).mono ?_; rintro e w9 ⟨rfl, hbw9⟩
      have hsw9 := hbw9.size; (try simp only [World.size_alloc, World.heap_drewN, World.size_setCell, heap_drew] at hsw9)
      have gw9 : Below w.heap.size w w9 := (by (repeat (first | exact Below.refl _ _ | exact Nat.le_refl _ | assumption | exact And.right (by assumption) | refine Below.drew ?_ | refine below_drewN ?_ _ | refine Below.alloc ?_ ?_ _ | refine Below.setCell ?_ ?_ _ | refine Below.trans ?_ (Below.mono (by assumption) ?_) | exact Below.size (And.right (by assumption)) | (focus omega) | (focus (simp; done)) | (focus (simp; omega)) | (focus (simp at *; omega)))))
      have kw9x0x0 := keepc hbw9 (b := w7.heap.size) (o := 0) (by first | omega | (simp; done) | (simp; omega)) (by go_simp; rfl)
      have kw9x0x1 := keepc hbw9 (b := w7.heap.size) (o := 1) (by first | omega | (simp; done) | (simp; omega)) (by go_simp; rfl)
      have zw9x0 : w7.heap.size < w9.heap.size := by omega
      clear hbw9
      clear gw8
      clear kw8x0x0
      clear kw8x0x1
      go_wp2_with fail
      refine (clockSurely_any _ _ _ _ _).mono ?_; rintro e w10 ⟨rfl, hbw10⟩
      have hsw10 := hbw10.size; (try simp only [World.size_alloc, World.heap_drewN, World.size_setCell, heap_drew] at hsw10)
      have gw10 : Below w.heap.size w w10 := (by (repeat (first | exact Below.refl _ _ | exact Nat.le_refl _ | assumption | exact And.right (by assumption) | refine Below.drew ?_ | refine below_drewN ?_ _ | refine Below.alloc ?_ ?_ _ | refine Below.setCell ?_ ?_ _ | refine Below.trans ?_ (Below.mono (by assumption) ?_) | exact Below.size (And.right (by assumption)) | (focus omega) | (focus (simp; done)) | (focus (simp; omega)) | (focus (simp at *; omega)))))
      have kw10x0x0 := keepc hbw10 (b := w7.heap.size) (o := 0) (by first | omega | (simp; done) | (simp; omega)) (by go_simp; rfl)
      have kw10x0x1 := keepc hbw10 (b := w7.heap.size) (o := 1) (by first | omega | (simp; done) | (simp; omega)) (by go_simp; rfl)
      have zw10x0 : w7.heap.size < w10.heap.size := by omega
      clear hbw10
      clear gw9
      clear kw9x0x0
      clear kw9x0x1
      go_wp2_with fail
      refine (span34_any _ _ _).mono ?_; rintro e w11 ⟨rfl, hbw11⟩
      have hsw11 := hbw11.size; (try simp only [World.size_alloc, World.heap_drewN, World.size_setCell, heap_drew] at hsw11)
      have gw11 : Below w.heap.size w w11 := (by (repeat (first | exact Below.refl _ _ | exact Nat.le_refl _ | assumption | exact And.right (by assumption) | refine Below.drew ?_ | refine below_drewN ?_ _ | refine Below.alloc ?_ ?_ _ | refine Below.setCell ?_ ?_ _ | refine Below.trans ?_ (Below.mono (by assumption) ?_) | exact Below.size (And.right (by assumption)) | (focus omega) | (focus (simp; done)) | (focus (simp; omega)) | (focus (simp at *; omega)))))
      have kw11x0x0 := keepc hbw11 (b := w7.heap.size) (o := 0) (by first | omega | (simp; done) | (simp; omega)) (by go_simp; rfl)
      have kw11x0x1 := keepc hbw11 (b := w7.heap.size) (o := 1) (by first | omega | (simp; done) | (simp; omega)) (by go_simp; rfl)
      have zw11x0 : w7.heap.size < w11.heap.size := by omega
      clear hbw11
      clear gw10
      clear kw10x0x0
      clear kw10x0x1
      go_wp2_with fail
      refine (clockSurely_any _ _ _ _ _).mono ?_; rintro e w12 ⟨rfl, hbw12⟩
      have hsw12 := hbw12.size; (try simp only [World.size_alloc, World.heap_drewN, World.size_setCell, heap_drew] at hsw12)
      have gw12 : Below w.heap.size w w12 := (by (repeat (first | exact Below.refl _ _ | exact Nat.le_refl _ | assumption | exact And.right (by assumption) | refine Below.drew ?_ | refine below_drewN ?_ _ | refine Below.alloc ?_ ?_ _ | refine Below.setCell ?_ ?_ _ | refine Below.trans ?_ (Below.mono (by assumption) ?_) | exact Below.size (And.right (by assumption)) | (focus omega) | (focus (simp; done)) | (focus (simp; omega)) | (focus (simp at *; omega)))))
      have kw12x0x0 := keepc hbw12 (b := w7.heap.size) (o := 0) (by first | omega | (simp; done) | (simp; omega)) (by go_simp; rfl)
      have kw12x0x1 := keepc hbw12 (b := w7.heap.size) (o := 1) (by first | omega | (simp; done) | (simp; omega)) (by go_simp; rfl)
      have zw12x0 : w7.heap.size < w12.heap.size := by omega
      clear hbw12
      clear gw11
      clear kw11x0x0
      clear kw11x0x1
      go_wp2_with fail
      go_ret
      exact ⟨rfl, (by (repeat (first | exact Below.refl _ _ | exact Nat.le_refl _ | assumption | exact And.right (by assumption) | refine Below.drew ?_ | refine below_drewN ?_ _ | refine Below.alloc ?_ ?_ _ | refine Below.setCell ?_ ?_ _ | refine Below.trans ?_ (Below.mono (by assumption) ?_) | exact Below.size (And.right (by assumption)) | (focus omega) | (focus (simp; done)) | (focus (simp; omega)) | (focus (simp at *; omega)))))⟩
end Go.Proofs.Ytbomoiecojdicaa

/- The walk of ClockTwo: for any numbers the law's function returns true. -/
import Derived.Test.YtbomoiecojdicaaClkL4
namespace Go.Proofs.Ytbomoiecojdicaa
set_option linter.unusedSimpArgs false
set_option linter.unusedVariables false
open Go.RowKit
theorem and6F {a b c d e f : Bool} (h : (a && b && c && d && e && f) = false) : a = false ∨ (a = true ∧ b = false) ∨ (a = true ∧ b = true ∧ c = false) ∨ (a = true ∧ b = true ∧ c = true ∧ d = false) ∨
    (a = true ∧ b = true ∧ c = true ∧ d = true ∧ e = false) ∨ (a = true ∧ b = true ∧ c = true ∧ d = true ∧ e = true ∧ f = false) := by cases a <;> cases b <;> cases c <;> cases d <;> cases e <;> simp_all
set_option maxRecDepth 100000 in
set_option maxHeartbeats 1000000 in
theorem clockTwo_bad (t p q r v a b : Int) (w : World) (h : (timeB t && errB r && errB v && timeB p && timeB q && perB a b) = false) :
    Calls Try.prog 8 #[.int .i64 t, .int .i64 p, .int .i64 q, .int .i64 r, .int .i64 v, .agg #[.int .i64 a, .int .i64 b]] w fun e w' => e = .returned (.bool true) ∧ Below w.heap.size w w' := by
  rcases and6F h with h1 | ⟨h1, h2⟩ | ⟨h1, h2, h3⟩ | ⟨h1, h2, h3, h4⟩ | ⟨h1, h2, h3, h4, h5⟩ | ⟨h1, h2, h3, h4, h5, h6⟩
  all_goals
    have H_h := Lib.hid h; clear h
    go_enter Try.func8, Try.ntmps8
    go_wp2_with fail
    refine (head34 _).mono ?_; rintro e w1 ⟨rfl, hbw1⟩
    have hsw1 := hbw1.size; (try simp only [World.size_alloc, World.heap_drewN, World.size_setCell, heap_drew] at hsw1)
    have gw1 : Below w.heap.size w w1 := (by (repeat (first | exact Below.refl _ _ | exact Nat.le_refl _ | assumption | exact And.right (by assumption) | refine Below.drew ?_ | refine below_drewN ?_ _ | refine Below.alloc ?_ ?_ _ | refine Below.setCell ?_ ?_ _ | refine Below.trans ?_ (Below.mono (by assumption) ?_) | exact Below.size (And.right (by assumption)) | (focus omega) | (focus (simp; done)) | (focus (simp; omega)) | (focus (simp at *; omega)))))
    have kw1x0x0 := keepc hbw1 (b := w.heap.size) (o := 0) (by first | omega | (simp; done) | (simp; omega)) (by go_simp; rfl)
    have kw1x0x1 := keepc hbw1 (b := w.heap.size) (o := 1) (by first | omega | (simp; done) | (simp; omega)) (by go_simp; rfl)
    have zw1x0 : w.heap.size < w1.heap.size := by omega
    clear hbw1
    go_wp2_with (first | (go_at_call 16; refine (rTime_any _ _).mono ?_; rintro e wx ⟨rfl, rfl⟩) | (go_at_call 17; refine (rError_any _ _).mono ?_; rintro e wx ⟨rfl, rfl⟩) | (go_at_call 19; refine (rPeriod_any _ _ _).mono ?_; rintro e wx ⟨rfl, hbx⟩))
    go_ret
    exact ⟨rfl, (by (repeat (first | exact Below.refl _ _ | exact Nat.le_refl _ | assumption | exact And.right (by assumption) | refine Below.drew ?_ | refine below_drewN ?_ _ | refine Below.alloc ?_ ?_ _ | refine Below.setCell ?_ ?_ _ | refine Below.trans ?_ (Below.mono (by assumption) ?_) | exact Below.size (And.right (by assumption)) | (focus omega) | (focus (simp; done)) | (focus (simp; omega)) | (focus (simp at *; omega)))))⟩
set_option maxRecDepth 100000 in
set_option maxHeartbeats 1000000 in
theorem clockTwo_far (t p q r v a b : Int) (w : World) (a1 : 0 ≤ t) (a2 : t < 1000000000) (b1 : 0 ≤ r) (b2 : r ≤ 10000) (c1 : 0 ≤ v) (c2 : v ≤ 10000) (d1 : 0 ≤ p) (d2 : p < 1000000000) (e1 : 0 ≤ q) (e2 : q < 1000000000) (f1 : 0 ≤ a) (f2 : a ≤ b) (f3 : b ≤ 1000000000)
    (h : p < t - r ∨ (decide (p < t - r) = false ∧ t + r < p) ∨ (decide (p < t - r) = false ∧ decide (t + r < p) = false ∧ q < t - v) ∨ (decide (p < t - r) = false ∧ decide (t + r < p) = false ∧ decide (q < t - v) = false ∧ t + v < q)) :
    Calls Try.prog 8 #[.int .i64 t, .int .i64 p, .int .i64 q, .int .i64 r, .int .i64 v, .agg #[.int .i64 a, .int .i64 b]] w fun e w' => e = .returned (.bool true) ∧ Below w.heap.size w w' := by
  have t1 := time_true a1 a2
  have t2 := errB_iff.2 ⟨b1, b2⟩
  have t3 := errB_iff.2 ⟨c1, c2⟩
  have t4 := time_true d1 d2
  have t5 := time_true e1 e2
  have t6 := perB_iff.2 ⟨f1, f2, f3⟩
  rcases h with h1 | ⟨h1, h2⟩ | ⟨h1, h2, h3⟩ | ⟨h1, h2, h3, h4⟩
  all_goals
    go_enter Try.func8, Try.ntmps8
    go_wp2_with fail
    refine (head34 _).mono ?_; rintro e w1 ⟨rfl, hbw1⟩
    have hsw1 := hbw1.size; (try simp only [World.size_alloc, World.heap_drewN, World.size_setCell, heap_drew] at hsw1)
    have gw1 : Below w.heap.size w w1 := (by (repeat (first | exact Below.refl _ _ | exact Nat.le_refl _ | assumption | exact And.right (by assumption) | refine Below.drew ?_ | refine below_drewN ?_ _ | refine Below.alloc ?_ ?_ _ | refine Below.setCell ?_ ?_ _ | refine Below.trans ?_ (Below.mono (by assumption) ?_) | exact Below.size (And.right (by assumption)) | (focus omega) | (focus (simp; done)) | (focus (simp; omega)) | (focus (simp at *; omega)))))
    have kw1x0x0 := keepc hbw1 (b := w.heap.size) (o := 0) (by first | omega | (simp; done) | (simp; omega)) (by go_simp; rfl)
    have kw1x0x1 := keepc hbw1 (b := w.heap.size) (o := 1) (by first | omega | (simp; done) | (simp; omega)) (by go_simp; rfl)
    have zw1x0 : w.heap.size < w1.heap.size := by omega
    clear hbw1
    go_wp2_with (first | (go_at_call 16; refine (rTime_any _ _).mono ?_; rintro e wx ⟨rfl, rfl⟩) | (go_at_call 17; refine (rError_any _ _).mono ?_; rintro e wx ⟨rfl, rfl⟩))
    refine (rPeriod_any _ _ _).mono ?_; rintro e w2 ⟨rfl, hbw2⟩
    have hsw2 := hbw2.size; (try simp only [World.size_alloc, World.heap_drewN, World.size_setCell, heap_drew] at hsw2)
    have gw2 : Below w.heap.size w w2 := (by (repeat (first | exact Below.refl _ _ | exact Nat.le_refl _ | assumption | exact And.right (by assumption) | refine Below.drew ?_ | refine below_drewN ?_ _ | refine Below.alloc ?_ ?_ _ | refine Below.setCell ?_ ?_ _ | refine Below.trans ?_ (Below.mono (by assumption) ?_) | exact Below.size (And.right (by assumption)) | (focus omega) | (focus (simp; done)) | (focus (simp; omega)) | (focus (simp at *; omega)))))
    have kw2x0x0 := keepc hbw2 (b := w.heap.size) (o := 0) (by first | omega | (simp; done) | (simp; omega)) (by go_simp; rfl)
    have kw2x0x1 := keepc hbw2 (b := w.heap.size) (o := 1) (by first | omega | (simp; done) | (simp; omega)) (by go_simp; rfl)
    have zw2x0 : w.heap.size < w2.heap.size := by omega
    clear hbw2
    clear gw1
    clear kw1x0x0
    clear kw1x0x1
    go_wp2_with fail
    go_ret
    exact ⟨rfl, (by (repeat (first | exact Below.refl _ _ | exact Nat.le_refl _ | assumption | exact And.right (by assumption) | refine Below.drew ?_ | refine below_drewN ?_ _ | refine Below.alloc ?_ ?_ _ | refine Below.setCell ?_ ?_ _ | refine Below.trans ?_ (Below.mono (by assumption) ?_) | exact Below.size (And.right (by assumption)) | (focus omega) | (focus (simp; done)) | (focus (simp; omega)) | (focus (simp at *; omega)))))⟩
theorem twoFacts (t p r a b : Int) (a1 : 0 ≤ t) (a2 : t < 1000000000) (b1 : 0 ≤ r) (b2 : r ≤ 10000) (d1 : 0 ≤ p) (d2 : p < 1000000000) (f1 : 0 ≤ a) (f2 : a ≤ b) (f3 : b ≤ 1000000000) (h1 : t - r ≤ p) (h2 : p ≤ t + r) :
    errN (readB p r) = 0 ∧ errN (askB p r a b) = 0 ∧ trueA p r ≤ t ∧ t < trueB p r ∧ (sureB p r a b = true → a ≤ t ∧ t < b) ∧ (a ≤ t → t < b → mayB p r a b = true) := by
  have hr : readB p r = true := readB_iff.2 ⟨⟨d1, d2⟩, b1, b2⟩
  have ha : askB p r a b = true := askB_iff.2 ⟨⟨⟨d1, d2⟩, b1, b2⟩, f1, f2, f3⟩
  refine ⟨errN_ok hr, errN_ok ha, ?_, ?_, ?_, ?_⟩
  · simp only [trueA, hr, if_true, loT]; omega
  · simp only [trueB, hr, if_true, hiT]; omega
  · rw [sureB, ha, Bool.true_and, loT, hiT]; simp only [Bool.and_eq_true, decide_eq_true_eq]; omega
  · rw [mayB, ha, Bool.true_and, loT, hiT]; simp only [decide_eq_true_eq]; omega
set_option maxRecDepth 100000 in
set_option maxHeartbeats 2000000 in
theorem clockTwo_good (t p q r v a b : Int) (w : World) (a1 : 0 ≤ t) (a2 : t < 1000000000) (b1 : 0 ≤ r) (b2 : r ≤ 10000) (c1 : 0 ≤ v) (c2 : v ≤ 10000) (d1 : 0 ≤ p) (d2 : p < 1000000000) (e1 : 0 ≤ q) (e2 : q < 1000000000) (f1 : 0 ≤ a) (f2 : a ≤ b) (f3 : b ≤ 1000000000)
    (h1 : t - r ≤ p) (h2 : p ≤ t + r) (h3 : t - v ≤ q) (h4 : q ≤ t + v) :
    Calls Try.prog 8 #[.int .i64 t, .int .i64 p, .int .i64 q, .int .i64 r, .int .i64 v, .agg #[.int .i64 a, .int .i64 b]] w fun e w' => e = .returned (.bool true) ∧ Below w.heap.size w w' := by
  obtain ⟨u1, u2, u3, u4, u5, -⟩ := twoFacts t p r a b a1 a2 b1 b2 d1 d2 f1 f2 f3 h1 h2
  obtain ⟨y1, y2, y3, y4, -, y5⟩ := twoFacts t q v a b a1 a2 c1 c2 e1 e2 f1 f2 f3 h3 h4
  have t1 := time_true a1 a2
  have t2 := errB_iff.2 ⟨b1, b2⟩
  have t3 := errB_iff.2 ⟨c1, c2⟩
  have t4 := time_true d1 d2
  have t5 := time_true e1 e2
  have t6 := perB_iff.2 ⟨f1, f2, f3⟩
  have key : ∃ x y : Bool, sureB p r a b = x ∧ mayB q v a b = y ∧ ((a ≤ t ∧ t < b ∧ x = x ∧ y = true) ∨ (t < a ∧ decide (a ≤ t) = false ∧ x = false ∧ y = y) ∨ (a ≤ t ∧ decide (t < b) = false ∧ x = false ∧ y = y)) := by
    refine ⟨_, _, rfl, rfl, ?_⟩
    by_cases o1 : a ≤ t
    · by_cases o2 : t < b
      · exact .inl ⟨o1, o2, rfl, y5 o1 o2⟩
      · exact .inr (.inr ⟨o1, by simpa using o2, Bool.eq_false_iff.2 fun h => o2 (u5 h).2, rfl⟩)
    · exact .inr (.inl ⟨by omega, by simpa using o1, Bool.eq_false_iff.2 fun h => o1 (u5 h).1, rfl⟩)
  clear u5 y5
  have z1 : decide (p < t - r) = false := by simp; omega
  have z2 : decide (t + r < p) = false := by simp; omega
  have z3 : decide (q < t - v) = false := by simp; omega
  have z4 : decide (t + v < q) = false := by simp; omega
  obtain ⟨x, y, hx, hy, hc⟩ := key
  generalize hA : trueA p r = A at *
  generalize hB : trueB p r = B at *
  generalize hC : trueA q v = C at *
  generalize hD : trueB q v = D at *
  rcases hc with ⟨o1, o2, -, rfl⟩ | ⟨o1, o2, rfl, -⟩ | ⟨o1, o2, rfl, -⟩
  all_goals
    go_enter Try.func8, Try.ntmps8
    go_wp2_with fail
    refine (head34 _).mono ?_; rintro e w1 ⟨rfl, hbw1⟩
    have hsw1 := hbw1.size; (try simp only [World.size_alloc, World.heap_drewN, World.size_setCell, heap_drew] at hsw1)
    have gw1 : Below w.heap.size w w1 := (by (repeat (first | exact Below.refl _ _ | exact Nat.le_refl _ | assumption | exact And.right (by assumption) | refine Below.drew ?_ | refine below_drewN ?_ _ | refine Below.alloc ?_ ?_ _ | refine Below.setCell ?_ ?_ _ | refine Below.trans ?_ (Below.mono (by assumption) ?_) | exact Below.size (And.right (by assumption)) | (focus omega) | (focus (simp; done)) | (focus (simp; omega)) | (focus (simp at *; omega)))))
    have kw1x0x0 := keepc hbw1 (b := w.heap.size) (o := 0) (by first | omega | (simp; done) | (simp; omega)) (by go_simp; rfl)
    have kw1x0x1 := keepc hbw1 (b := w.heap.size) (o := 1) (by first | omega | (simp; done) | (simp; omega)) (by go_simp; rfl)
    have zw1x0 : w.heap.size < w1.heap.size := by omega
    clear hbw1
    go_wp2_with (first | (go_at_call 16; refine (rTime_any _ _).mono ?_; rintro e wx ⟨rfl, rfl⟩) | (go_at_call 17; refine (rError_any _ _).mono ?_; rintro e wx ⟨rfl, rfl⟩))
    refine (rPeriod_any _ _ _).mono ?_; rintro e w2 ⟨rfl, hbw2⟩
    have hsw2 := hbw2.size; (try simp only [World.size_alloc, World.heap_drewN, World.size_setCell, heap_drew] at hsw2)
    have gw2 : Below w.heap.size w w2 := (by (repeat (first | exact Below.refl _ _ | exact Nat.le_refl _ | assumption | exact And.right (by assumption) | refine Below.drew ?_ | refine below_drewN ?_ _ | refine Below.alloc ?_ ?_ _ | refine Below.setCell ?_ ?_ _ | refine Below.trans ?_ (Below.mono (by assumption) ?_) | exact Below.size (And.right (by assumption)) | (focus omega) | (focus (simp; done)) | (focus (simp; omega)) | (focus (simp at *; omega)))))
    have kw2x0x0 := keepc hbw2 (b := w.heap.size) (o := 0) (by first | omega | (simp; done) | (simp; omega)) (by go_simp; rfl)
    have kw2x0x1 := keepc hbw2 (b := w.heap.size) (o := 1) (by first | omega | (simp; done) | (simp; omega)) (by go_simp; rfl)
    have zw2x0 : w.heap.size < w2.heap.size := by omega
    clear hbw2
    clear gw1
    clear kw1x0x0
    clear kw1x0x1
    go_wp2_with fail
    refine (clockTrue_any _ _ _).mono ?_; rintro e w3 ⟨rfl, hbw3⟩
    have hsw3 := hbw3.size; (try simp only [World.size_alloc, World.heap_drewN, World.size_setCell, heap_drew] at hsw3)
    have gw3 : Below w.heap.size w w3 := (by (repeat (first | exact Below.refl _ _ | exact Nat.le_refl _ | assumption | exact And.right (by assumption) | refine Below.drew ?_ | refine below_drewN ?_ _ | refine Below.alloc ?_ ?_ _ | refine Below.setCell ?_ ?_ _ | refine Below.trans ?_ (Below.mono (by assumption) ?_) | exact Below.size (And.right (by assumption)) | (focus omega) | (focus (simp; done)) | (focus (simp; omega)) | (focus (simp at *; omega)))))
    have kw3x0x0 := keepc hbw3 (b := w.heap.size) (o := 0) (by first | omega | (simp; done) | (simp; omega)) (by go_simp; rfl)
    have kw3x0x1 := keepc hbw3 (b := w.heap.size) (o := 1) (by first | omega | (simp; done) | (simp; omega)) (by go_simp; rfl)
    have zw3x0 : w.heap.size < w3.heap.size := by omega
    clear hbw3
    clear gw2
    clear kw2x0x0
    clear kw2x0x1
    go_wp2_with fail
    refine (clockTrue_any _ _ _).mono ?_; rintro e w4 ⟨rfl, hbw4⟩
    have hsw4 := hbw4.size; (try simp only [World.size_alloc, World.heap_drewN, World.size_setCell, heap_drew] at hsw4)
    have gw4 : Below w.heap.size w w4 := (by (repeat (first | exact Below.refl _ _ | exact Nat.le_refl _ | assumption | exact And.right (by assumption) | refine Below.drew ?_ | refine below_drewN ?_ _ | refine Below.alloc ?_ ?_ _ | refine Below.setCell ?_ ?_ _ | refine Below.trans ?_ (Below.mono (by assumption) ?_) | exact Below.size (And.right (by assumption)) | (focus omega) | (focus (simp; done)) | (focus (simp; omega)) | (focus (simp at *; omega)))))
    have kw4x0x0 := keepc hbw4 (b := w.heap.size) (o := 0) (by first | omega | (simp; done) | (simp; omega)) (by go_simp; rfl)
    have kw4x0x1 := keepc hbw4 (b := w.heap.size) (o := 1) (by first | omega | (simp; done) | (simp; omega)) (by go_simp; rfl)
    have zw4x0 : w.heap.size < w4.heap.size := by omega
    have kw4x1x0 := keepc hbw4 (b := w3.heap.size) (o := 0) (by first | omega | (simp; done) | (simp; omega)) (by go_simp; rfl)
    have kw4x1x1 := keepc hbw4 (b := w3.heap.size) (o := 1) (by first | omega | (simp; done) | (simp; omega)) (by go_simp; rfl)
    have zw4x1 : w3.heap.size < w4.heap.size := by omega
    clear hbw4
    clear gw3
    clear kw3x0x0
    clear kw3x0x1
    go_wp2_with fail
    refine (clockSurely_any _ _ _ _ _).mono ?_; rintro e w5 ⟨rfl, hbw5⟩
    have hsw5 := hbw5.size; (try simp only [World.size_alloc, World.heap_drewN, World.size_setCell, heap_drew] at hsw5)
    have gw5 : Below w.heap.size w w5 := (by (repeat (first | exact Below.refl _ _ | exact Nat.le_refl _ | assumption | exact And.right (by assumption) | refine Below.drew ?_ | refine below_drewN ?_ _ | refine Below.alloc ?_ ?_ _ | refine Below.setCell ?_ ?_ _ | refine Below.trans ?_ (Below.mono (by assumption) ?_) | exact Below.size (And.right (by assumption)) | (focus omega) | (focus (simp; done)) | (focus (simp; omega)) | (focus (simp at *; omega)))))
    have kw5x0x0 := keepc hbw5 (b := w.heap.size) (o := 0) (by first | omega | (simp; done) | (simp; omega)) (by go_simp; rfl)
    have kw5x0x1 := keepc hbw5 (b := w.heap.size) (o := 1) (by first | omega | (simp; done) | (simp; omega)) (by go_simp; rfl)
    have zw5x0 : w.heap.size < w5.heap.size := by omega
    have kw5x1x0 := keepc hbw5 (b := w3.heap.size) (o := 0) (by first | omega | (simp; done) | (simp; omega)) (by go_simp; rfl)
    have kw5x1x1 := keepc hbw5 (b := w3.heap.size) (o := 1) (by first | omega | (simp; done) | (simp; omega)) (by go_simp; rfl)
    have zw5x1 : w3.heap.size < w5.heap.size := by omega
    have kw5x2x0 := keepc hbw5 (b := w4.heap.size) (o := 0) (by first | omega | (simp; done) | (simp; omega)) (by go_simp; rfl)
    have kw5x2x1 := keepc hbw5 (b := w4.heap.size) (o := 1) (by first | omega | (simp; done) | (simp; omega)) (by go_simp; rfl)
    have zw5x2 : w4.heap.size < w5.heap.size := by omega
    clear hbw5
    clear gw4
    clear kw4x0x0
    clear kw4x0x1
    clear kw4x1x0
    clear kw4x1x1
    go_wp2_with fail
    refine (clockMaybe_any _ _ _ _ _).mono ?_; rintro e w6 ⟨rfl, hbw6⟩
    have hsw6 := hbw6.size; (try simp only [World.size_alloc, World.heap_drewN, World.size_setCell, heap_drew] at hsw6)
    have gw6 : Below w.heap.size w w6 := (by (repeat (first | exact Below.refl _ _ | exact Nat.le_refl _ | assumption | exact And.right (by assumption) | refine Below.drew ?_ | refine below_drewN ?_ _ | refine Below.alloc ?_ ?_ _ | refine Below.setCell ?_ ?_ _ | refine Below.trans ?_ (Below.mono (by assumption) ?_) | exact Below.size (And.right (by assumption)) | (focus omega) | (focus (simp; done)) | (focus (simp; omega)) | (focus (simp at *; omega)))))
    have kw6x0x0 := keepc hbw6 (b := w.heap.size) (o := 0) (by first | omega | (simp; done) | (simp; omega)) (by go_simp; rfl)
    have kw6x0x1 := keepc hbw6 (b := w.heap.size) (o := 1) (by first | omega | (simp; done) | (simp; omega)) (by go_simp; rfl)
    have zw6x0 : w.heap.size < w6.heap.size := by omega
    have kw6x1x0 := keepc hbw6 (b := w3.heap.size) (o := 0) (by first | omega | (simp; done) | (simp; omega)) (by go_simp; rfl)
    have kw6x1x1 := keepc hbw6 (b := w3.heap.size) (o := 1) (by first | omega | (simp; done) | (simp; omega)) (by go_simp; rfl)
    have zw6x1 : w3.heap.size < w6.heap.size := by omega
    have kw6x2x0 := keepc hbw6 (b := w4.heap.size) (o := 0) (by first | omega | (simp; done) | (simp; omega)) (by go_simp; rfl)
    have kw6x2x1 := keepc hbw6 (b := w4.heap.size) (o := 1) (by first | omega | (simp; done) | (simp; omega)) (by go_simp; rfl)
    have zw6x2 : w4.heap.size < w6.heap.size := by omega
    clear hbw6
    clear gw5
    clear kw5x0x0
    clear kw5x0x1
    clear kw5x1x0
    clear kw5x1x1
    clear kw5x2x0
    clear kw5x2x1
    go_wp2_with fail
    go_region_held3 (fun W => (∀ b o, b < w6.heap.size → W.cell? ⟨b, o, none⟩ = w6.cell? ⟨b, o, none⟩) ∧ Below w6.heap.size w6 W) (first | (refine ext_mk ?_; (repeat (first | exact Below.refl _ _ | exact Nat.le_refl _ | assumption | exact And.right (by assumption) | refine Below.drew ?_ | refine below_drewN ?_ _ | refine Below.alloc ?_ ?_ _ | refine Below.setCell ?_ ?_ _ | refine Below.trans ?_ (Below.mono (by assumption) ?_) | exact Below.size (And.right (by assumption)) | (focus omega) | (focus (simp; done)) | (focus (simp; omega)) | (focus (simp at *; omega)))))) (fail)
    all_goals
      go_wp2_with fail
      all_goals
        go_ret
        exact ⟨ret_bool (by simp [*]), gw6.trans (Below.mono (And.right (by assumption)) (by omega))⟩
theorem clockTwo_walk (t p q r v a b : Int) (w : World) (_ : (Lit.int .i64 t).wf = true) (_ : (Lit.int .i64 p).wf = true) (_ : (Lit.int .i64 q).wf = true) (_ : (Lit.int .i64 r).wf = true) (_ : (Lit.int .i64 v).wf = true) (_ : (Lit.int .i64 a).wf = true) (_ : (Lit.int .i64 b).wf = true) :
    Calls Try.prog 8 #[.int .i64 t, .int .i64 p, .int .i64 q, .int .i64 r, .int .i64 v, .agg #[.int .i64 a, .int .i64 b]] w fun e w' => e = .returned (.bool true) ∧ Below w.heap.size w w' := by
  cases h : (timeB t && errB r && errB v && timeB p && timeB q && perB a b)
  · exact clockTwo_bad t p q r v a b w h
  · simp only [Bool.and_eq_true, timeB_iff, errB_iff, perB_iff] at h
    obtain ⟨⟨⟨⟨⟨a1, b1⟩, c1⟩, d1⟩, e1⟩, f1⟩ := h
    by_cases h1 : p < t - r
    · exact clockTwo_far t p q r v a b w a1.1 a1.2 b1.1 b1.2 c1.1 c1.2 d1.1 d1.2 e1.1 e1.2 f1.1 f1.2.1 f1.2.2 (.inl h1)
    · by_cases h2 : t + r < p
      · exact clockTwo_far t p q r v a b w a1.1 a1.2 b1.1 b1.2 c1.1 c1.2 d1.1 d1.2 e1.1 e1.2 f1.1 f1.2.1 f1.2.2 (.inr (.inl ⟨by simpa using h1, h2⟩))
      · by_cases h3 : q < t - v
        · exact clockTwo_far t p q r v a b w a1.1 a1.2 b1.1 b1.2 c1.1 c1.2 d1.1 d1.2 e1.1 e1.2 f1.1 f1.2.1 f1.2.2 (.inr (.inr (.inl ⟨by simpa using h1, by simpa using h2, h3⟩)))
        · by_cases h4 : t + v < q
          · exact clockTwo_far t p q r v a b w a1.1 a1.2 b1.1 b1.2 c1.1 c1.2 d1.1 d1.2 e1.1 e1.2 f1.1 f1.2.1 f1.2.2 (.inr (.inr (.inr ⟨by simpa using h1, by simpa using h2, by simpa using h3, h4⟩)))
          · exact clockTwo_good t p q r v a b w a1.1 a1.2 b1.1 b1.2 c1.1 c1.2 d1.1 d1.2 e1.1 e1.2 f1.1 f1.2.1 f1.2.2 (by omega) (by omega) (by omega) (by omega)
end Go.Proofs.Ytbomoiecojdicaa

/- The walks of ClockWider and ClockTwo: for any numbers the law's function returns true. -/
import Derived.Test.YtbomoiecojdicaaClkL3
namespace Go.Proofs.Ytbomoiecojdicaa
set_option linter.unusedSimpArgs false
set_option linter.unusedVariables false
open Go.RowKit
theorem clockSurely_walk (s r a b : Int) (w : World) (_ : (Lit.int .i64 s).wf = true) (_ : (Lit.int .i64 r).wf = true) (_ : (Lit.int .i64 a).wf = true) (_ : (Lit.int .i64 b).wf = true) :
    Calls Try.prog 5 #[.int .i64 s, .int .i64 r, .agg #[.int .i64 a, .int .i64 b]] w fun e w' => e = .returned (.bool true) ∧ Below w.heap.size w w' := by
  cases h : askB s r a b
  · exact clockSurely_bad s r a b w h
  · obtain ⟨⟨⟨h1, h2⟩, h3, h4⟩, h5, h6, h7⟩ := askB_iff.1 h
    exact clockSurely_good s r a b w h1 h2 h3 h4 h5 h6 h7
theorem and4F {a b c d : Bool} (h : (a && b && c && d) = false) : a = false ∨ (a = true ∧ b = false) ∨ (a = true ∧ b = true ∧ c = false) ∨ (a = true ∧ b = true ∧ c = true ∧ d = false) := by cases a <;> cases b <;> cases c <;> simp_all
set_option maxHeartbeats 1000000 in
theorem clockWider_bad (s r m a b : Int) (w : World) (hm : 0 ≤ m) (hm' : m ≤ 65535) (hr1 : -9223372036854775808 ≤ r) (hr2 : r ≤ 9223372036854775807) (h : (timeB s && errB r && errB (r + m) && perB a b) = false) :
    Calls Try.prog 6 #[.int .i64 s, .int .i64 r, .int .u16 m, .agg #[.int .i64 a, .int .i64 b]] w fun e w' => e = .returned (.bool true) ∧ Below w.heap.size w w' := by
  rcases and4F h with h1 | ⟨h1, h2⟩ | ⟨h1, h2, h3⟩ | ⟨h1, h2, h3, h4⟩
  · have H_h := Lib.hid h; clear h
    go_enter Try.func6, Try.ntmps6
    go_wp2_with fail
    refine (head34 _).mono ?_; rintro e w1 ⟨rfl, hbw1⟩
    have hsw1 := hbw1.size; (try simp only [World.size_alloc, World.heap_drewN, World.size_setCell, heap_drew] at hsw1)
    have gw1 : Below w.heap.size w w1 := (by (repeat (first | exact Below.refl _ _ | exact Nat.le_refl _ | assumption | exact And.right (by assumption) | refine Below.drew ?_ | refine below_drewN ?_ _ | refine Below.alloc ?_ ?_ _ | refine Below.setCell ?_ ?_ _ | refine Below.trans ?_ (Below.mono (by assumption) ?_) | exact Below.size (And.right (by assumption)) | (focus omega) | (focus (simp; done)) | (focus (simp; omega)) | (focus (simp at *; omega)))))
    have kw1x0x0 := keepc hbw1 (b := w.heap.size) (o := 0) (by first | omega | (simp; done) | (simp; omega)) (by go_simp; rfl)
    have kw1x0x1 := keepc hbw1 (b := w.heap.size) (o := 1) (by first | omega | (simp; done) | (simp; omega)) (by go_simp; rfl)
    have zw1x0 : w.heap.size < w1.heap.size := by omega
    clear hbw1
    go_wp2_with (first | (go_at_call 16; refine (rTime_any _ _).mono ?_; rintro e wx ⟨rfl, rfl⟩) | (go_at_call 17; refine (rError_any _ _).mono ?_; rintro e wx ⟨rfl, rfl⟩) | (go_at_call 19; refine (rPeriod_any _ _ _).mono ?_; rintro e wx ⟨rfl, hbx⟩))
    go_ret
    exact ⟨rfl, (by (repeat (first | exact Below.refl _ _ | exact Nat.le_refl _ | assumption | exact And.right (by assumption) | refine Below.drew ?_ | refine below_drewN ?_ _ | refine Below.alloc ?_ ?_ _ | refine Below.setCell ?_ ?_ _ | refine Below.trans ?_ (Below.mono (by assumption) ?_) | exact Below.size (And.right (by assumption)) | (focus omega) | (focus (simp; done)) | (focus (simp; omega)) | (focus (simp at *; omega)))))⟩
  · have H_h := Lib.hid h; clear h
    go_enter Try.func6, Try.ntmps6
    go_wp2_with fail
    refine (head34 _).mono ?_; rintro e w1 ⟨rfl, hbw1⟩
    have hsw1 := hbw1.size; (try simp only [World.size_alloc, World.heap_drewN, World.size_setCell, heap_drew] at hsw1)
    have gw1 : Below w.heap.size w w1 := (by (repeat (first | exact Below.refl _ _ | exact Nat.le_refl _ | assumption | exact And.right (by assumption) | refine Below.drew ?_ | refine below_drewN ?_ _ | refine Below.alloc ?_ ?_ _ | refine Below.setCell ?_ ?_ _ | refine Below.trans ?_ (Below.mono (by assumption) ?_) | exact Below.size (And.right (by assumption)) | (focus omega) | (focus (simp; done)) | (focus (simp; omega)) | (focus (simp at *; omega)))))
    have kw1x0x0 := keepc hbw1 (b := w.heap.size) (o := 0) (by first | omega | (simp; done) | (simp; omega)) (by go_simp; rfl)
    have kw1x0x1 := keepc hbw1 (b := w.heap.size) (o := 1) (by first | omega | (simp; done) | (simp; omega)) (by go_simp; rfl)
    have zw1x0 : w.heap.size < w1.heap.size := by omega
    clear hbw1
    go_wp2_with (first | (go_at_call 16; refine (rTime_any _ _).mono ?_; rintro e wx ⟨rfl, rfl⟩) | (go_at_call 17; refine (rError_any _ _).mono ?_; rintro e wx ⟨rfl, rfl⟩) | (go_at_call 19; refine (rPeriod_any _ _ _).mono ?_; rintro e wx ⟨rfl, hbx⟩))
    go_ret
    exact ⟨rfl, (by (repeat (first | exact Below.refl _ _ | exact Nat.le_refl _ | assumption | exact And.right (by assumption) | refine Below.drew ?_ | refine below_drewN ?_ _ | refine Below.alloc ?_ ?_ _ | refine Below.setCell ?_ ?_ _ | refine Below.trans ?_ (Below.mono (by assumption) ?_) | exact Below.size (And.right (by assumption)) | (focus omega) | (focus (simp; done)) | (focus (simp; omega)) | (focus (simp at *; omega)))))⟩
  all_goals
    have hr := errB_iff.1 h2
    have hr3 := hr.1
    have hr4 := hr.2
    have H_h := Lib.hid h; clear h; have H_hr := Lib.hid hr; clear hr
    go_enter Try.func6, Try.ntmps6
    go_wp2_with fail
    refine (head34 _).mono ?_; rintro e w1 ⟨rfl, hbw1⟩
    have hsw1 := hbw1.size; (try simp only [World.size_alloc, World.heap_drewN, World.size_setCell, heap_drew] at hsw1)
    have gw1 : Below w.heap.size w w1 := (by (repeat (first | exact Below.refl _ _ | exact Nat.le_refl _ | assumption | exact And.right (by assumption) | refine Below.drew ?_ | refine below_drewN ?_ _ | refine Below.alloc ?_ ?_ _ | refine Below.setCell ?_ ?_ _ | refine Below.trans ?_ (Below.mono (by assumption) ?_) | exact Below.size (And.right (by assumption)) | (focus omega) | (focus (simp; done)) | (focus (simp; omega)) | (focus (simp at *; omega)))))
    have kw1x0x0 := keepc hbw1 (b := w.heap.size) (o := 0) (by first | omega | (simp; done) | (simp; omega)) (by go_simp; rfl)
    have kw1x0x1 := keepc hbw1 (b := w.heap.size) (o := 1) (by first | omega | (simp; done) | (simp; omega)) (by go_simp; rfl)
    have zw1x0 : w.heap.size < w1.heap.size := by omega
    clear hbw1
    go_wp2_with (first | (go_at_call 16; refine (rTime_any _ _).mono ?_; rintro e wx ⟨rfl, rfl⟩) | (go_at_call 17; refine (rError_any _ _).mono ?_; rintro e wx ⟨rfl, rfl⟩) | (go_at_call 19; refine (rPeriod_any _ _ _).mono ?_; rintro e wx ⟨rfl, hbx⟩))
    go_ret
    exact ⟨rfl, (by (repeat (first | exact Below.refl _ _ | exact Nat.le_refl _ | assumption | exact And.right (by assumption) | refine Below.drew ?_ | refine below_drewN ?_ _ | refine Below.alloc ?_ ?_ _ | refine Below.setCell ?_ ?_ _ | refine Below.trans ?_ (Below.mono (by assumption) ?_) | exact Below.size (And.right (by assumption)) | (focus omega) | (focus (simp; done)) | (focus (simp; omega)) | (focus (simp at *; omega)))))⟩
theorem widerFacts (s r v a b : Int) (h1 : 0 ≤ s) (h2 : s < 1000000000) (h3 : 0 ≤ r) (h4 : r ≤ v) (hv : v ≤ 10000) (h5 : 0 ≤ a) (h6 : a ≤ b) (h7 : b ≤ 1000000000) :
    errN (readB s r) = 0 ∧ errN (readB s v) = 0 ∧ errN (askB s r a b) = 0 ∧ errN (askB s v a b) = 0 ∧ trueA s v ≤ trueA s r ∧ trueB s r ≤ trueB s v ∧
    (sureB s v a b = true → sureB s r a b = true) ∧ (mayB s r a b = true → mayB s v a b = true) := by
  have hr : readB s r = true := readB_iff.2 ⟨⟨h1, h2⟩, h3, by omega⟩
  have hr' : readB s v = true := readB_iff.2 ⟨⟨h1, h2⟩, by omega, by omega⟩
  have ha : askB s r a b = true := askB_iff.2 ⟨⟨⟨h1, h2⟩, h3, by omega⟩, h5, h6, h7⟩
  have ha' : askB s v a b = true := askB_iff.2 ⟨⟨⟨h1, h2⟩, by omega, by omega⟩, h5, h6, h7⟩
  refine ⟨errN_ok hr, errN_ok hr', errN_ok ha, errN_ok ha', ?_, ?_, ?_, ?_⟩
  · simp only [trueA, hr, hr', if_true, loT]; omega
  · simp only [trueB, hr, hr', if_true, hiT]; omega
  · rw [sureB, sureB, ha, ha', Bool.true_and, Bool.true_and, loT, hiT, loT, hiT]; simp only [Bool.and_eq_true, decide_eq_true_eq]; omega
  · rw [mayB, mayB, ha, ha', Bool.true_and, Bool.true_and, loT, hiT, loT, hiT]; simp only [decide_eq_true_eq]; omega
theorem imp_cases {x y : Bool} (h : x = true → y = true) : (x = false ∧ y = y) ∨ (x = true ∧ y = true) := by revert h; cases x <;> simp
set_option maxHeartbeats 1000000 in
theorem clockWider_good (s r m a b : Int) (w : World) (hm : 0 ≤ m) (hm' : m ≤ 65535) (h1 : 0 ≤ s) (h2 : s < 1000000000) (h3 : 0 ≤ r) (h4 : r ≤ 10000) (hv : r + m ≤ 10000) (h5 : 0 ≤ a) (h6 : a ≤ b) (h7 : b ≤ 1000000000) :
    Calls Try.prog 6 #[.int .i64 s, .int .i64 r, .int .u16 m, .agg #[.int .i64 a, .int .i64 b]] w fun e w' => e = .returned (.bool true) ∧ Below w.heap.size w w' := by
  obtain ⟨e1, e2, e3, e4, l1, l2, q1, q2⟩ := widerFacts s r (r + m) a b h1 h2 h3 (by omega) hv h5 h6 h7
  have t1 := time_true h1 h2
  have t2 := errB_iff.2 ⟨h3, h4⟩
  have t4 := errB_iff.2 (⟨by omega, hv⟩ : 0 ≤ r + m ∧ r + m ≤ 10000)
  have t3 := perB_iff.2 ⟨h5, h6, h7⟩
  have hc1 := imp_cases q1
  have hc2 := imp_cases q2
  clear q1 q2
  generalize hy : sureB s (r + m) a b = y at *
  generalize hx : sureB s r a b = x at *
  generalize hz : mayB s r a b = z at *
  generalize hu : mayB s (r + m) a b = u at *
  rcases hc1 with ⟨rfl, -⟩ | ⟨rfl, rfl⟩ <;> rcases hc2 with ⟨rfl, -⟩ | ⟨rfl, rfl⟩
  all_goals
    go_enter Try.func6, Try.ntmps6
    go_wp2_with fail
    refine (head34 _).mono ?_; rintro e w1 ⟨rfl, hbw1⟩
    have hsw1 := hbw1.size; (try simp only [World.size_alloc, World.heap_drewN, World.size_setCell, heap_drew] at hsw1)
    have gw1 : Below w.heap.size w w1 := (by (repeat (first | exact Below.refl _ _ | exact Nat.le_refl _ | assumption | exact And.right (by assumption) | refine Below.drew ?_ | refine below_drewN ?_ _ | refine Below.alloc ?_ ?_ _ | refine Below.setCell ?_ ?_ _ | refine Below.trans ?_ (Below.mono (by assumption) ?_) | exact Below.size (And.right (by assumption)) | (focus omega) | (focus (simp; done)) | (focus (simp; omega)) | (focus (simp at *; omega)))))
    have kw1x0x0 := keepc hbw1 (b := w.heap.size) (o := 0) (by first | omega | (simp; done) | (simp; omega)) (by go_simp; rfl)
    have kw1x0x1 := keepc hbw1 (b := w.heap.size) (o := 1) (by first | omega | (simp; done) | (simp; omega)) (by go_simp; rfl)
    have zw1x0 : w.heap.size < w1.heap.size := by omega
    clear hbw1
    go_wp2_with (first | (go_at_call 16; refine (rTime_any _ _).mono ?_; rintro e wx ⟨rfl, rfl⟩) | (go_at_call 17; refine (rError_any _ _).mono ?_; rintro e wx ⟨rfl, rfl⟩))
    refine (rPeriod_any _ _ _).mono ?_; rintro e w2 ⟨rfl, hbw2⟩
    have hsw2 := hbw2.size; (try simp only [World.size_alloc, World.heap_drewN, World.size_setCell, heap_drew] at hsw2)
    have gw2 : Below w.heap.size w w2 := (by (repeat (first | exact Below.refl _ _ | exact Nat.le_refl _ | assumption | exact And.right (by assumption) | refine Below.drew ?_ | refine below_drewN ?_ _ | refine Below.alloc ?_ ?_ _ | refine Below.setCell ?_ ?_ _ | refine Below.trans ?_ (Below.mono (by assumption) ?_) | exact Below.size (And.right (by assumption)) | (focus omega) | (focus (simp; done)) | (focus (simp; omega)) | (focus (simp at *; omega)))))
    have kw2x0x0 := keepc hbw2 (b := w.heap.size) (o := 0) (by first | omega | (simp; done) | (simp; omega)) (by go_simp; rfl)
    have kw2x0x1 := keepc hbw2 (b := w.heap.size) (o := 1) (by first | omega | (simp; done) | (simp; omega)) (by go_simp; rfl)
    have zw2x0 : w.heap.size < w2.heap.size := by omega
    clear hbw2
    clear gw1
    clear kw1x0x0
    clear kw1x0x1
    go_wp2_with fail
    refine (clockTrue_any _ _ _).mono ?_; rintro e w3 ⟨rfl, hbw3⟩
    have hsw3 := hbw3.size; (try simp only [World.size_alloc, World.heap_drewN, World.size_setCell, heap_drew] at hsw3)
    have gw3 : Below w.heap.size w w3 := (by (repeat (first | exact Below.refl _ _ | exact Nat.le_refl _ | assumption | exact And.right (by assumption) | refine Below.drew ?_ | refine below_drewN ?_ _ | refine Below.alloc ?_ ?_ _ | refine Below.setCell ?_ ?_ _ | refine Below.trans ?_ (Below.mono (by assumption) ?_) | exact Below.size (And.right (by assumption)) | (focus omega) | (focus (simp; done)) | (focus (simp; omega)) | (focus (simp at *; omega)))))
    have kw3x0x0 := keepc hbw3 (b := w.heap.size) (o := 0) (by first | omega | (simp; done) | (simp; omega)) (by go_simp; rfl)
    have kw3x0x1 := keepc hbw3 (b := w.heap.size) (o := 1) (by first | omega | (simp; done) | (simp; omega)) (by go_simp; rfl)
    have zw3x0 : w.heap.size < w3.heap.size := by omega
    clear hbw3
    clear gw2
    clear kw2x0x0
    clear kw2x0x1
    go_wp2_with fail
    refine (clockTrue_any _ _ _).mono ?_; rintro e w4 ⟨rfl, hbw4⟩
    have hsw4 := hbw4.size; (try simp only [World.size_alloc, World.heap_drewN, World.size_setCell, heap_drew] at hsw4)
    have gw4 : Below w.heap.size w w4 := (by (repeat (first | exact Below.refl _ _ | exact Nat.le_refl _ | assumption | exact And.right (by assumption) | refine Below.drew ?_ | refine below_drewN ?_ _ | refine Below.alloc ?_ ?_ _ | refine Below.setCell ?_ ?_ _ | refine Below.trans ?_ (Below.mono (by assumption) ?_) | exact Below.size (And.right (by assumption)) | (focus omega) | (focus (simp; done)) | (focus (simp; omega)) | (focus (simp at *; omega)))))
    have kw4x0x0 := keepc hbw4 (b := w.heap.size) (o := 0) (by first | omega | (simp; done) | (simp; omega)) (by go_simp; rfl)
    have kw4x0x1 := keepc hbw4 (b := w.heap.size) (o := 1) (by first | omega | (simp; done) | (simp; omega)) (by go_simp; rfl)
    have zw4x0 : w.heap.size < w4.heap.size := by omega
    have kw4x1x0 := keepc hbw4 (b := w3.heap.size) (o := 0) (by first | omega | (simp; done) | (simp; omega)) (by go_simp; rfl)
    have kw4x1x1 := keepc hbw4 (b := w3.heap.size) (o := 1) (by first | omega | (simp; done) | (simp; omega)) (by go_simp; rfl)
    have zw4x1 : w3.heap.size < w4.heap.size := by omega
    clear hbw4
    clear gw3
    clear kw3x0x0
    clear kw3x0x1
    go_wp2_with fail
    refine (clockSurely_any _ _ _ _ _).mono ?_; rintro e w5 ⟨rfl, hbw5⟩
    have hsw5 := hbw5.size; (try simp only [World.size_alloc, World.heap_drewN, World.size_setCell, heap_drew] at hsw5)
    have gw5 : Below w.heap.size w w5 := (by (repeat (first | exact Below.refl _ _ | exact Nat.le_refl _ | assumption | exact And.right (by assumption) | refine Below.drew ?_ | refine below_drewN ?_ _ | refine Below.alloc ?_ ?_ _ | refine Below.setCell ?_ ?_ _ | refine Below.trans ?_ (Below.mono (by assumption) ?_) | exact Below.size (And.right (by assumption)) | (focus omega) | (focus (simp; done)) | (focus (simp; omega)) | (focus (simp at *; omega)))))
    have kw5x0x0 := keepc hbw5 (b := w.heap.size) (o := 0) (by first | omega | (simp; done) | (simp; omega)) (by go_simp; rfl)
    have kw5x0x1 := keepc hbw5 (b := w.heap.size) (o := 1) (by first | omega | (simp; done) | (simp; omega)) (by go_simp; rfl)
    have zw5x0 : w.heap.size < w5.heap.size := by omega
    have kw5x1x0 := keepc hbw5 (b := w3.heap.size) (o := 0) (by first | omega | (simp; done) | (simp; omega)) (by go_simp; rfl)
    have kw5x1x1 := keepc hbw5 (b := w3.heap.size) (o := 1) (by first | omega | (simp; done) | (simp; omega)) (by go_simp; rfl)
    have zw5x1 : w3.heap.size < w5.heap.size := by omega
    have kw5x2x0 := keepc hbw5 (b := w4.heap.size) (o := 0) (by first | omega | (simp; done) | (simp; omega)) (by go_simp; rfl)
    have kw5x2x1 := keepc hbw5 (b := w4.heap.size) (o := 1) (by first | omega | (simp; done) | (simp; omega)) (by go_simp; rfl)
    have zw5x2 : w4.heap.size < w5.heap.size := by omega
    clear hbw5
    clear gw4
    clear kw4x0x0
    clear kw4x0x1
    clear kw4x1x0
    clear kw4x1x1
    go_wp2_with fail
    refine (clockSurely_any _ _ _ _ _).mono ?_; rintro e w6 ⟨rfl, hbw6⟩
    have hsw6 := hbw6.size; (try simp only [World.size_alloc, World.heap_drewN, World.size_setCell, heap_drew] at hsw6)
    have gw6 : Below w.heap.size w w6 := (by (repeat (first | exact Below.refl _ _ | exact Nat.le_refl _ | assumption | exact And.right (by assumption) | refine Below.drew ?_ | refine below_drewN ?_ _ | refine Below.alloc ?_ ?_ _ | refine Below.setCell ?_ ?_ _ | refine Below.trans ?_ (Below.mono (by assumption) ?_) | exact Below.size (And.right (by assumption)) | (focus omega) | (focus (simp; done)) | (focus (simp; omega)) | (focus (simp at *; omega)))))
    have kw6x0x0 := keepc hbw6 (b := w.heap.size) (o := 0) (by first | omega | (simp; done) | (simp; omega)) (by go_simp; rfl)
    have kw6x0x1 := keepc hbw6 (b := w.heap.size) (o := 1) (by first | omega | (simp; done) | (simp; omega)) (by go_simp; rfl)
    have zw6x0 : w.heap.size < w6.heap.size := by omega
    have kw6x1x0 := keepc hbw6 (b := w3.heap.size) (o := 0) (by first | omega | (simp; done) | (simp; omega)) (by go_simp; rfl)
    have kw6x1x1 := keepc hbw6 (b := w3.heap.size) (o := 1) (by first | omega | (simp; done) | (simp; omega)) (by go_simp; rfl)
    have zw6x1 : w3.heap.size < w6.heap.size := by omega
    have kw6x2x0 := keepc hbw6 (b := w4.heap.size) (o := 0) (by first | omega | (simp; done) | (simp; omega)) (by go_simp; rfl)
    have kw6x2x1 := keepc hbw6 (b := w4.heap.size) (o := 1) (by first | omega | (simp; done) | (simp; omega)) (by go_simp; rfl)
    have zw6x2 : w4.heap.size < w6.heap.size := by omega
    clear hbw6
    clear gw5
    clear kw5x0x0
    clear kw5x0x1
    clear kw5x1x0
    clear kw5x1x1
    clear kw5x2x0
    clear kw5x2x1
    go_wp2_with fail
    refine (clockMaybe_any _ _ _ _ _).mono ?_; rintro e w7 ⟨rfl, hbw7⟩
    have hsw7 := hbw7.size; (try simp only [World.size_alloc, World.heap_drewN, World.size_setCell, heap_drew] at hsw7)
    have gw7 : Below w.heap.size w w7 := (by (repeat (first | exact Below.refl _ _ | exact Nat.le_refl _ | assumption | exact And.right (by assumption) | refine Below.drew ?_ | refine below_drewN ?_ _ | refine Below.alloc ?_ ?_ _ | refine Below.setCell ?_ ?_ _ | refine Below.trans ?_ (Below.mono (by assumption) ?_) | exact Below.size (And.right (by assumption)) | (focus omega) | (focus (simp; done)) | (focus (simp; omega)) | (focus (simp at *; omega)))))
    have kw7x0x0 := keepc hbw7 (b := w.heap.size) (o := 0) (by first | omega | (simp; done) | (simp; omega)) (by go_simp; rfl)
    have kw7x0x1 := keepc hbw7 (b := w.heap.size) (o := 1) (by first | omega | (simp; done) | (simp; omega)) (by go_simp; rfl)
    have zw7x0 : w.heap.size < w7.heap.size := by omega
    have kw7x1x0 := keepc hbw7 (b := w3.heap.size) (o := 0) (by first | omega | (simp; done) | (simp; omega)) (by go_simp; rfl)
    have kw7x1x1 := keepc hbw7 (b := w3.heap.size) (o := 1) (by first | omega | (simp; done) | (simp; omega)) (by go_simp; rfl)
    have zw7x1 : w3.heap.size < w7.heap.size := by omega
    have kw7x2x0 := keepc hbw7 (b := w4.heap.size) (o := 0) (by first | omega | (simp; done) | (simp; omega)) (by go_simp; rfl)
    have kw7x2x1 := keepc hbw7 (b := w4.heap.size) (o := 1) (by first | omega | (simp; done) | (simp; omega)) (by go_simp; rfl)
    have zw7x2 : w4.heap.size < w7.heap.size := by omega
    clear hbw7
    clear gw6
    clear kw6x0x0
    clear kw6x0x1
    clear kw6x1x0
    clear kw6x1x1
    clear kw6x2x0
    clear kw6x2x1
    go_wp2_with fail
    refine (clockMaybe_any _ _ _ _ _).mono ?_; rintro e w8 ⟨rfl, hbw8⟩
    have hsw8 := hbw8.size; (try simp only [World.size_alloc, World.heap_drewN, World.size_setCell, heap_drew] at hsw8)
    have gw8 : Below w.heap.size w w8 := (by (repeat (first | exact Below.refl _ _ | exact Nat.le_refl _ | assumption | exact And.right (by assumption) | refine Below.drew ?_ | refine below_drewN ?_ _ | refine Below.alloc ?_ ?_ _ | refine Below.setCell ?_ ?_ _ | refine Below.trans ?_ (Below.mono (by assumption) ?_) | exact Below.size (And.right (by assumption)) | (focus omega) | (focus (simp; done)) | (focus (simp; omega)) | (focus (simp at *; omega)))))
    have kw8x0x0 := keepc hbw8 (b := w.heap.size) (o := 0) (by first | omega | (simp; done) | (simp; omega)) (by go_simp; rfl)
    have kw8x0x1 := keepc hbw8 (b := w.heap.size) (o := 1) (by first | omega | (simp; done) | (simp; omega)) (by go_simp; rfl)
    have zw8x0 : w.heap.size < w8.heap.size := by omega
    have kw8x1x0 := keepc hbw8 (b := w3.heap.size) (o := 0) (by first | omega | (simp; done) | (simp; omega)) (by go_simp; rfl)
    have kw8x1x1 := keepc hbw8 (b := w3.heap.size) (o := 1) (by first | omega | (simp; done) | (simp; omega)) (by go_simp; rfl)
    have zw8x1 : w3.heap.size < w8.heap.size := by omega
    have kw8x2x0 := keepc hbw8 (b := w4.heap.size) (o := 0) (by first | omega | (simp; done) | (simp; omega)) (by go_simp; rfl)
    have kw8x2x1 := keepc hbw8 (b := w4.heap.size) (o := 1) (by first | omega | (simp; done) | (simp; omega)) (by go_simp; rfl)
    have zw8x2 : w4.heap.size < w8.heap.size := by omega
    clear hbw8
    clear gw7
    clear kw7x0x0
    clear kw7x0x1
    clear kw7x1x0
    clear kw7x1x1
    clear kw7x2x0
    clear kw7x2x1
    go_wp2_with fail
    go_ret
    exact ⟨rfl, (by (repeat (first | exact Below.refl _ _ | exact Nat.le_refl _ | assumption | exact And.right (by assumption) | refine Below.drew ?_ | refine below_drewN ?_ _ | refine Below.alloc ?_ ?_ _ | refine Below.setCell ?_ ?_ _ | refine Below.trans ?_ (Below.mono (by assumption) ?_) | exact Below.size (And.right (by assumption)) | (focus omega) | (focus (simp; done)) | (focus (simp; omega)) | (focus (simp at *; omega)))))⟩
theorem i64_bd {r : Int} (h : (Lit.int .i64 r).wf = true) : -9223372036854775808 ≤ r ∧ r ≤ 9223372036854775807 := by
  simp [Lit.wf, IntKind.min, IntKind.max, IntKind.signed, IntKind.bits] at h; omega
theorem u16_bd {r : Int} (h : (Lit.int .u16 r).wf = true) : 0 ≤ r ∧ r ≤ 65535 := by
  simp [Lit.wf, IntKind.min, IntKind.max, IntKind.signed, IntKind.bits] at h; omega
theorem clockWider_walk (s r m a b : Int) (w : World) (_ : (Lit.int .i64 s).wf = true) (hr : (Lit.int .i64 r).wf = true) (hm : (Lit.int .u16 m).wf = true) (_ : (Lit.int .i64 a).wf = true) (_ : (Lit.int .i64 b).wf = true) :
    Calls Try.prog 6 #[.int .i64 s, .int .i64 r, .int .u16 m, .agg #[.int .i64 a, .int .i64 b]] w fun e w' => e = .returned (.bool true) ∧ Below w.heap.size w w' := by
  cases h : (timeB s && errB r && errB (r + m) && perB a b)
  · exact clockWider_bad s r m a b w (u16_bd hm).1 (u16_bd hm).2 (i64_bd hr).1 (i64_bd hr).2 h
  · simp only [Bool.and_eq_true, timeB_iff, errB_iff, perB_iff] at h
    obtain ⟨⟨⟨h1, h2⟩, h3⟩, h4⟩ := h
    exact clockWider_good s r m a b w (u16_bd hm).1 (u16_bd hm).2 h1.1 h1.2 h2.1 h2.2 h3.2 h4.1 h4.2.1 h4.2.2
end Go.Proofs.Ytbomoiecojdicaa

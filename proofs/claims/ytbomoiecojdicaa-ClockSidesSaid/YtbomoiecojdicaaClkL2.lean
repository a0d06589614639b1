/- The walks of ClockTrue and ClockSides: for any numbers the law's function returns true. -/
import Derived.Test.YtbomoiecojdicaaClkE
namespace Go.Proofs.Ytbomoiecojdicaa
set_option linter.unusedSimpArgs false
set_option linter.unusedVariables false
open Go.RowKit
theorem errN_ok {b : Bool} (h : b = true) : errN b = 0 := by rw [h]; rfl
set_option maxHeartbeats 1000000 in
theorem clockTrue_bad (s r t : Int) (w : World) (h : (timeB s && errB r && timeB t) = false) :
    Calls Try.prog 4 #[.int .i64 s, .int .i64 r, .int .i64 t] w fun e w' => e = .returned (.bool true) ∧ Below w.heap.size w w' := by
  rcases and3F h with h1 | ⟨h1, h2⟩ | ⟨h1, h2, h3⟩
  all_goals
    have H_h := Lib.hid h; clear h
    go_enter Try.func4, Try.ntmps4
    go_wp2_with fail
    refine (head34 _).mono ?_; rintro e w1 ⟨rfl, hbw1⟩
    have hsw1 := hbw1.size; (try simp only [World.size_alloc, World.heap_drewN, World.size_setCell, heap_drew] at hsw1)
    have gw1 : Below w.heap.size w w1 := (by (repeat (first | exact Below.refl _ _ | exact Nat.le_refl _ | assumption | exact And.right (by assumption) | refine Below.drew ?_ | refine below_drewN ?_ _ | refine Below.alloc ?_ ?_ _ | refine Below.setCell ?_ ?_ _ | refine Below.trans ?_ (Below.mono (by assumption) ?_) | exact Below.size (And.right (by assumption)) | (focus omega) | (focus (simp; done)) | (focus (simp; omega)) | (focus (simp at *; omega)))))
    clear hbw1
    go_wp2_with (first | (go_at_call 16; refine (rTime_any _ _).mono ?_; rintro e wx ⟨rfl, rfl⟩) | (go_at_call 17; refine (rError_any _ _).mono ?_; rintro e wx ⟨rfl, rfl⟩))
    go_ret
    exact ⟨rfl, (by (repeat (first | exact Below.refl _ _ | exact Nat.le_refl _ | assumption | exact And.right (by assumption) | refine Below.drew ?_ | refine below_drewN ?_ _ | refine Below.alloc ?_ ?_ _ | refine Below.setCell ?_ ?_ _ | refine Below.trans ?_ (Below.mono (by assumption) ?_) | exact Below.size (And.right (by assumption)) | (focus omega) | (focus (simp; done)) | (focus (simp; omega)) | (focus (simp at *; omega)))))⟩
theorem sideFacts (s r t : Int) (h1 : 0 ≤ s) (h2 : s < 1000000000) (h3 : 0 ≤ r) (h4 : r ≤ 10000) (h5 : 0 ≤ t) (h6 : t < 1000000000) :
    mayB s r t (t + 1) = (decide (s - r ≤ t) && decide (t ≤ s + r)) ∧ sureB s r t (t + 1) = ((decide (s - r ≤ t) && decide (t ≤ s + r)) && decide (trueB s r - trueA s r = 1)) ∧
    errN (readB s r) = 0 ∧ errN (askB s r t (t + 1)) = 0 ∧ 0 ≤ trueA s r ∧ trueA s r ≤ s ∧ s < trueB s r ∧ trueB s r ≤ 1000000000 ∧ (s - r ≤ t ↔ trueA s r ≤ t) ∧ (t ≤ s + r ↔ t < trueB s r) := by
  have hr : readB s r = true := readB_iff.2 ⟨⟨h1, h2⟩, h3, h4⟩
  have ha : askB s r t (t + 1) = true := askB_iff.2 ⟨⟨⟨h1, h2⟩, h3, h4⟩, h5, by omega, by omega⟩
  have el : trueA s r = max 0 (s - r) := by simp [trueA, hr, loT]
  have eh : trueB s r = min 1000000000 (s + r + 1) := by simp [trueB, hr, hiT]
  refine ⟨?_, ?_, errN_ok hr, errN_ok ha, by omega, by omega, by omega, by omega, by omega, by omega⟩
  · rw [mayB, ha, Bool.true_and, loT, hiT, Bool.eq_iff_iff]; simp only [Bool.and_eq_true, decide_eq_true_eq]; omega
  · rw [sureB, ha, Bool.true_and, loT, hiT, Bool.eq_iff_iff, el, eh]; simp only [Bool.and_eq_true, decide_eq_true_eq]; omega
theorem time_true {t : Int} (h5 : 0 ≤ t) (h6 : t < 1000000000) : timeB t = true := timeB_iff.2 ⟨h5, h6⟩
set_option maxHeartbeats 1000000 in
theorem clockTrue_good (s r t : Int) (w : World) (h1 : 0 ≤ s) (h2 : s < 1000000000) (h3 : 0 ≤ r) (h4 : r ≤ 10000) (h5 : 0 ≤ t) (h6 : t < 1000000000) :
    Calls Try.prog 4 #[.int .i64 s, .int .i64 r, .int .i64 t] w fun e w' => e = .returned (.bool true) ∧ Below w.heap.size w w' := by
  obtain ⟨em, es, e0, e1, b1, b2, b3, b4, i1, i2⟩ := sideFacts s r t h1 h2 h3 h4 h5 h6
  have t1 := time_true h1 h2
  have t2 := errB_iff.2 ⟨h3, h4⟩
  have t3 := time_true h5 h6
  have hp : perB (trueA s r) (trueB s r) = true := perB_iff.2 ⟨b1, by omega, b4⟩
  have key : (s - r ≤ t ∧ trueA s r ≤ t ∧ t ≤ s + r ∧ t < trueB s r ∧ mayB s r t (t + 1) = true ∧ sureB s r t (t + 1) = true ∧ (trueB s r - trueA s r == 1) = true) ∨
      (s - r ≤ t ∧ trueA s r ≤ t ∧ t ≤ s + r ∧ t < trueB s r ∧ mayB s r t (t + 1) = true ∧ sureB s r t (t + 1) = false ∧ (trueB s r - trueA s r == 1) = false) ∨
      (t < s - r ∧ t < trueA s r ∧ t ≤ s + r ∧ t < trueB s r ∧ mayB s r t (t + 1) = false ∧ sureB s r t (t + 1) = false ∧ (decide (s - r ≤ t) = false ∧ decide (trueA s r ≤ t) = false)) ∨
      (s - r ≤ t ∧ trueA s r ≤ t ∧ s + r < t ∧ trueB s r ≤ t ∧ mayB s r t (t + 1) = false ∧ sureB s r t (t + 1) = false ∧ (decide (t ≤ s + r) = false ∧ decide (t < trueB s r) = false)) := by
    by_cases o1 : s - r ≤ t
    · by_cases o2 : t ≤ s + r
      · by_cases o3 : trueB s r - trueA s r = 1
        · exact .inl ⟨o1, i1.1 o1, o2, i2.1 o2, by rw [em]; simp [o1, o2], by rw [es]; simp [o1, o2, o3], by simp [o3]⟩
        · exact .inr (.inl ⟨o1, i1.1 o1, o2, i2.1 o2, by rw [em]; simp [o1, o2], by rw [es]; simp [o1, o2, o3], by simp [o3]⟩)
      · exact .inr (.inr (.inr ⟨o1, i1.1 o1, by omega, by omega, by rw [em]; simp [o1, o2], by rw [es]; simp [o1, o2], by simp; omega, by simp; omega⟩))
    · exact .inr (.inr (.inl ⟨by omega, by omega, by omega, by omega, by rw [em]; simp [o1], by rw [es]; simp [o1], by simp; omega, by simp; omega⟩))
  clear em es i1 i2
  generalize hL : trueA s r = L at *
  generalize hH : trueB s r = H at *
  rcases key with ⟨c1, c2, c3, c4, c5, c6, c7⟩ | ⟨c1, c2, c3, c4, c5, c6, c7⟩ | ⟨c1, c2, c3, c4, c5, c6, c7⟩ | ⟨c1, c2, c3, c4, c5, c6, c7⟩
  all_goals
    go_enter Try.func4, Try.ntmps4
    go_wp2_with fail
    refine (head34 _).mono ?_; rintro e w1 ⟨rfl, hbw1⟩
    have hsw1 := hbw1.size; (try simp only [World.size_alloc, World.heap_drewN, World.size_setCell, heap_drew] at hsw1)
    have gw1 : Below w.heap.size w w1 := (by (repeat (first | exact Below.refl _ _ | exact Nat.le_refl _ | assumption | exact And.right (by assumption) | refine Below.drew ?_ | refine below_drewN ?_ _ | refine Below.alloc ?_ ?_ _ | refine Below.setCell ?_ ?_ _ | refine Below.trans ?_ (Below.mono (by assumption) ?_) | exact Below.size (And.right (by assumption)) | (focus omega) | (focus (simp; done)) | (focus (simp; omega)) | (focus (simp at *; omega)))))
    clear hbw1
    go_wp2_with (first | (go_at_call 16; refine (rTime_any _ _).mono ?_; rintro e wx ⟨rfl, rfl⟩) | (go_at_call 17; refine (rError_any _ _).mono ?_; rintro e wx ⟨rfl, rfl⟩))
    refine (clockTrue_any _ _ _).mono ?_; rintro e w2 ⟨rfl, hbw2⟩
    have hsw2 := hbw2.size; (try simp only [World.size_alloc, World.heap_drewN, World.size_setCell, heap_drew] at hsw2)
    have gw2 : Below w.heap.size w w2 := (by (repeat (first | exact Below.refl _ _ | exact Nat.le_refl _ | assumption | exact And.right (by assumption) | refine Below.drew ?_ | refine below_drewN ?_ _ | refine Below.alloc ?_ ?_ _ | refine Below.setCell ?_ ?_ _ | refine Below.trans ?_ (Below.mono (by assumption) ?_) | exact Below.size (And.right (by assumption)) | (focus omega) | (focus (simp; done)) | (focus (simp; omega)) | (focus (simp at *; omega)))))
    clear hbw2
    clear gw1
    go_wp2_with fail
    refine (span34_any _ _ _).mono ?_; rintro e w3 ⟨rfl, hbw3⟩
    have hsw3 := hbw3.size; (try simp only [World.size_alloc, World.heap_drewN, World.size_setCell, heap_drew] at hsw3)
    have gw3 : Below w.heap.size w w3 := (by (repeat (first | exact Below.refl _ _ | exact Nat.le_refl _ | assumption | exact And.right (by assumption) | refine Below.drew ?_ | refine below_drewN ?_ _ | refine Below.alloc ?_ ?_ _ | refine Below.setCell ?_ ?_ _ | refine Below.trans ?_ (Below.mono (by assumption) ?_) | exact Below.size (And.right (by assumption)) | (focus omega) | (focus (simp; done)) | (focus (simp; omega)) | (focus (simp at *; omega)))))
    have kw3x0x0 := keepc hbw3 (b := w2.heap.size) (o := 0) (by first | omega | (simp; done) | (simp; omega)) (by go_simp; rfl)
    have kw3x0x1 := keepc hbw3 (b := w2.heap.size) (o := 1) (by first | omega | (simp; done) | (simp; omega)) (by go_simp; rfl)
    have zw3x0 : w2.heap.size < w3.heap.size := by omega
    clear hbw3
    clear gw2
    go_wp2_with fail
    refine (clockMaybe_any _ _ _ _ _).mono ?_; rintro e w4 ⟨rfl, hbw4⟩
    have hsw4 := hbw4.size; (try simp only [World.size_alloc, World.heap_drewN, World.size_setCell, heap_drew] at hsw4)
    have gw4 : Below w.heap.size w w4 := (by (repeat (first | exact Below.refl _ _ | exact Nat.le_refl _ | assumption | exact And.right (by assumption) | refine Below.drew ?_ | refine below_drewN ?_ _ | refine Below.alloc ?_ ?_ _ | refine Below.setCell ?_ ?_ _ | refine Below.trans ?_ (Below.mono (by assumption) ?_) | exact Below.size (And.right (by assumption)) | (focus omega) | (focus (simp; done)) | (focus (simp; omega)) | (focus (simp at *; omega)))))
    have kw4x0x0 := keepc hbw4 (b := w2.heap.size) (o := 0) (by first | omega | (simp; done) | (simp; omega)) (by go_simp; rfl)
    have kw4x0x1 := keepc hbw4 (b := w2.heap.size) (o := 1) (by first | omega | (simp; done) | (simp; omega)) (by go_simp; rfl)
    have zw4x0 : w2.heap.size < w4.heap.size := by omega
    clear hbw4
    clear gw3
    clear kw3x0x0
    clear kw3x0x1
    go_wp2_with fail
    refine (span34_any _ _ _).mono ?_; rintro e w5 ⟨rfl, hbw5⟩
    have hsw5 := hbw5.size; (try simp only [World.size_alloc, World.heap_drewN, World.size_setCell, heap_drew] at hsw5)
    have gw5 : Below w.heap.size w w5 := (by (repeat (first | exact Below.refl _ _ | exact Nat.le_refl _ | assumption | exact And.right (by assumption) | refine Below.drew ?_ | refine below_drewN ?_ _ | refine Below.alloc ?_ ?_ _ | refine Below.setCell ?_ ?_ _ | refine Below.trans ?_ (Below.mono (by assumption) ?_) | exact Below.size (And.right (by assumption)) | (focus omega) | (focus (simp; done)) | (focus (simp; omega)) | (focus (simp at *; omega)))))
    have kw5x0x0 := keepc hbw5 (b := w2.heap.size) (o := 0) (by first | omega | (simp; done) | (simp; omega)) (by go_simp; rfl)
    have kw5x0x1 := keepc hbw5 (b := w2.heap.size) (o := 1) (by first | omega | (simp; done) | (simp; omega)) (by go_simp; rfl)
    have zw5x0 : w2.heap.size < w5.heap.size := by omega
    clear hbw5
    clear gw4
    clear kw4x0x0
    clear kw4x0x1
    go_wp2_with fail
    refine (clockSurely_any _ _ _ _ _).mono ?_; rintro e w6 ⟨rfl, hbw6⟩
    have hsw6 := hbw6.size; (try simp only [World.size_alloc, World.heap_drewN, World.size_setCell, heap_drew] at hsw6)
    have gw6 : Below w.heap.size w w6 := (by (repeat (first | exact Below.refl _ _ | exact Nat.le_refl _ | assumption | exact And.right (by assumption) | refine Below.drew ?_ | refine below_drewN ?_ _ | refine Below.alloc ?_ ?_ _ | refine Below.setCell ?_ ?_ _ | refine Below.trans ?_ (Below.mono (by assumption) ?_) | exact Below.size (And.right (by assumption)) | (focus omega) | (focus (simp; done)) | (focus (simp; omega)) | (focus (simp at *; omega)))))
    have kw6x0x0 := keepc hbw6 (b := w2.heap.size) (o := 0) (by first | omega | (simp; done) | (simp; omega)) (by go_simp; rfl)
    have kw6x0x1 := keepc hbw6 (b := w2.heap.size) (o := 1) (by first | omega | (simp; done) | (simp; omega)) (by go_simp; rfl)
    have zw6x0 : w2.heap.size < w6.heap.size := by omega
    clear hbw6
    clear gw5
    clear kw5x0x0
    clear kw5x0x1
    go_wp2_with fail
    refine (rPeriod_any _ _ _).mono ?_; rintro e w7 ⟨rfl, hbw7⟩
    have hsw7 := hbw7.size; (try simp only [World.size_alloc, World.heap_drewN, World.size_setCell, heap_drew] at hsw7)
    have gw7 : Below w.heap.size w w7 := (by (repeat (first | exact Below.refl _ _ | exact Nat.le_refl _ | assumption | exact And.right (by assumption) | refine Below.drew ?_ | refine below_drewN ?_ _ | refine Below.alloc ?_ ?_ _ | refine Below.setCell ?_ ?_ _ | refine Below.trans ?_ (Below.mono (by assumption) ?_) | exact Below.size (And.right (by assumption)) | (focus omega) | (focus (simp; done)) | (focus (simp; omega)) | (focus (simp at *; omega)))))
    have kw7x0x0 := keepc hbw7 (b := w2.heap.size) (o := 0) (by first | omega | (simp; done) | (simp; omega)) (by go_simp; rfl)
    have kw7x0x1 := keepc hbw7 (b := w2.heap.size) (o := 1) (by first | omega | (simp; done) | (simp; omega)) (by go_simp; rfl)
    have zw7x0 : w2.heap.size < w7.heap.size := by omega
    clear hbw7
    clear gw6
    clear kw6x0x0
    clear kw6x0x1
    go_wp2_with fail
    go_ret
    exact ⟨rfl, (by (repeat (first | exact Below.refl _ _ | exact Nat.le_refl _ | assumption | exact And.right (by assumption) | refine Below.drew ?_ | refine below_drewN ?_ _ | refine Below.alloc ?_ ?_ _ | refine Below.setCell ?_ ?_ _ | refine Below.trans ?_ (Below.mono (by assumption) ?_) | exact Below.size (And.right (by assumption)) | (focus omega) | (focus (simp; done)) | (focus (simp; omega)) | (focus (simp at *; omega)))))⟩
theorem clockTrue_walk (s r t : Int) (w : World) (_ : (Lit.int .i64 s).wf = true) (_ : (Lit.int .i64 r).wf = true) (_ : (Lit.int .i64 t).wf = true) :
    Calls Try.prog 4 #[.int .i64 s, .int .i64 r, .int .i64 t] w fun e w' => e = .returned (.bool true) ∧ Below w.heap.size w w' := by
  cases h : (timeB s && errB r && timeB t)
  · exact clockTrue_bad s r t w h
  · simp only [Bool.and_eq_true, timeB_iff, errB_iff] at h
    exact clockTrue_good s r t w h.1.1.1 h.1.1.2 h.1.2.1 h.1.2.2 h.2.1 h.2.2
end Go.Proofs.Ytbomoiecojdicaa

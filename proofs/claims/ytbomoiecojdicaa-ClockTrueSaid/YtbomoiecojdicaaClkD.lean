/- Contracts of the reference of package clock and of the law's own helpers, for any world and any numbers. -/
import Derived.Test.YtbomoiecojdicaaClkC
import Derived.BigGuardPart
namespace Go.Proofs.Ytbomoiecojdicaa
set_option linter.unusedSimpArgs false
set_option linter.unusedVariables false
open Go.RowKit

theorem rTime_any (n : Int) (w : World) : Calls Try.prog 16 #[.int .i64 n] w fun e w' => e = .returned (.bool (timeB n)) ∧ w = w' := by
  go_enter Try.func16, Try.ntmps16
  go_wp2_with fail
  all_goals
    go_ret
    exact ⟨ret_bool (by simp [timeB]; omega), rfl⟩
theorem rError_any (n : Int) (w : World) : Calls Try.prog 17 #[.int .i64 n] w fun e w' => e = .returned (.bool (errB n)) ∧ w = w' := by
  go_enter Try.func17, Try.ntmps17
  go_wp2_with fail
  all_goals
    go_ret
    exact ⟨ret_bool (by simp [errB]; omega), rfl⟩
theorem rPeriod_any (a b : Int) (w : World) : Calls Try.prog 19 #[.agg #[.int .i64 a, .int .i64 b]] w fun e w' => e = .returned (.bool (perB a b)) ∧ Below w.heap.size w w' := by
  go_enter Try.func19, Try.ntmps19
  go_wp2_with fail
  all_goals
    go_ret
    refine ⟨ret_bool ?_, (by (repeat (first | exact Below.refl _ _ | exact Nat.le_refl _ | assumption | exact And.right (by assumption) | refine Below.drew ?_ | refine below_drewN ?_ _ | refine Below.alloc ?_ ?_ _ | refine Below.setCell ?_ ?_ _ | refine Below.trans ?_ (Below.mono (by assumption) ?_) | exact Below.size (And.right (by assumption)) | (focus omega) | (focus (simp; done)) | (focus (simp; omega)) | (focus (simp at *; omega)))))⟩
    rw [Bool.eq_iff_iff]; simp [perB]; try omega
theorem rLeft_any (s r : Int) (w : World) (h1 : 0 ≤ s) (h2 : s < 1000000000) (h3 : 0 ≤ r) (h4 : r ≤ 10000) :
    Calls Try.prog 22 #[.int .i64 s, .int .i64 r] w fun e w' => e = .returned (.agg #[.int .i64 (loT s r), .int .i64 (hiT s r)]) ∧ Below w.heap.size w w' := by
  go_enter Try.func22, Try.ntmps22
  go_wp2_with fail
  all_goals
    refine bodyPost_ret (by simp [results, Try.results22, go_sem]; rfl) rfl ?_
    refine ⟨ret_agg2 ?_ ?_, (by (repeat (first | exact Below.refl _ _ | exact Nat.le_refl _ | assumption | exact And.right (by assumption) | refine Below.drew ?_ | refine below_drewN ?_ _ | refine Below.alloc ?_ ?_ _ | refine Below.setCell ?_ ?_ _ | refine Below.trans ?_ (Below.mono (by assumption) ?_) | exact Below.size (And.right (by assumption)) | (focus omega) | (focus (simp; done)) | (focus (simp; omega)) | (focus (simp at *; omega)))))⟩
    all_goals (simp only [loT, hiT]; omega)
theorem and2F {a b : Bool} (h : (a && b) = false) : a = false ∨ (a = true ∧ b = false) := by cases a <;> simp_all
theorem and3F {a b c : Bool} (h : (a && b && c) = false) : a = false ∨ (a = true ∧ b = false) ∨ (a = true ∧ b = true ∧ c = false) := by cases a <;> cases b <;> simp_all
theorem rTrue_any (s r : Int) (w : World) :
    Calls Try.prog 11 #[.int .i64 s, .int .i64 r] w fun e w' => e = .returned (.tuple #[.agg #[.int .i64 (trueA s r), .int .i64 (trueB s r)], .int .i64 (errN (readB s r))]) ∧ Below w.heap.size w w' := by
  cases hr : readB s r
  · have hq := and2F hr
    have H_hr := Lib.hid hr; clear hr
    rcases hq with h | ⟨h, h'⟩
    all_goals
      go_enter Try.func11, Try.ntmps11
      go_wp2_with (first | (go_at_call 16; refine (rTime_any _ _).mono ?_; rintro e w1 ⟨rfl, rfl⟩) | (go_at_call 17; refine (rError_any _ _).mono ?_; rintro e w1 ⟨rfl, rfl⟩))
      refine bodyPost_ret (by go_simp; simp [results, Try.results11, go_sem]; rfl) rfl ?_
      refine ⟨ret_span ?_ ?_ ?_, (by (repeat (first | exact Below.refl _ _ | exact Nat.le_refl _ | assumption | exact And.right (by assumption) | refine Below.drew ?_ | refine below_drewN ?_ _ | refine Below.alloc ?_ ?_ _ | refine Below.setCell ?_ ?_ _ | refine Below.trans ?_ (Below.mono (by assumption) ?_) | exact Below.size (And.right (by assumption)) | (focus omega) | (focus (simp; done)) | (focus (simp; omega)) | (focus (simp at *; omega)))))⟩ <;> simp [trueA, trueB, errN, H_hr.out]
  · obtain ⟨⟨h1, h2⟩, h3, h4⟩ := readB_iff.1 hr
    have ht : timeB s = true := by simp [timeB_iff, h1, h2]
    have he : errB r = true := by simp [errB_iff, h3, h4]
    have H_hr := Lib.hid hr; clear hr
    go_enter Try.func11, Try.ntmps11
    go_wp2_with (first | (go_at_call 16; refine (rTime_any _ _).mono ?_; rintro e w1 ⟨rfl, rfl⟩) | (go_at_call 17; refine (rError_any _ _).mono ?_; rintro e w1 ⟨rfl, rfl⟩))
    refine (rLeft_any s r _ h1 h2 h3 h4).mono ?_
    rintro e w1 ⟨rfl, hb1⟩
    obtain ⟨hc1, hf1⟩ := bcell hb1
    have k0 : w1.cell? ⟨w.heap.size, 0, none⟩ = some (.int .i64 0) := by rw [hb1.cell (by simp)]; go_simp
    have k1 : w1.cell? ⟨w.heap.size, 1, none⟩ = some (.int .i64 0) := by rw [hb1.cell (by simp)]; go_simp
    go_wp2_with fail
    refine bodyPost_ret (by go_simp; simp [results, Try.results11, go_sem, k0, k1]; rfl) rfl ?_
    refine ⟨ret_span ?_ ?_ ?_, (by (repeat (first | exact Below.refl _ _ | exact Nat.le_refl _ | assumption | exact And.right (by assumption) | refine Below.drew ?_ | refine below_drewN ?_ _ | refine Below.alloc ?_ ?_ _ | refine Below.setCell ?_ ?_ _ | refine Below.trans ?_ (Below.mono (by assumption) ?_) | exact Below.size (And.right (by assumption)) | (focus omega) | (focus (simp; done)) | (focus (simp; omega)) | (focus (simp at *; omega)))))⟩ <;> simp [trueA, trueB, errN, H_hr.out]
theorem rSurely_any (s r a b : Int) (w : World) :
    Calls Try.prog 13 #[.int .i64 s, .int .i64 r, .agg #[.int .i64 a, .int .i64 b]] w fun e w' => e = .returned (.tuple #[.bool (sureB s r a b), .int .i64 (errN (askB s r a b))]) ∧ Below w.heap.size w w' := by
  cases hr : askB s r a b
  · have hq := and3F hr
    have H_hr := Lib.hid hr; clear hr
    rcases hq with h | ⟨h, h'⟩ | ⟨h, h', h''⟩
    all_goals
      go_enter Try.func13, Try.ntmps13
      go_wp2_with (first | (go_at_call 16; refine (rTime_any _ _).mono ?_; rintro e w1 ⟨rfl, rfl⟩) | (go_at_call 17; refine (rError_any _ _).mono ?_; rintro e w1 ⟨rfl, rfl⟩) | (go_at_call 19; refine (rPeriod_any _ _ _).mono ?_; rintro e w1 ⟨rfl, hb1⟩; obtain ⟨hcw1, hfw1⟩ := bcell hb1; have hsw1 := hb1.size; (try simp only [World.size_alloc, World.heap_drewN, World.size_setCell, heap_drew] at hsw1); have hzw1x0 : w.heap.size < w1.heap.size := by omega))
      go_ret2
      exact ⟨ret_pair (by simp [sureB, H_hr.out]) rfl, (by (repeat (first | exact Below.refl _ _ | exact Nat.le_refl _ | assumption | exact And.right (by assumption) | refine Below.drew ?_ | refine below_drewN ?_ _ | refine Below.alloc ?_ ?_ _ | refine Below.setCell ?_ ?_ _ | refine Below.trans ?_ (Below.mono (by assumption) ?_) | exact Below.size (And.right (by assumption)) | (focus omega) | (focus (simp; done)) | (focus (simp; omega)) | (focus (simp at *; omega)))))⟩
  · obtain ⟨⟨⟨h1, h2⟩, h3, h4⟩, h5, h6, h7⟩ := askB_iff.1 hr
    have ht : timeB s = true := by simp [timeB_iff, h1, h2]
    have he : errB r = true := by simp [errB_iff, h3, h4]
    have hp : perB a b = true := by simp [perB_iff, h5, h6, h7]
    have H_hr := Lib.hid hr; clear hr
    go_enter Try.func13, Try.ntmps13
    go_wp2_with (first | (go_at_call 16; refine (rTime_any _ _).mono ?_; rintro e w1 ⟨rfl, rfl⟩) | (go_at_call 17; refine (rError_any _ _).mono ?_; rintro e w1 ⟨rfl, rfl⟩) | (go_at_call 19; refine (rPeriod_any _ _ _).mono ?_; rintro e w1 ⟨rfl, hb1⟩; obtain ⟨hcw1, hfw1⟩ := bcell hb1; have hsw1 := hb1.size; (try simp only [World.size_alloc, World.heap_drewN, World.size_setCell, heap_drew] at hsw1); have hzw1x0 : w.heap.size < w1.heap.size := by omega))
    refine (rLeft_any s r _ h1 h2 h3 h4).mono ?_
    rintro e w2 ⟨rfl, hb2⟩
    obtain ⟨hcw2, hfw2⟩ := bcell hb2; have hsw2 := hb2.size; (try simp only [World.size_alloc, World.heap_drewN, World.size_setCell, heap_drew] at hsw2); have hzw2x0 : w.heap.size < w2.heap.size := by omega
    go_wp2_with fail
    all_goals
      go_ret2
      refine ⟨ret_pair ?_ rfl, (by (repeat (first | exact Below.refl _ _ | exact Nat.le_refl _ | assumption | exact And.right (by assumption) | refine Below.drew ?_ | refine below_drewN ?_ _ | refine Below.alloc ?_ ?_ _ | refine Below.setCell ?_ ?_ _ | refine Below.trans ?_ (Below.mono (by assumption) ?_) | exact Below.size (And.right (by assumption)) | (focus omega) | (focus (simp; done)) | (focus (simp; omega)) | (focus (simp at *; omega)))))⟩
      rw [sureB, H_hr.out, Bool.true_and, Bool.eq_iff_iff]; simp; try omega
theorem rMaybe_any (s r a b : Int) (w : World) :
    Calls Try.prog 15 #[.int .i64 s, .int .i64 r, .agg #[.int .i64 a, .int .i64 b]] w fun e w' => e = .returned (.tuple #[.bool (mayB s r a b), .int .i64 (errN (askB s r a b))]) ∧ Below w.heap.size w w' := by
  cases hr : askB s r a b
  · have hq := and3F hr
    have H_hr := Lib.hid hr; clear hr
    rcases hq with h | ⟨h, h'⟩ | ⟨h, h', h''⟩
    all_goals
      go_enter Try.func15, Try.ntmps15
      go_wp2_with (first | (go_at_call 16; refine (rTime_any _ _).mono ?_; rintro e w1 ⟨rfl, rfl⟩) | (go_at_call 17; refine (rError_any _ _).mono ?_; rintro e w1 ⟨rfl, rfl⟩) | (go_at_call 19; refine (rPeriod_any _ _ _).mono ?_; rintro e w1 ⟨rfl, hb1⟩; obtain ⟨hcw1, hfw1⟩ := bcell hb1; have hsw1 := hb1.size; (try simp only [World.size_alloc, World.heap_drewN, World.size_setCell, heap_drew] at hsw1); have hzw1x0 : w.heap.size < w1.heap.size := by omega))
      go_ret2
      exact ⟨ret_pair (by simp [mayB, H_hr.out]) rfl, (by (repeat (first | exact Below.refl _ _ | exact Nat.le_refl _ | assumption | exact And.right (by assumption) | refine Below.drew ?_ | refine below_drewN ?_ _ | refine Below.alloc ?_ ?_ _ | refine Below.setCell ?_ ?_ _ | refine Below.trans ?_ (Below.mono (by assumption) ?_) | exact Below.size (And.right (by assumption)) | (focus omega) | (focus (simp; done)) | (focus (simp; omega)) | (focus (simp at *; omega)))))⟩
  · obtain ⟨⟨⟨h1, h2⟩, h3, h4⟩, h5, h6, h7⟩ := askB_iff.1 hr
    have ht : timeB s = true := by simp [timeB_iff, h1, h2]
    have he : errB r = true := by simp [errB_iff, h3, h4]
    have hp : perB a b = true := by simp [perB_iff, h5, h6, h7]
    have H_hr := Lib.hid hr; clear hr
    go_enter Try.func15, Try.ntmps15
    go_wp2_with (first | (go_at_call 16; refine (rTime_any _ _).mono ?_; rintro e w1 ⟨rfl, rfl⟩) | (go_at_call 17; refine (rError_any _ _).mono ?_; rintro e w1 ⟨rfl, rfl⟩) | (go_at_call 19; refine (rPeriod_any _ _ _).mono ?_; rintro e w1 ⟨rfl, hb1⟩; obtain ⟨hcw1, hfw1⟩ := bcell hb1; have hsw1 := hb1.size; (try simp only [World.size_alloc, World.heap_drewN, World.size_setCell, heap_drew] at hsw1); have hzw1x0 : w.heap.size < w1.heap.size := by omega))
    refine (rLeft_any s r _ h1 h2 h3 h4).mono ?_
    rintro e w2 ⟨rfl, hb2⟩
    obtain ⟨hcw2, hfw2⟩ := bcell hb2; have hsw2 := hb2.size; (try simp only [World.size_alloc, World.heap_drewN, World.size_setCell, heap_drew] at hsw2); have hzw2x0 : w.heap.size < w2.heap.size := by omega
    go_wp2_with fail
    all_goals
      go_ret2
      refine ⟨ret_pair ?_ rfl, (by (repeat (first | exact Below.refl _ _ | exact Nat.le_refl _ | assumption | exact And.right (by assumption) | refine Below.drew ?_ | refine below_drewN ?_ _ | refine Below.alloc ?_ ?_ _ | refine Below.setCell ?_ ?_ _ | refine Below.trans ?_ (Below.mono (by assumption) ?_) | exact Below.size (And.right (by assumption)) | (focus omega) | (focus (simp; done)) | (focus (simp; omega)) | (focus (simp at *; omega)))))⟩
      rw [mayB, H_hr.out, Bool.true_and, Bool.eq_iff_iff]; simp; try omega
end Go.Proofs.Ytbomoiecojdicaa

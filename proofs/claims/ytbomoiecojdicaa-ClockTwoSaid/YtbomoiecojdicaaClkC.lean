/- Contracts of the exported functions of package clock and of its reference, for any world and any numbers. -/
import Derived.Test.YtbomoiecojdicaaClkB
namespace Go.Proofs.Ytbomoiecojdicaa
set_option linter.unusedSimpArgs false
set_option linter.unusedVariables false
open Go.RowKit

def readB (s r : Int) : Bool := timeB s && errB r
def askB (s r a b : Int) : Bool := timeB s && errB r && perB a b
def trueA (s r : Int) : Int := if readB s r then loT s r else 0
def trueB (s r : Int) : Int := if readB s r then hiT s r else 0
def sureB (s r a b : Int) : Bool := askB s r a b && (decide (a ≤ loT s r) && decide (hiT s r ≤ b))
def mayB (s r a b : Int) : Bool := askB s r a b && decide (max a (loT s r) < min b (hiT s r))
def errN (b : Bool) : Int := if b then 0 else 1

theorem timeB_iff {s : Int} : timeB s = true ↔ 0 ≤ s ∧ s < 1000000000 := by simp [timeB]
theorem errB_iff {s : Int} : errB s = true ↔ 0 ≤ s ∧ s ≤ 10000 := by simp [errB]
theorem perB_iff {a b : Int} : perB a b = true ↔ 0 ≤ a ∧ a ≤ b ∧ b ≤ 1000000000 := by simp [perB]
theorem readB_iff {s r : Int} : readB s r = true ↔ (0 ≤ s ∧ s < 1000000000) ∧ 0 ≤ r ∧ r ≤ 10000 := by simp [readB, timeB_iff, errB_iff]
theorem askB_iff {s r a b : Int} : askB s r a b = true ↔ ((0 ≤ s ∧ s < 1000000000) ∧ 0 ≤ r ∧ r ≤ 10000) ∧ 0 ≤ a ∧ a ≤ b ∧ b ≤ 1000000000 := by simp [askB, timeB_iff, errB_iff, perB_iff]

theorem lo_hi (s r : Int) (h1 : 0 ≤ s) (h2 : s < 1000000000) (h3 : 0 ≤ r) : 0 ≤ loT s r ∧ loT s r ≤ s ∧ s < hiT s r ∧ hiT s r ≤ 1000000000 := by
  simp only [loT, hiT]; omega
theorem eq_com (l h a b : Int) (hl : l < h) : eq2B l h (comA l h a b) (comB l h a b) = (decide (a ≤ l) && decide (h ≤ b)) := by
  rw [Bool.eq_iff_iff]
  unfold eq2B comA comB
  by_cases hc : max l a < min h b
  · rw [if_pos hc, if_pos hc]; simp only [Bool.and_eq_true, beq_iff_eq, decide_eq_true_eq]; omega
  · rw [if_neg hc, if_neg hc]; simp only [Bool.and_eq_true, beq_iff_eq, decide_eq_true_eq]; omega
theorem no_com (l h a b : Int) (hl : 0 ≤ l) (hh : l < h) (ha : 0 ≤ a) : no2B (comA l h a b) (comB l h a b) = decide (max a l < min b h) := by
  rw [Bool.eq_iff_iff]
  unfold no2B comA comB
  by_cases hc : max l a < min h b
  · rw [if_pos hc, if_pos hc]; simp only [Bool.not_eq_true', Bool.and_eq_false_iff, beq_eq_false_iff_ne, decide_eq_true_eq]; omega
  · rw [if_neg hc, if_neg hc]; simp only [Bool.not_eq_true', Bool.and_eq_false_iff, beq_eq_false_iff_ne, decide_eq_true_eq]; omega
theorem sure_of (s r a b : Int) (h1 : 0 ≤ s) (h2 : s < 1000000000) (h3 : 0 ≤ r) (h4 : r ≤ 10000) (h5 : 0 ≤ a) (h6 : a ≤ b) (h7 : b ≤ 1000000000) :
    eq2B (loT s r) (hiT s r) (comA (loT s r) (hiT s r) a b) (comB (loT s r) (hiT s r) a b) = sureB s r a b := by
  have h : askB s r a b = true := askB_iff.2 (by omega)
  have hl := lo_hi s r h1 h2 h3
  rw [eq_com _ _ _ _ (by omega), sureB, h, Bool.true_and]
theorem may_of (s r a b : Int) (h1 : 0 ≤ s) (h2 : s < 1000000000) (h3 : 0 ≤ r) (h4 : r ≤ 10000) (h5 : 0 ≤ a) (h6 : a ≤ b) (h7 : b ≤ 1000000000) :
    no2B (comA (loT s r) (hiT s r) a b) (comB (loT s r) (hiT s r) a b) = mayB s r a b := by
  have h : askB s r a b = true := askB_iff.2 (by omega)
  have hl := lo_hi s r h1 h2 h3
  rw [no_com _ _ _ _ hl.1 (by omega) h5, mayB, h, Bool.true_and]

theorem ret_pair {a b : Bool} {m n : Int} (h : a = b) (h' : m = n) : Ending.returned (.tuple #[.bool a, .int .i64 m]) = .returned (.tuple #[.bool b, .int .i64 n]) := by rw [h, h']
theorem ret_span {a b c d : Int} {m n : Int} (h : a = b) (h2 : c = d) (h' : m = n) : Ending.returned (.tuple #[.agg #[.int .i64 a, .int .i64 c], .int .i64 m]) = .returned (.tuple #[.agg #[.int .i64 b, .int .i64 d], .int .i64 n]) := by rw [h, h2, h']

theorem clockTrue_any (s r : Int) (w : World) :
    Calls Try.prog 10 #[.int .i64 s, .int .i64 r] w fun e w' => e = .returned (.tuple #[.agg #[.int .i64 (trueA s r), .int .i64 (trueB s r)], .int .i64 (errN (readB s r))]) ∧ Below w.heap.size w w' := by
  cases hr : (timeB s && errB r)
  · have hq : readB s r = false := hr
    have H_hr := Lib.hid hr; clear hr; have H_hq := Lib.hid hq; clear hq
    go_enter Try.func10, Try.ntmps10
    go_wp2_with fail
    refine (right_any s r _).mono ?_
    rw [H_hr.out]
    rintro e w1 ⟨rfl, hb1⟩
    obtain ⟨hc1, hf1⟩ := bcell hb1
    have hz1 : w.heap.size + 1 < w1.heap.size := by have := hb1.size; simp at this; omega
    have k0 : w1.cell? ⟨w.heap.size, 0, none⟩ = some (.int .i64 0) := by rw [hb1.cell (by simp; omega)]; go_simp
    have k1 : w1.cell? ⟨w.heap.size, 1, none⟩ = some (.int .i64 0) := by rw [hb1.cell (by simp; omega)]; go_simp
    go_wp2_with fail
    refine bodyPost_ret (by go_simp; simp [results, Try.results10, go_sem, k0, k1]; rfl) rfl ?_
    refine ⟨ret_span ?_ ?_ ?_, (by (repeat (first | exact Below.refl _ _ | exact Nat.le_refl _ | assumption | exact And.right (by assumption) | refine Below.drew ?_ | refine below_drewN ?_ _ | refine Below.alloc ?_ ?_ _ | refine Below.setCell ?_ ?_ _ | refine Below.trans ?_ (Below.mono (by assumption) ?_) | exact Below.size (And.right (by assumption)) | (focus omega) | (focus (simp; done)) | (focus (simp; omega)) | (focus (simp at *; omega)))))⟩
    all_goals simp [trueA, trueB, errN, H_hq.out]
  · have hq : readB s r = true := hr
    obtain ⟨⟨h1, h2⟩, h3, h4⟩ := readB_iff.1 hq
    have H_hr := Lib.hid hr; clear hr; have H_hq := Lib.hid hq; clear hq
    go_enter Try.func10, Try.ntmps10
    go_wp2_with fail
    refine (right_any s r _).mono ?_
    rw [H_hr.out]
    rintro e w1 ⟨rfl, hb1⟩
    obtain ⟨hc1, hf1⟩ := bcell hb1
    have hz1 : w.heap.size + 1 < w1.heap.size := by have := hb1.size; simp at this; omega
    go_wp2_with fail
    refine (open_any s r _ h1 h2 h3 h4).mono ?_
    rintro e w2 ⟨rfl, hb2⟩
    obtain ⟨hc2, hf2⟩ := bcell hb2
    have hz2 : w.heap.size + 1 < w2.heap.size := by have := hb2.size; omega
    have hz0 : w.heap.size < w1.heap.size := by omega
    have k0 : w2.cell? ⟨w.heap.size, 0, none⟩ = some (.int .i64 0) := by rw [hb2.cell (by simp; omega), hb1.cell (by simp; omega)]; go_simp
    have k1 : w2.cell? ⟨w.heap.size, 1, none⟩ = some (.int .i64 0) := by rw [hb2.cell (by simp; omega), hb1.cell (by simp; omega)]; go_simp
    go_wp2_with fail
    refine bodyPost_ret (by go_simp; simp [results, Try.results10, go_sem, k0, k1]; rfl) rfl ?_
    refine ⟨ret_span ?_ ?_ ?_, (by (repeat (first | exact Below.refl _ _ | exact Nat.le_refl _ | assumption | exact And.right (by assumption) | refine Below.drew ?_ | refine below_drewN ?_ _ | refine Below.alloc ?_ ?_ _ | refine Below.setCell ?_ ?_ _ | refine Below.trans ?_ (Below.mono (by assumption) ?_) | exact Below.size (And.right (by assumption)) | (focus omega) | (focus (simp; done)) | (focus (simp; omega)) | (focus (simp at *; omega)))))⟩
    all_goals simp [trueA, trueB, errN, H_hq.out]

theorem clockSurely_any (s r a b : Int) (w : World) :
    Calls Try.prog 12 #[.int .i64 s, .int .i64 r, .agg #[.int .i64 a, .int .i64 b]] w fun e w' => e = .returned (.tuple #[.bool (sureB s r a b), .int .i64 (errN (askB s r a b))]) ∧ Below w.heap.size w w' := by
  cases hr : askB s r a b
  · have H_hr := Lib.hid hr; clear hr
    go_enter Try.func12, Try.ntmps12
    go_wp2_with fail
    refine (askS_no s r a b _ H_hr.out).mono ?_
    rintro e w1 ⟨rfl, hb1⟩
    go_wp2_with fail
    go_ret2
    exact ⟨ret_pair (by simp [sureB, H_hr.out]) rfl, (by (repeat (first | exact Below.refl _ _ | exact Nat.le_refl _ | assumption | exact And.right (by assumption) | refine Below.drew ?_ | refine below_drewN ?_ _ | refine Below.alloc ?_ ?_ _ | refine Below.setCell ?_ ?_ _ | refine Below.trans ?_ (Below.mono (by assumption) ?_) | exact Below.size (And.right (by assumption)) | (focus omega) | (focus (simp; done)) | (focus (simp; omega)) | (focus (simp at *; omega)))))⟩
  · obtain ⟨⟨⟨h1, h2⟩, h3, h4⟩, h5, h6, h7⟩ := askB_iff.1 hr
    have H_hr := Lib.hid hr; clear hr
    go_enter Try.func12, Try.ntmps12
    go_wp2_with fail
    refine (askS_yes s r a b _ h1 h2 h3 h4 h5 h6 h7).mono ?_
    rintro e w1 ⟨rfl, hb1⟩
    go_wp2_with fail
    go_ret2
    exact ⟨ret_pair (sure_of s r a b h1 h2 h3 h4 h5 h6 h7) rfl, (by (repeat (first | exact Below.refl _ _ | exact Nat.le_refl _ | assumption | exact And.right (by assumption) | refine Below.drew ?_ | refine below_drewN ?_ _ | refine Below.alloc ?_ ?_ _ | refine Below.setCell ?_ ?_ _ | refine Below.trans ?_ (Below.mono (by assumption) ?_) | exact Below.size (And.right (by assumption)) | (focus omega) | (focus (simp; done)) | (focus (simp; omega)) | (focus (simp at *; omega)))))⟩

theorem clockMaybe_any (s r a b : Int) (w : World) :
    Calls Try.prog 14 #[.int .i64 s, .int .i64 r, .agg #[.int .i64 a, .int .i64 b]] w fun e w' => e = .returned (.tuple #[.bool (mayB s r a b), .int .i64 (errN (askB s r a b))]) ∧ Below w.heap.size w w' := by
  cases hr : askB s r a b
  · have H_hr := Lib.hid hr; clear hr
    go_enter Try.func14, Try.ntmps14
    go_wp2_with fail
    refine (askM_no s r a b _ H_hr.out).mono ?_
    rintro e w1 ⟨rfl, hb1⟩
    go_wp2_with fail
    go_ret2
    exact ⟨ret_pair (by simp [mayB, H_hr.out]) rfl, (by (repeat (first | exact Below.refl _ _ | exact Nat.le_refl _ | assumption | exact And.right (by assumption) | refine Below.drew ?_ | refine below_drewN ?_ _ | refine Below.alloc ?_ ?_ _ | refine Below.setCell ?_ ?_ _ | refine Below.trans ?_ (Below.mono (by assumption) ?_) | exact Below.size (And.right (by assumption)) | (focus omega) | (focus (simp; done)) | (focus (simp; omega)) | (focus (simp at *; omega)))))⟩
  · obtain ⟨⟨⟨h1, h2⟩, h3, h4⟩, h5, h6, h7⟩ := askB_iff.1 hr
    have H_hr := Lib.hid hr; clear hr
    go_enter Try.func14, Try.ntmps14
    go_wp2_with fail
    refine (askM_yes s r a b _ h1 h2 h3 h4 h5 h6 h7).mono ?_
    rintro e w1 ⟨rfl, hb1⟩
    go_wp2_with fail
    go_ret2
    exact ⟨ret_pair (may_of s r a b h1 h2 h3 h4 h5 h6 h7) rfl, (by (repeat (first | exact Below.refl _ _ | exact Nat.le_refl _ | assumption | exact And.right (by assumption) | refine Below.drew ?_ | refine below_drewN ?_ _ | refine Below.alloc ?_ ?_ _ | refine Below.setCell ?_ ?_ _ | refine Below.trans ?_ (Below.mono (by assumption) ?_) | exact Below.size (And.right (by assumption)) | (focus omega) | (focus (simp; done)) | (focus (simp; omega)) | (focus (simp at *; omega)))))⟩
end Go.Proofs.Ytbomoiecojdicaa

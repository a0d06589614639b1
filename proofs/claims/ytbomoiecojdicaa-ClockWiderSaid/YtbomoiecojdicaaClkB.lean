/- Contracts of the functions of package clock and of its reference, for any world. -/
import Derived.Test.YtbomoiecojdicaaClkA
import Derived.Deep.RegionHeld3
import Derived.Deep.RegionWith
import Derived.StillTailTactics
namespace Go.Proofs.Ytbomoiecojdicaa
set_option linter.unusedSimpArgs false
set_option linter.unusedVariables false
open Go.RowKit

def loT (s r : Int) : Int := max 0 (s - r)
def hiT (s r : Int) : Int := min 1000000000 (s + r + 1)
def comA (a b c d : Int) : Int := if max a c < min b d then max a c else 0
def comB (a b c d : Int) : Int := if max a c < min b d then min b d else 0
def eq2B (a b c d : Int) : Bool := a == c && b == d
def no2B (c d : Int) : Bool := !(c == 0 && d == 0)

theorem ret_agg2 {a b c d : Int} (h1 : a = c) (h2 : b = d) : Ending.returned (.agg #[.int .i64 a, .int .i64 b]) = .returned (.agg #[.int .i64 c, .int .i64 d]) := by rw [h1, h2]

theorem ret_bool {a b : Bool} (h : a = b) : Ending.returned (.bool a) = .returned (.bool b) := by rw [h]
theorem bcell {W w1 : World} (hb : Below W.heap.size W w1) : (∀ b o, b < W.heap.size → w1.cell? ⟨b, o, none⟩ = W.cell? ⟨b, o, none⟩) ∧ (∀ b o, b < W.heap.size → w1.frozen? ⟨b, o, none⟩ = W.frozen? ⟨b, o, none⟩) :=
  ⟨fun b o h => hb.cell (p := ⟨b, o, none⟩) h, fun b o h => hb.frozen (p := ⟨b, o, none⟩) h⟩

theorem ext_mk {w0 W : World} (h : Below w0.heap.size w0 W) : (∀ b o, b < w0.heap.size → W.cell? ⟨b, o, none⟩ = w0.cell? ⟨b, o, none⟩) ∧ Below w0.heap.size w0 W :=
  ⟨fun b o hb => h.cell (p := ⟨b, o, none⟩) hb, h⟩

theorem open_any (s r : Int) (w : World) (h1 : 0 ≤ s) (h2 : s < 1000000000) (h3 : 0 ≤ r) (h4 : r ≤ 10000) :
    Calls Try.prog 21 #[.agg #[.int .i64 s, .int .i64 r]] w fun e w' => e = .returned (.agg #[.int .i64 (loT s r), .int .i64 (hiT s r)]) ∧ Below w.heap.size w w' := by
  go_enter Try.func21, Try.ntmps21
  go_wp2_with fail
  all_goals
    refine bodyPost_ret (by simp [results, Try.results21, go_sem]; rfl) rfl ?_
    refine ⟨ret_agg2 ?_ ?_, (by (repeat (first | exact Below.refl _ _ | exact Nat.le_refl _ | assumption | exact And.right (by assumption) | refine Below.drew ?_ | refine below_drewN ?_ _ | refine Below.alloc ?_ ?_ _ | refine Below.setCell ?_ ?_ _ | refine Below.trans ?_ (Below.mono (by assumption) ?_) | exact Below.size (And.right (by assumption)) | (focus omega) | (focus (simp; done)) | (focus (simp; omega)) | (focus (simp at *; omega)))))⟩
    all_goals (simp only [loT, hiT]; omega)

theorem common_any (a b c d : Int) (w : World) :
    Calls Try.prog 27 #[.agg #[.int .i64 a, .int .i64 b], .agg #[.int .i64 c, .int .i64 d]] w fun e w' => e = .returned (.agg #[.int .i64 (comA a b c d), .int .i64 (comB a b c d)]) ∧ Below w.heap.size w w' := by
  go_enter Try.func27, Try.ntmps27
  go_wp2_with fail
  all_goals
    refine bodyPost_ret (by simp [results, Try.results27, go_sem]; rfl) rfl ?_
    refine ⟨ret_agg2 ?_ ?_, (by (repeat (first | exact Below.refl _ _ | exact Nat.le_refl _ | assumption | exact And.right (by assumption) | refine Below.drew ?_ | refine below_drewN ?_ _ | refine Below.alloc ?_ ?_ _ | refine Below.setCell ?_ ?_ _ | refine Below.trans ?_ (Below.mono (by assumption) ?_) | exact Below.size (And.right (by assumption)) | (focus omega) | (focus (simp; done)) | (focus (simp; omega)) | (focus (simp at *; omega)))))⟩
    all_goals (simp only [comA, comB]; (repeat' split) <;> omega)

theorem surely1_any (a b c d : Int) (w : World) :
    Calls Try.prog 24 #[.agg #[.int .i64 a, .int .i64 b], .agg #[.int .i64 c, .int .i64 d]] w fun e w' => e = .returned (.bool (eq2B a b c d)) ∧ Below w.heap.size w w' := by
  go_enter Try.func24, Try.ntmps24
  go_wp2_with fail
  all_goals
    go_ret
    refine ⟨ret_bool ?_, (by (repeat (first | exact Below.refl _ _ | exact Nat.le_refl _ | assumption | exact And.right (by assumption) | refine Below.drew ?_ | refine below_drewN ?_ _ | refine Below.alloc ?_ ?_ _ | refine Below.setCell ?_ ?_ _ | refine Below.trans ?_ (Below.mono (by assumption) ?_) | exact Below.size (And.right (by assumption)) | (focus omega) | (focus (simp; done)) | (focus (simp; omega)) | (focus (simp at *; omega)))))⟩
    simp_all [eq2B, no2B]

theorem maybe1_any (a b c d : Int) (w : World) :
    Calls Try.prog 25 #[.agg #[.int .i64 a, .int .i64 b], .agg #[.int .i64 c, .int .i64 d]] w fun e w' => e = .returned (.bool (no2B c d)) ∧ Below w.heap.size w w' := by
  go_enter Try.func25, Try.ntmps25
  go_wp2_with fail
  all_goals
    go_ret
    refine ⟨ret_bool ?_, (by (repeat (first | exact Below.refl _ _ | exact Nat.le_refl _ | assumption | exact And.right (by assumption) | refine Below.drew ?_ | refine below_drewN ?_ _ | refine Below.alloc ?_ ?_ _ | refine Below.setCell ?_ ?_ _ | refine Below.trans ?_ (Below.mono (by assumption) ?_) | exact Below.size (And.right (by assumption)) | (focus omega) | (focus (simp; done)) | (focus (simp; omega)) | (focus (simp at *; omega)))))⟩
    simp_all [eq2B, no2B]


set_option maxHeartbeats 400000 in
theorem askS_yes (s r a b : Int) (w : World) (h1 : 0 ≤ s) (h2 : s < 1000000000) (h3 : 0 ≤ r) (h4 : r ≤ 10000) (h5 : 0 ≤ a) (h6 : a ≤ b) (h7 : b ≤ 1000000000) :
    Calls Try.prog 23 #[.agg #[.int .i64 s, .int .i64 r], .agg #[.int .i64 a, .int .i64 b], .func (.func 21) #[.agg #[.int .i64 s, .int .i64 r]] #[], .func (.func 24) #[] #[]] w
      fun e w' => e = .returned (.tuple #[.bool (eq2B (loT s r) (hiT s r) (comA (loT s r) (hiT s r) a b) (comB (loT s r) (hiT s r) a b)), .int .i64 0]) ∧ Below w.heap.size w w' := by
  have ht : (timeB s && errB r) = true := by simp [timeB, errB, h1, h2, h3, h4]
  have hp : perB a b = true := by simp [perB, h5, h6, h7]
  have H_ht := Lib.hid ht; clear ht; have H_hp := Lib.hid hp; clear hp
  go_enter Try.func23, Try.ntmps23
  go_wp2_with fail
  refine (right_any s r _).mono ?_
  rw [H_ht.out]
  rintro e w1 ⟨rfl, hb1⟩
  obtain ⟨hc1, hf1⟩ := bcell hb1
  have hz1 : w.heap.size + 1 < w1.heap.size := by have := hb1.size; simp at this; omega
  go_wp2_with fail
  refine (within4 _ 0 a b 1000000000 true (by rw [rises_per, H_hp.out]) _ (newAt (by simp))).mono ?_
  rintro e w' ⟨rfl, m, rfl⟩
  go_wp2_with fail
  have g1 : ((w1.alloc (Obj.cells #[Value.int IntKind.i64 0, Value.int IntKind.i64 a, Value.int IntKind.i64 b, Value.int IntKind.i64 1000000000] 3)).drewN m).cell? ⟨w.heap.size + 1, 0, none⟩ = some (.int .i64 a) := by go_simp
  have g2 : ((w1.alloc (Obj.cells #[Value.int IntKind.i64 0, Value.int IntKind.i64 a, Value.int IntKind.i64 b, Value.int IntKind.i64 1000000000] 3)).drewN m).cell? ⟨w.heap.size + 1, 1, none⟩ = some (.int .i64 b) := by go_simp
  have g3 : Below w.heap.size w ((w1.alloc (Obj.cells #[Value.int IntKind.i64 0, Value.int IntKind.i64 a, Value.int IntKind.i64 b, Value.int IntKind.i64 1000000000] 3)).drewN m) := (by (repeat (first | exact Below.refl _ _ | exact Nat.le_refl _ | assumption | exact And.right (by assumption) | refine Below.drew ?_ | refine below_drewN ?_ _ | refine Below.alloc ?_ ?_ _ | refine Below.setCell ?_ ?_ _ | refine Below.trans ?_ (Below.mono (by assumption) ?_) | exact Below.size (And.right (by assumption)) | (focus omega) | (focus (simp; done)) | (focus (simp; omega)) | (focus (simp at *; omega)))))
  have g4 : w.heap.size + 1 < ((w1.alloc (Obj.cells #[Value.int IntKind.i64 0, Value.int IntKind.i64 a, Value.int IntKind.i64 b, Value.int IntKind.i64 1000000000] 3)).drewN m).heap.size := by simp; omega
  clear hc1 hf1 hz1
  generalize ((w1.alloc (Obj.cells #[Value.int IntKind.i64 0, Value.int IntKind.i64 a, Value.int IntKind.i64 b, Value.int IntKind.i64 1000000000] 3)).drewN m) = w2 at *
  clear hb1
  go_region_held3 (fun W => (∀ b o, b < w2.heap.size → W.cell? ⟨b, o, none⟩ = w2.cell? ⟨b, o, none⟩) ∧ Below w2.heap.size w2 W) (first | (refine ext_mk ?_; (repeat (first | exact Below.refl _ _ | exact Nat.le_refl _ | assumption | exact And.right (by assumption) | refine Below.drew ?_ | refine below_drewN ?_ _ | refine Below.alloc ?_ ?_ _ | refine Below.setCell ?_ ?_ _ | refine Below.trans ?_ (Below.mono (by assumption) ?_) | exact Below.size (And.right (by assumption)) | (focus omega) | (focus (simp; done)) | (focus (simp; omega)) | (focus (simp at *; omega)))))) (first | (go_at_call 21; refine (open_any s r _ h1 h2 h3 h4).mono ?_; rintro e w1 ⟨rfl, hb1⟩) | (go_at_call 27; refine (common_any _ _ _ _ _).mono ?_; rintro e w1 ⟨rfl, hb1⟩) | (go_at_call 24; refine (surely1_any _ _ _ _ _).mono ?_; rintro e w1 ⟨rfl, hb1⟩))
  all_goals
    go_wp2_with fail
    go_ret2
    exact ⟨rfl, g3.trans (Below.mono (And.right (by assumption)) (by omega))⟩

theorem askS_no (s r a b : Int) (w : World) (h : (timeB s && errB r && perB a b) = false) :
    Calls Try.prog 23 #[.agg #[.int .i64 s, .int .i64 r], .agg #[.int .i64 a, .int .i64 b], .func (.func 21) #[.agg #[.int .i64 s, .int .i64 r]] #[], .func (.func 24) #[] #[]] w
      fun e w' => e = .returned (.tuple #[.bool false, .int .i64 1]) ∧ Below w.heap.size w w' := by
  cases ht : (timeB s && errB r)
  · have H_h := Lib.hid h; clear h; have H_ht := Lib.hid ht; clear ht
    go_enter Try.func23, Try.ntmps23
    go_wp2_with fail
    refine (right_any s r _).mono ?_
    rw [H_ht.out]
    rintro e w1 ⟨rfl, hb1⟩
    go_wp2_with fail
    go_ret2
    exact ⟨rfl, (by (repeat (first | exact Below.refl _ _ | exact Nat.le_refl _ | assumption | exact And.right (by assumption) | refine Below.drew ?_ | refine below_drewN ?_ _ | refine Below.alloc ?_ ?_ _ | refine Below.setCell ?_ ?_ _ | refine Below.trans ?_ (Below.mono (by assumption) ?_) | exact Below.size (And.right (by assumption)) | (focus omega) | (focus (simp; done)) | (focus (simp; omega)) | (focus (simp at *; omega)))))⟩
  · have hp : perB a b = false := by rw [ht] at h; simpa using h
    have H_h := Lib.hid h; clear h; have H_ht := Lib.hid ht; clear ht; have H_hp := Lib.hid hp; clear hp
    go_enter Try.func23, Try.ntmps23
    go_wp2_with fail
    refine (right_any s r _).mono ?_
    rw [H_ht.out]
    rintro e w1 ⟨rfl, hb1⟩
    obtain ⟨hc1, hf1⟩ := bcell hb1
    have hz1 : w.heap.size + 1 < w1.heap.size := by have := hb1.size; simp at this; omega
    go_wp2_with fail
    refine (within4 _ 0 a b 1000000000 false (by rw [rises_per, H_hp.out]) _ (newAt (by simp))).mono ?_
    rintro e w' ⟨rfl, m, rfl⟩
    go_wp2_with fail
    go_ret2
    exact ⟨rfl, (by (repeat (first | exact Below.refl _ _ | exact Nat.le_refl _ | assumption | exact And.right (by assumption) | refine Below.drew ?_ | refine below_drewN ?_ _ | refine Below.alloc ?_ ?_ _ | refine Below.setCell ?_ ?_ _ | refine Below.trans ?_ (Below.mono (by assumption) ?_) | exact Below.size (And.right (by assumption)) | (focus omega) | (focus (simp; done)) | (focus (simp; omega)) | (focus (simp at *; omega)))))⟩

set_option maxHeartbeats 400000 in
theorem askM_yes (s r a b : Int) (w : World) (h1 : 0 ≤ s) (h2 : s < 1000000000) (h3 : 0 ≤ r) (h4 : r ≤ 10000) (h5 : 0 ≤ a) (h6 : a ≤ b) (h7 : b ≤ 1000000000) :
    Calls Try.prog 23 #[.agg #[.int .i64 s, .int .i64 r], .agg #[.int .i64 a, .int .i64 b], .func (.func 21) #[.agg #[.int .i64 s, .int .i64 r]] #[], .func (.func 25) #[] #[]] w
      fun e w' => e = .returned (.tuple #[.bool (no2B (comA (loT s r) (hiT s r) a b) (comB (loT s r) (hiT s r) a b)), .int .i64 0]) ∧ Below w.heap.size w w' := by
  have ht : (timeB s && errB r) = true := by simp [timeB, errB, h1, h2, h3, h4]
  have hp : perB a b = true := by simp [perB, h5, h6, h7]
  have H_ht := Lib.hid ht; clear ht; have H_hp := Lib.hid hp; clear hp
  go_enter Try.func23, Try.ntmps23
  go_wp2_with fail
  refine (right_any s r _).mono ?_
  rw [H_ht.out]
  rintro e w1 ⟨rfl, hb1⟩
  obtain ⟨hc1, hf1⟩ := bcell hb1
  have hz1 : w.heap.size + 1 < w1.heap.size := by have := hb1.size; simp at this; omega
  go_wp2_with fail
  refine (within4 _ 0 a b 1000000000 true (by rw [rises_per, H_hp.out]) _ (newAt (by simp))).mono ?_
  rintro e w' ⟨rfl, m, rfl⟩
  go_wp2_with fail
  have g1 : ((w1.alloc (Obj.cells #[Value.int IntKind.i64 0, Value.int IntKind.i64 a, Value.int IntKind.i64 b, Value.int IntKind.i64 1000000000] 3)).drewN m).cell? ⟨w.heap.size + 1, 0, none⟩ = some (.int .i64 a) := by go_simp
  have g2 : ((w1.alloc (Obj.cells #[Value.int IntKind.i64 0, Value.int IntKind.i64 a, Value.int IntKind.i64 b, Value.int IntKind.i64 1000000000] 3)).drewN m).cell? ⟨w.heap.size + 1, 1, none⟩ = some (.int .i64 b) := by go_simp
  have g3 : Below w.heap.size w ((w1.alloc (Obj.cells #[Value.int IntKind.i64 0, Value.int IntKind.i64 a, Value.int IntKind.i64 b, Value.int IntKind.i64 1000000000] 3)).drewN m) := (by (repeat (first | exact Below.refl _ _ | exact Nat.le_refl _ | assumption | exact And.right (by assumption) | refine Below.drew ?_ | refine below_drewN ?_ _ | refine Below.alloc ?_ ?_ _ | refine Below.setCell ?_ ?_ _ | refine Below.trans ?_ (Below.mono (by assumption) ?_) | exact Below.size (And.right (by assumption)) | (focus omega) | (focus (simp; done)) | (focus (simp; omega)) | (focus (simp at *; omega)))))
  have g4 : w.heap.size + 1 < ((w1.alloc (Obj.cells #[Value.int IntKind.i64 0, Value.int IntKind.i64 a, Value.int IntKind.i64 b, Value.int IntKind.i64 1000000000] 3)).drewN m).heap.size := by simp; omega
  clear hc1 hf1 hz1
  generalize ((w1.alloc (Obj.cells #[Value.int IntKind.i64 0, Value.int IntKind.i64 a, Value.int IntKind.i64 b, Value.int IntKind.i64 1000000000] 3)).drewN m) = w2 at *
  clear hb1
  go_region_held3 (fun W => (∀ b o, b < w2.heap.size → W.cell? ⟨b, o, none⟩ = w2.cell? ⟨b, o, none⟩) ∧ Below w2.heap.size w2 W) (first | (refine ext_mk ?_; (repeat (first | exact Below.refl _ _ | exact Nat.le_refl _ | assumption | exact And.right (by assumption) | refine Below.drew ?_ | refine below_drewN ?_ _ | refine Below.alloc ?_ ?_ _ | refine Below.setCell ?_ ?_ _ | refine Below.trans ?_ (Below.mono (by assumption) ?_) | exact Below.size (And.right (by assumption)) | (focus omega) | (focus (simp; done)) | (focus (simp; omega)) | (focus (simp at *; omega)))))) (first | (go_at_call 21; refine (open_any s r _ h1 h2 h3 h4).mono ?_; rintro e w1 ⟨rfl, hb1⟩) | (go_at_call 27; refine (common_any _ _ _ _ _).mono ?_; rintro e w1 ⟨rfl, hb1⟩) | (go_at_call 25; refine (maybe1_any _ _ _ _ _).mono ?_; rintro e w1 ⟨rfl, hb1⟩))
  all_goals
    go_wp2_with fail
    go_ret2
    exact ⟨rfl, g3.trans (Below.mono (And.right (by assumption)) (by omega))⟩

theorem askM_no (s r a b : Int) (w : World) (h : (timeB s && errB r && perB a b) = false) :
    Calls Try.prog 23 #[.agg #[.int .i64 s, .int .i64 r], .agg #[.int .i64 a, .int .i64 b], .func (.func 21) #[.agg #[.int .i64 s, .int .i64 r]] #[], .func (.func 25) #[] #[]] w
      fun e w' => e = .returned (.tuple #[.bool false, .int .i64 1]) ∧ Below w.heap.size w w' := by
  cases ht : (timeB s && errB r)
  · have H_h := Lib.hid h; clear h; have H_ht := Lib.hid ht; clear ht
    go_enter Try.func23, Try.ntmps23
    go_wp2_with fail
    refine (right_any s r _).mono ?_
    rw [H_ht.out]
    rintro e w1 ⟨rfl, hb1⟩
    go_wp2_with fail
    go_ret2
    exact ⟨rfl, (by (repeat (first | exact Below.refl _ _ | exact Nat.le_refl _ | assumption | exact And.right (by assumption) | refine Below.drew ?_ | refine below_drewN ?_ _ | refine Below.alloc ?_ ?_ _ | refine Below.setCell ?_ ?_ _ | refine Below.trans ?_ (Below.mono (by assumption) ?_) | exact Below.size (And.right (by assumption)) | (focus omega) | (focus (simp; done)) | (focus (simp; omega)) | (focus (simp at *; omega)))))⟩
  · have hp : perB a b = false := by rw [ht] at h; simpa using h
    have H_h := Lib.hid h; clear h; have H_ht := Lib.hid ht; clear ht; have H_hp := Lib.hid hp; clear hp
    go_enter Try.func23, Try.ntmps23
    go_wp2_with fail
    refine (right_any s r _).mono ?_
    rw [H_ht.out]
    rintro e w1 ⟨rfl, hb1⟩
    obtain ⟨hc1, hf1⟩ := bcell hb1
    have hz1 : w.heap.size + 1 < w1.heap.size := by have := hb1.size; simp at this; omega
    go_wp2_with fail
    refine (within4 _ 0 a b 1000000000 false (by rw [rises_per, H_hp.out]) _ (newAt (by simp))).mono ?_
    rintro e w' ⟨rfl, m, rfl⟩
    go_wp2_with fail
    go_ret2
    exact ⟨rfl, (by (repeat (first | exact Below.refl _ _ | exact Nat.le_refl _ | assumption | exact And.right (by assumption) | refine Below.drew ?_ | refine below_drewN ?_ _ | refine Below.alloc ?_ ?_ _ | refine Below.setCell ?_ ?_ _ | refine Below.trans ?_ (Below.mono (by assumption) ?_) | exact Below.size (And.right (by assumption)) | (focus omega) | (focus (simp; done)) | (focus (simp; omega)) | (focus (simp at *; omega)))))⟩

end Go.Proofs.Ytbomoiecojdicaa

/- Contracts of the small functions of package clock (within), for any world. -/
import Derived.Test.YtbomoiecojdicaaChecked
import Derived.WalkKit
import Derived.WalkSpells
import Derived.WalkLawsBesides
import Derived.Deep.QuietTactic
import Derived.BigQuiet
import Derived.Lib.Hide
import Derived.Below
import Derived.IntWalk
import Derived.Laws.Rows
import Derived.Outline
namespace Go.Proofs.Ytbomoiecojdicaa
set_option linter.unusedSimpArgs false
set_option linter.unusedVariables false
open Go.RowKit

/-- the list rises weakly -/
def risesB : List Int → Bool
  | a :: b :: r => decide (a ≤ b) && risesB (b :: r)
  | _ => true

theorem rises_take_succ : ∀ (l : List Int) (k : Nat), 1 ≤ k → k < l.length → risesB (l.take k) = true →
    risesB (l.take (k + 1)) = decide (l.getD (k - 1) 0 ≤ l.getD k 0)
  | [], k, _, h, _ => by simp at h
  | [a], k, h1, h, _ => by simp at h; omega
  | a :: b :: r, 1, _, _, _ => by simp [risesB]
  | a :: b :: r, k + 2, _, h, hr => by
    have h2 : risesB ((b :: r).take (k + 1)) = true := by
      simp [risesB] at hr ⊢; exact hr.2
    have ih := rises_take_succ (b :: r) (k + 1) (by omega) (by simpa using h) h2
    have hab : a ≤ b := by simp [risesB] at hr; exact hr.1
    simp [risesB, hab] at ih ⊢
    exact ih

theorem rises_false : ∀ (l : List Int) (k : Nat), risesB (l.take k) = false → risesB l = false
  | [], k, h => by simp [risesB] at h
  | [a], k, h => by cases k <;> simp [risesB] at h
  | a :: b :: r, 0, h => by simp [risesB] at h
  | a :: b :: r, 1, h => by simp [risesB] at h
  | a :: b :: r, k + 2, h => by
    simp [risesB] at h ⊢
    intro hab
    exact rises_false (b :: r) (k + 1) (by simpa using h hab)

set_option maxHeartbeats 400000 in
theorem within_any (b : Nat) (n c : Nat) (zs : List Int) (w : World) (hn : zs.length = n) (hb : n ≤ 1000000)
    (hc : ∀ i, i < n → w.cell? ⟨b, i, none⟩ = some (.int .i64 (zs.getD i 0))) :
    Calls Try.prog 26 #[.slice (some ⟨b, 0, none⟩) n c] w fun e w' => e = .returned (.bool (risesB zs)) ∧ ∃ m, w' = w.drewN m := by
  have H_hn := Lib.hid hn; clear hn
  have H_hc := Lib.hid hc; clear hc
  go_enter Try.func26, Try.ntmps26
  go_wp2
  go_loopw [3] (fun i wr => ∃ k m : Nat, 1 ≤ k ∧ k ≤ n + 1 ∧ i = .int .i64 k ∧ risesB (zs.take k) = true ∧ wr = w.drewN m) (fun i _ => n + 1 - (intOf i).toNat)
  case atStart => exact ⟨1, 0, by omega, by omega, rfl, by cases zs <;> simp [risesB], rfl⟩
  case round =>
    obtain ⟨k, m, hk1, hk2, rfl, hr, rfl⟩ := hrel
    have H_hr := Lib.hid hr; clear hr
    by_cases hlt : k < n
    · have c1 := H_hc.out k hlt
      have c2 := H_hc.out (k - 1) (by omega)
      have hs := rises_take_succ zs k hk1 (by rw [H_hn.out]; exact hlt) H_hr.out
      have H_hs := Lib.hid hs; clear hs
      have q1 : IntKind.i64.wrap ((k : Int) - 1) = (k : Int) - 1 := IntWalk.i64_in _ (by omega)
      have q2 : (0 : Int) ≤ (k : Int) - 1 := by omega
      have q3 : ((k : Int) - 1).toNat = k - 1 := by omega
      have q4 : (k : Int) - 1 < n := by omega
      have q5 : (k : Int) < n := by omega
      go_wp2
      go_quiet (fail)
      go_wp2
      · have hx : zs[k]?.getD 0 < zs[k - 1]?.getD 0 := by assumption
        go_ret
        have hf : risesB zs = false := rises_false zs (k + 1) (by rw [H_hs.out]; simp; omega)
        rw [hf]
        exact ⟨rfl, _, World.drewN_drewN _ _ _⟩
      · have hx : zs[k - 1]?.getD 0 ≤ zs[k]?.getD 0 := by assumption
        go_roundw
        case rel => exact ⟨k + 1, _, by omega, by omega, by go_num, by rw [H_hs.out]; simp; omega, rfl⟩
        case measure => simp [intOf]; omega
    · go_wp2
      go_ret
      have : zs.take k = zs := List.take_of_length_le (by rw [H_hn.out]; omega)
      rw [← this, H_hr.out]
      exact ⟨rfl, _, rfl⟩

/-- what a reading is -/
def timeB (n : Int) : Bool := decide (0 ≤ n) && decide (n < 1000000000)
def errB (n : Int) : Bool := decide (0 ≤ n) && decide (n ≤ 10000)
def perB (a b : Int) : Bool := decide (0 ≤ a) && (decide (a ≤ b) && decide (b ≤ 1000000000))

theorem rises_time (s : Int) : risesB [0, s, 999999999] = timeB s := by
  simp only [risesB, timeB, Bool.and_true]; congr 1; apply decide_eq_decide.2; omega
theorem rises_err (s : Int) : risesB [0, s, 10000] = errB s := by
  simp only [risesB, errB, Bool.and_true]
theorem rises_per (a b : Int) : risesB [0, a, b, 1000000000] = perB a b := by
  simp only [risesB, perB, Bool.and_true]

theorem newAt {w : World} {o : Obj} {b : Nat} (hb : w.heap.size = b) : (w.alloc o).heap[b]? = some o := by
  subst hb; exact heap_alloc_new w o

theorem within3 (b : Nat) (x y z : Int) (v : Bool) (hv : risesB [x, y, z] = v) (w : World) (h : w.heap[b]? = some (.cells #[.int .i64 x, .int .i64 y, .int .i64 z] 3)) :
    Calls Try.prog 26 #[.slice (some ⟨b, 0, none⟩) 3 3] w fun e w' => e = .returned (.bool v) ∧ ∃ m, w' = w.drewN m := by
  subst hv
  exact within_any b 3 3 [x, y, z] w rfl (by omega) fun i hi => by
    rw [cell_of_row w b i _ _ _ h]
    match i, hi with
    | 0, _ => rfl
    | 1, _ => rfl
    | 2, _ => rfl

theorem within4 (b : Nat) (x y z u : Int) (v : Bool) (hv : risesB [x, y, z, u] = v) (w : World) (h : w.heap[b]? = some (.cells #[.int .i64 x, .int .i64 y, .int .i64 z, .int .i64 u] 3)) :
    Calls Try.prog 26 #[.slice (some ⟨b, 0, none⟩) 4 4] w fun e w' => e = .returned (.bool v) ∧ ∃ m, w' = w.drewN m := by
  subst hv
  exact within_any b 4 4 [x, y, z, u] w rfl (by omega) fun i hi => by
    rw [cell_of_row w b i _ _ _ h]
    match i, hi with
    | 0, _ => rfl
    | 1, _ => rfl
    | 2, _ => rfl
    | 3, _ => rfl

theorem right_any (s r : Int) (w : World) :
    Calls Try.prog 20 #[.agg #[.int .i64 s, .int .i64 r]] w fun e w' => e = .returned (.bool (timeB s && errB r)) ∧ Below w.heap.size w w' := by
  cases ht : timeB s
  · have H_ht := Lib.hid ht; clear ht
    go_enter Try.func20, Try.ntmps20
    go_wp2_with fail
    refine (within3 _ 0 s 999999999 false (by rw [rises_time, H_ht.out]) _ (newAt (by simp))).mono ?_
    rintro e w' ⟨rfl, m, rfl⟩
    go_wp2_with fail
    go_ret
    exact ⟨rfl, (by (repeat (first | exact Below.refl _ _ | exact Nat.le_refl _ | assumption | exact And.right (by assumption) | refine Below.drew ?_ | refine below_drewN ?_ _ | refine Below.alloc ?_ ?_ _ | refine Below.setCell ?_ ?_ _ | refine Below.trans ?_ (Below.mono (by assumption) ?_) | exact Below.size (And.right (by assumption)) | (focus omega) | (focus (simp; done)) | (focus (simp; omega)) | (focus (simp at *; omega)))))⟩
  · have H_ht := Lib.hid ht; clear ht
    go_enter Try.func20, Try.ntmps20
    go_wp2_with fail
    refine (within3 _ 0 s 999999999 true (by rw [rises_time, H_ht.out]) _ (newAt (by simp))).mono ?_
    rintro e w' ⟨rfl, m, rfl⟩
    go_wp2_with fail
    refine (within3 _ 0 r 10000 (errB r) (rises_err r) _ (newAt (by simp))).mono ?_
    rintro e w' ⟨rfl, m', rfl⟩
    go_wp2_with fail
    go_ret
    exact ⟨rfl, (by (repeat (first | exact Below.refl _ _ | exact Nat.le_refl _ | assumption | exact And.right (by assumption) | refine Below.drew ?_ | refine below_drewN ?_ _ | refine Below.alloc ?_ ?_ _ | refine Below.setCell ?_ ?_ _ | refine Below.trans ?_ (Below.mono (by assumption) ?_) | exact Below.size (And.right (by assumption)) | (focus omega) | (focus (simp; done)) | (focus (simp; omega)) | (focus (simp at *; omega)))))⟩
end Go.Proofs.Ytbomoiecojdicaa

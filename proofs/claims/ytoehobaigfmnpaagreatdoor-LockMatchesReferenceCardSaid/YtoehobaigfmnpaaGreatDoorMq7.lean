/- Plain arithmetic of signatures: powers modulo primes (no program in sight). -/
import Derived.WalkKit
import Derived.WalkSpells
import Derived.WalkLawsBesides
import Derived.Deep.QuietTactic
import Derived.BigQuiet
import Derived.Lib.Hide
import Derived.Below
import Derived.IntWalk
import Derived.Laws.Rows
import Derived.Outline
import Derived.Deep.RegionHeld3
import Derived.Deep.RegionWith
import Derived.StillTailTactics
import Derived.Test.YtoehobaigfmnpaaGreatDoorMq1
import Derived.Test.YtoehobaigfmnpaaGreatDoorMq2
set_option linter.unusedSimpArgs false
set_option linter.unusedVariables false
set_option maxRecDepth 100000
namespace Go.Proofs.YtoehobaigfmnpaaGreatDoor
open Go.RowKit
def risesB : List Int → Bool
 | a :: b :: r => decide (a ≤ b) && risesB (b :: r)
 | _ => true
theorem rises_take_succ : ∀ (l : List Int) (k : Nat), 1 ≤ k → k < l.length → risesB (l.take k) = true →
  risesB (l.take (k + 1)) = decide (l.getD (k - 1) 0 ≤ l.getD k 0)
 | [], k, _, h, _ => by simp at h
 | [a], k, h1, h, _ => by simp at h; omega
 | a :: b :: r, 1, _, _, _ => by simp [risesB]
 | a :: b :: r, k + 2, _, h, hr => by
  have h2 : risesB ((b :: r).take (k + 1)) = true := by
   simp [risesB] at hr ⊢; exact hr.2
  have ih := rises_take_succ (b :: r) (k + 1) (by omega) (by simpa using h) h2
  have hab : a ≤ b := by simp [risesB] at hr; exact hr.1
  simp [risesB, hab] at ih ⊢
  exact ih
theorem rises_false : ∀ (l : List Int) (k : Nat), risesB (l.take k) = false → risesB l = false
 | [], k, h => by simp [risesB] at h
 | [a], k, h => by cases k <;> simp [risesB] at h
 | a :: b :: r, 0, h => by simp [risesB] at h
 | a :: b :: r, 1, h => by simp [risesB] at h
 | a :: b :: r, k + 2, h => by
  simp [risesB] at h ⊢
  intro hab
  exact rises_false (b :: r) (k + 1) (by simpa using h hab)
set_option maxHeartbeats 400000 in
theorem kwithin_any (b : Nat) (n c : Nat) (zs : List Int) (w : World) (hn : zs.length = n) (hb : n ≤ 1000000)
  (hc : ∀ i, i < n → w.cell? ⟨b, i, none⟩ = some (.int .i64 (zs.getD i 0))) :
  Calls Tryz.prog 83 #[.slice (some ⟨b, 0, none⟩) n c] w fun e w' => e = .returned (.bool (risesB zs)) ∧ ∃ m, w' = w.drewN m := by
 have H_hn := Lib.hid hn; clear hn
 have H_hc := Lib.hid hc; clear hc
 go_enter Tryz.func83, Tryz.ntmps83
 go_wp2
 go_loopw [3] (fun i wr => ∃ k m : Nat, 1 ≤ k ∧ k ≤ n + 1 ∧ i = .int .i64 k ∧ risesB (zs.take k) = true ∧ wr = w.drewN m) (fun i _ => n + 1 - (intOf i).toNat)
 case atStart => exact ⟨1, 0, by omega, by omega, rfl, by cases zs <;> simp [risesB], rfl⟩
 case round =>
  obtain ⟨k, m, hk1, hk2, rfl, hr, rfl⟩ := hrel
  have H_hr := Lib.hid hr; clear hr
  by_cases hlt : k < n
  ·have c1 := H_hc.out k hlt
   have c2 := H_hc.out (k - 1) (by omega)
   have hs := rises_take_succ zs k hk1 (by rw [H_hn.out]; exact hlt) H_hr.out
   have H_hs := Lib.hid hs; clear hs
   have q1 : IntKind.i64.wrap ((k : Int) - 1) = (k : Int) - 1 := IntWalk.i64_in _ (by omega)
   have q2 : (0 : Int) ≤ (k : Int) - 1 := by omega
   have q3 : ((k : Int) - 1).toNat = k - 1 := by omega
   have q4 : (k : Int) - 1 < n := by omega
   have q5 : (k : Int) < n := by omega
   go_wp2
   go_quiet (fail)
   go_wp2
   ·have hx : zs[k]?.getD 0 < zs[k - 1]?.getD 0 := by assumption
    go_ret
    have hf : risesB zs = false := rises_false zs (k + 1) (by rw [H_hs.out]; simp; omega)
    rw [hf]
    exact ⟨rfl, _, World.drewN_drewN _ _ _⟩
   ·have hx : zs[k - 1]?.getD 0 ≤ zs[k]?.getD 0 := by assumption
    go_roundw
    case rel => exact ⟨k + 1, _, by omega, by omega, by go_num, by rw [H_hs.out]; simp; omega, rfl⟩
    case measure => simp [intOf]; omega
  ·go_wp2
   go_ret
   have : zs.take k = zs := List.take_of_length_le (by rw [H_hn.out]; omega)
   rw [← this, H_hr.out]
   exact ⟨rfl, _, rfl⟩
def timeB (n : Int) : Bool := decide (0 ≤ n) && decide (n < 1000000000)
def errB (n : Int) : Bool := decide (0 ≤ n) && decide (n ≤ 10000)
def perB (a b : Int) : Bool := decide (0 ≤ a) && (decide (a ≤ b) && decide (b ≤ 1000000000))
theorem rises_time (s : Int) : risesB [0, s, 999999999] = timeB s := by
 simp only [risesB, timeB, Bool.and_true]; congr 1; apply decide_eq_decide.2; omega
theorem rises_err (s : Int) : risesB [0, s, 10000] = errB s := by
 simp only [risesB, errB, Bool.and_true]
theorem rises_per (a b : Int) : risesB [0, a, b, 1000000000] = perB a b := by
 simp only [risesB, perB, Bool.and_true]
theorem within3 (b : Nat) (x y z : Int) (v : Bool) (hv : risesB [x, y, z] = v) (w : World) (h : w.heap[b]? = some (.cells #[.int .i64 x, .int .i64 y, .int .i64 z] 3)) :
  Calls Tryz.prog 83 #[.slice (some ⟨b, 0, none⟩) 3 3] w fun e w' => e = .returned (.bool v) ∧ ∃ m, w' = w.drewN m := by
 subst hv
 exact kwithin_any b 3 3 [x, y, z] w rfl (by omega) fun i hi => by
  rw [cell_of_row w b i _ _ _ h]
  match i, hi with
  | 0, _ => rfl
  | 1, _ => rfl
  | 2, _ => rfl
theorem within4 (b : Nat) (x y z u : Int) (v : Bool) (hv : risesB [x, y, z, u] = v) (w : World) (h : w.heap[b]? = some (.cells #[.int .i64 x, .int .i64 y, .int .i64 z, .int .i64 u] 3)) :
  Calls Tryz.prog 83 #[.slice (some ⟨b, 0, none⟩) 4 4] w fun e w' => e = .returned (.bool v) ∧ ∃ m, w' = w.drewN m := by
 subst hv
 exact kwithin_any b 4 4 [x, y, z, u] w rfl (by omega) fun i hi => by
  rw [cell_of_row w b i _ _ _ h]
  match i, hi with
  | 0, _ => rfl
  | 1, _ => rfl
  | 2, _ => rfl
  | 3, _ => rfl
theorem right_any (s r : Int) (w : World) :
  Calls Tryz.prog 59 #[.agg #[.int .i64 s, .int .i64 r]] w fun e w' => e = .returned (.bool (timeB s && errB r)) ∧ Below w.heap.size w w' := by
 cases ht : timeB s
 ·have H_ht := Lib.hid ht; clear ht
  go_enter Tryz.func59, Tryz.ntmps59
  go_wp2_with fail
  refine (within3 _ 0 s 999999999 false (by rw [rises_time, H_ht.out]) _ (newAt (by simp))).mono ?_
  rintro e w' ⟨rfl, m, rfl⟩
  go_wp2_with fail
  go_ret
  exact ⟨rfl, belt⟩
 ·have H_ht := Lib.hid ht; clear ht
  go_enter Tryz.func59, Tryz.ntmps59
  go_wp2_with fail
  refine (within3 _ 0 s 999999999 true (by rw [rises_time, H_ht.out]) _ (newAt (by simp))).mono ?_
  rintro e w' ⟨rfl, m, rfl⟩
  go_wp2_with fail
  refine (within3 _ 0 r 10000 (errB r) (rises_err r) _ (newAt (by simp))).mono ?_
  rintro e w' ⟨rfl, m', rfl⟩
  go_wp2_with fail
  go_ret
  exact ⟨rfl, belt⟩
def loT (s r : Int) : Int := max 0 (s - r)
def hiT (s r : Int) : Int := min 1000000000 (s + r + 1)
def comA (a b c d : Int) : Int := if max a c < min b d then max a c else 0
def comB (a b c d : Int) : Int := if max a c < min b d then min b d else 0
def eq2B (a b c d : Int) : Bool := a == c && b == d
def no2B (c d : Int) : Bool := !(c == 0 && d == 0)
theorem ret_agg2 {a b c d : Int} (h1 : a = c) (h2 : b = d) : Ending.returned (.agg #[.int .i64 a, .int .i64 b]) = .returned (.agg #[.int .i64 c, .int .i64 d]) := by rw [h1, h2]
theorem open_any (s r : Int) (w : World) (h1 : 0 ≤ s) (h2 : s < 1000000000) (h3 : 0 ≤ r) (h4 : r ≤ 10000) :
  Calls Tryz.prog 60 #[.agg #[.int .i64 s, .int .i64 r]] w fun e w' => e = .returned (.agg #[.int .i64 (loT s r), .int .i64 (hiT s r)]) ∧ Below w.heap.size w w' := by
 go_enter Tryz.func60, Tryz.ntmps60
 go_wp2_with fail
 all_goals
  refine bodyPost_ret (by simp [results, Tryz.results60, go_sem]; rfl) rfl ?_
  refine ⟨ret_agg2 ?_ ?_, belt⟩
  all_goals (simp only [loT, hiT]; try omega)
theorem common_any (a b c d : Int) (w : World) :
  Calls Tryz.prog 99 #[.agg #[.int .i64 a, .int .i64 b], .agg #[.int .i64 c, .int .i64 d]] w fun e w' => e = .returned (.agg #[.int .i64 (comA a b c d), .int .i64 (comB a b c d)]) ∧ Below w.heap.size w w' := by
 go_enter Tryz.func99, Tryz.ntmps99
 go_wp2_with fail
 all_goals
  refine bodyPost_ret (by simp [results, Tryz.results99, go_sem]; rfl) rfl ?_
  refine ⟨ret_agg2 ?_ ?_, belt⟩
  all_goals (simp only [comA, comB]; (repeat' split) <;> omega)
theorem maybe1_any (a b c d : Int) (w : World) :
  Calls Tryz.prog 85 #[.agg #[.int .i64 a, .int .i64 b], .agg #[.int .i64 c, .int .i64 d]] w fun e w' => e = .returned (.bool (no2B c d)) ∧ Below w.heap.size w w' := by
 go_enter Tryz.func85, Tryz.ntmps85
 go_wp2_with fail
 all_goals
  go_ret
  refine ⟨ret_bool ?_, belt⟩
  simp_all [eq2B, no2B]
set_option maxHeartbeats 400000 in
theorem askM_yes (s r a b : Int) (w : World) (h1 : 0 ≤ s) (h2 : s < 1000000000) (h3 : 0 ≤ r) (h4 : r ≤ 10000) (h5 : 0 ≤ a) (h6 : a ≤ b) (h7 : b ≤ 1000000000) :
  Calls Tryz.prog 84 #[.agg #[.int .i64 s, .int .i64 r], .agg #[.int .i64 a, .int .i64 b], .func (.func 60) #[.agg #[.int .i64 s, .int .i64 r]] #[], .func (.func 85) #[] #[]] w
   fun e w' => e = .returned (.tuple #[.bool (no2B (comA (loT s r) (hiT s r) a b) (comB (loT s r) (hiT s r) a b)), .int .i64 0]) ∧ Below w.heap.size w w' := by
 have ht : (timeB s && errB r) = true := by simp [timeB, errB, h1, h2, h3, h4]
 have hp : perB a b = true := by simp [perB, h5, h6, h7]
 have ⟨H_ht, H_hp⟩ := hid2 ht hp; clear ht hp
 go_enter Tryz.func84, Tryz.ntmps84
 go_wp2_with fail
 refine (right_any s r _).mono ?_
 rw [H_ht.out]
 rintro e w1 ⟨rfl, hb1⟩
 obtain ⟨hc1, hf1⟩ := bcell hb1
 have hz1 : w.heap.size + 1 < w1.heap.size := by have := hb1.size; simp at this; omega
 go_wp2_with fail
 refine (within4 _ 0 a b 1000000000 true (by rw [rises_per, H_hp.out]) _ (newAt (by simp))).mono ?_
 rintro e w' ⟨rfl, m, rfl⟩
 go_wp2_with fail
 have g1 : ((w1.alloc (Obj.cells #[Value.int IntKind.i64 0, Value.int IntKind.i64 a, Value.int IntKind.i64 b, Value.int IntKind.i64 1000000000] 3)).drewN m).cell? ⟨w.heap.size + 1, 0, none⟩ = some (.int .i64 a) := by go_simp
 have g2 : ((w1.alloc (Obj.cells #[Value.int IntKind.i64 0, Value.int IntKind.i64 a, Value.int IntKind.i64 b, Value.int IntKind.i64 1000000000] 3)).drewN m).cell? ⟨w.heap.size + 1, 1, none⟩ = some (.int .i64 b) := by go_simp
 have g3 : Below w.heap.size w ((w1.alloc (Obj.cells #[Value.int IntKind.i64 0, Value.int IntKind.i64 a, Value.int IntKind.i64 b, Value.int IntKind.i64 1000000000] 3)).drewN m) := belt
 have g4 : w.heap.size + 1 < ((w1.alloc (Obj.cells #[Value.int IntKind.i64 0, Value.int IntKind.i64 a, Value.int IntKind.i64 b, Value.int IntKind.i64 1000000000] 3)).drewN m).heap.size := by simp; omega
 clear hc1 hf1 hz1
 generalize ((w1.alloc (Obj.cells #[Value.int IntKind.i64 0, Value.int IntKind.i64 a, Value.int IntKind.i64 b, Value.int IntKind.i64 1000000000] 3)).drewN m) = w2 at *
 clear hb1
 go_region_held3 (fun W => (∀ b o, b < w2.heap.size → W.cell? ⟨b, o, none⟩ = w2.cell? ⟨b, o, none⟩) ∧ Below w2.heap.size w2 W) (first | (refine ext_mk ?_; exact belt)) (first | (go_at_call 60; refine (open_any s r _ h1 h2 h3 h4).mono ?_; rintro e w1 ⟨rfl, hb1⟩) | (go_at_call 99; refine (common_any _ _ _ _ _).mono ?_; rintro e w1 ⟨rfl, hb1⟩) | (go_at_call 85; refine (maybe1_any _ _ _ _ _).mono ?_; rintro e w1 ⟨rfl, hb1⟩))
 all_goals
  go_wp2_with fail
  go_ret2
  exact ⟨rfl, g3.trans (Below.mono (And.right (by assumption)) (by omega))⟩
theorem askM_no (s r a b : Int) (w : World) (h : (timeB s && errB r && perB a b) = false) :
  Calls Tryz.prog 84 #[.agg #[.int .i64 s, .int .i64 r], .agg #[.int .i64 a, .int .i64 b], .func (.func 60) #[.agg #[.int .i64 s, .int .i64 r]] #[], .func (.func 85) #[] #[]] w
   fun e w' => e = .returned (.tuple #[.bool false, .int .i64 1]) ∧ Below w.heap.size w w' := by
 cases ht : (timeB s && errB r)
 ·have H_h := Lib.hid h; clear h; have H_ht := Lib.hid ht; clear ht
  go_enter Tryz.func84, Tryz.ntmps84
  go_wp2_with fail
  refine (right_any s r _).mono ?_
  rw [H_ht.out]
  rintro e w1 ⟨rfl, hb1⟩
  go_wp2_with fail
  go_ret2
  exact ⟨rfl, belt⟩
 ·have hp : perB a b = false := by rw [ht] at h; simpa using h
  have ⟨H_h, H_ht, H_hp⟩ := hid3 h ht hp; clear h ht hp
  go_enter Tryz.func84, Tryz.ntmps84
  go_wp2_with fail
  refine (right_any s r _).mono ?_
  rw [H_ht.out]
  rintro e w1 ⟨rfl, hb1⟩
  obtain ⟨hc1, hf1⟩ := bcell hb1
  have hz1 : w.heap.size + 1 < w1.heap.size := by have := hb1.size; simp at this; omega
  go_wp2_with fail
  refine (within4 _ 0 a b 1000000000 false (by rw [rises_per, H_hp.out]) _ (newAt (by simp))).mono ?_
  rintro e w' ⟨rfl, m, rfl⟩
  go_wp2_with fail
  go_ret2
  exact ⟨rfl, belt⟩
def readB (s r : Int) : Bool := timeB s && errB r
def askB (s r a b : Int) : Bool := timeB s && errB r && perB a b
def trueA (s r : Int) : Int := if readB s r then loT s r else 0
def trueB (s r : Int) : Int := if readB s r then hiT s r else 0
def sureB (s r a b : Int) : Bool := askB s r a b && (decide (a ≤ loT s r) && decide (hiT s r ≤ b))
def mayB (s r a b : Int) : Bool := askB s r a b && decide (max a (loT s r) < min b (hiT s r))
def errN (b : Bool) : Int := if b then 0 else 1
theorem timeB_iff {s : Int} : timeB s = true ↔ 0 ≤ s ∧ s < 1000000000 := by simp [timeB]
theorem errB_iff {s : Int} : errB s = true ↔ 0 ≤ s ∧ s ≤ 10000 := by simp [errB]
theorem perB_iff {a b : Int} : perB a b = true ↔ 0 ≤ a ∧ a ≤ b ∧ b ≤ 1000000000 := by simp [perB]
theorem readB_iff {s r : Int} : readB s r = true ↔ (0 ≤ s ∧ s < 1000000000) ∧ 0 ≤ r ∧ r ≤ 10000 := by simp [readB, timeB_iff, errB_iff]
theorem askB_iff {s r a b : Int} : askB s r a b = true ↔ ((0 ≤ s ∧ s < 1000000000) ∧ 0 ≤ r ∧ r ≤ 10000) ∧ 0 ≤ a ∧ a ≤ b ∧ b ≤ 1000000000 := by simp [askB, timeB_iff, errB_iff, perB_iff]
theorem lo_hi (s r : Int) (h1 : 0 ≤ s) (h2 : s < 1000000000) (h3 : 0 ≤ r) : 0 ≤ loT s r ∧ loT s r ≤ s ∧ s < hiT s r ∧ hiT s r ≤ 1000000000 := by
 simp only [loT, hiT]; omega
theorem eq_com (l h a b : Int) (hl : l < h) : eq2B l h (comA l h a b) (comB l h a b) = (decide (a ≤ l) && decide (h ≤ b)) := by
 rw [Bool.eq_iff_iff]
 unfold eq2B comA comB
 by_cases hc : max l a < min h b
 ·rw [if_pos hc, if_pos hc]; simp only [Bool.and_eq_true, beq_iff_eq, decide_eq_true_eq]; omega
 ·rw [if_neg hc, if_neg hc]; simp only [Bool.and_eq_true, beq_iff_eq, decide_eq_true_eq]; omega
theorem no_com (l h a b : Int) (hl : 0 ≤ l) (hh : l < h) (ha : 0 ≤ a) : no2B (comA l h a b) (comB l h a b) = decide (max a l < min b h) := by
 rw [Bool.eq_iff_iff]
 unfold no2B comA comB
 by_cases hc : max l a < min h b
 ·rw [if_pos hc, if_pos hc]; simp only [Bool.not_eq_true', Bool.and_eq_false_iff, beq_eq_false_iff_ne, decide_eq_true_eq]; omega
 ·rw [if_neg hc, if_neg hc]; simp only [Bool.not_eq_true', Bool.and_eq_false_iff, beq_eq_false_iff_ne, decide_eq_true_eq]; omega
theorem sure_of (s r a b : Int) (h1 : 0 ≤ s) (h2 : s < 1000000000) (h3 : 0 ≤ r) (h4 : r ≤ 10000) (h5 : 0 ≤ a) (h6 : a ≤ b) (h7 : b ≤ 1000000000) :
  eq2B (loT s r) (hiT s r) (comA (loT s r) (hiT s r) a b) (comB (loT s r) (hiT s r) a b) = sureB s r a b := by
 have h : askB s r a b = true := askB_iff.2 (by omega)
 have hl := lo_hi s r h1 h2 h3
 rw [eq_com _ _ _ _ (by omega), sureB, h, Bool.true_and]
theorem may_of (s r a b : Int) (h1 : 0 ≤ s) (h2 : s < 1000000000) (h3 : 0 ≤ r) (h4 : r ≤ 10000) (h5 : 0 ≤ a) (h6 : a ≤ b) (h7 : b ≤ 1000000000) :
  no2B (comA (loT s r) (hiT s r) a b) (comB (loT s r) (hiT s r) a b) = mayB s r a b := by
 have h : askB s r a b = true := askB_iff.2 (by omega)
 have hl := lo_hi s r h1 h2 h3
 rw [no_com _ _ _ _ hl.1 (by omega) h5, mayB, h, Bool.true_and]
theorem ret_pair {a b : Bool} {m n : Int} (h : a = b) (h' : m = n) : Ending.returned (.tuple #[.bool a, .int .i64 m]) = .returned (.tuple #[.bool b, .int .i64 n]) := by rw [h, h']
theorem ret_span {a b c d : Int} {m n : Int} (h : a = b) (h2 : c = d) (h' : m = n) : Ending.returned (.tuple #[.agg #[.int .i64 a, .int .i64 c], .int .i64 m]) = .returned (.tuple #[.agg #[.int .i64 b, .int .i64 d], .int .i64 n]) := by rw [h, h2, h']
theorem clockTrue_any (s r : Int) (w : World) :
  Calls Tryz.prog 30 #[.int .i64 s, .int .i64 r] w fun e w' => e = .returned (.tuple #[.agg #[.int .i64 (trueA s r), .int .i64 (trueB s r)], .int .i64 (errN (readB s r))]) ∧ Below w.heap.size w w' := by
 cases hr : (timeB s && errB r)
 ·have hq : readB s r = false := hr
  have ⟨H_hr, H_hq⟩ := hid2 hr hq; clear hr hq
  go_enter Tryz.func30, Tryz.ntmps30
  go_wp2_with fail
  refine (right_any s r _).mono ?_
  rw [H_hr.out]
  rintro e w1 ⟨rfl, hb1⟩
  obtain ⟨hc1, hf1⟩ := bcell hb1
  have hz1 : w.heap.size + 1 < w1.heap.size := by have := hb1.size; simp at this; omega
  have k0 : w1.cell? ⟨w.heap.size, 0, none⟩ = some (.int .i64 0) := by rw [hb1.cell (by simp; omega)]; go_simp
  have k1 : w1.cell? ⟨w.heap.size, 1, none⟩ = some (.int .i64 0) := by rw [hb1.cell (by simp; omega)]; go_simp
  go_wp2_with fail
  refine bodyPost_ret (by go_simp; simp [results, Tryz.results30, go_sem, k0, k1]; rfl) rfl ?_
  refine ⟨ret_span ?_ ?_ ?_, belt⟩
  all_goals simp [trueA, trueB, errN, H_hq.out]
 ·have hq : readB s r = true := hr
  obtain ⟨⟨h1, h2⟩, h3, h4⟩ := readB_iff.1 hq
  have ⟨H_hr, H_hq⟩ := hid2 hr hq; clear hr hq
  go_enter Tryz.func30, Tryz.ntmps30
  go_wp2_with fail
  refine (right_any s r _).mono ?_
  rw [H_hr.out]
  rintro e w1 ⟨rfl, hb1⟩
  obtain ⟨hc1, hf1⟩ := bcell hb1
  have hz1 : w.heap.size + 1 < w1.heap.size := by have := hb1.size; simp at this; omega
  go_wp2_with fail
  refine (open_any s r _ h1 h2 h3 h4).mono ?_
  rintro e w2 ⟨rfl, hb2⟩
  obtain ⟨hc2, hf2⟩ := bcell hb2
  have hz2 : w.heap.size + 1 < w2.heap.size := by have := hb2.size; omega
  have hz0 : w.heap.size < w1.heap.size := by omega
  have k0 : w2.cell? ⟨w.heap.size, 0, none⟩ = some (.int .i64 0) := by rw [hb2.cell (by simp; omega), hb1.cell (by simp; omega)]; go_simp
  have k1 : w2.cell? ⟨w.heap.size, 1, none⟩ = some (.int .i64 0) := by rw [hb2.cell (by simp; omega), hb1.cell (by simp; omega)]; go_simp
  go_wp2_with fail
  refine bodyPost_ret (by go_simp; simp [results, Tryz.results30, go_sem, k0, k1]; rfl) rfl ?_
  refine ⟨ret_span ?_ ?_ ?_, belt⟩
  all_goals simp [trueA, trueB, errN, H_hq.out]
theorem clockMaybe_any (s r a b : Int) (w : World) :
  Calls Tryz.prog 64 #[.int .i64 s, .int .i64 r, .agg #[.int .i64 a, .int .i64 b]] w fun e w' => e = .returned (.tuple #[.bool (mayB s r a b), .int .i64 (errN (askB s r a b))]) ∧ Below w.heap.size w w' := by
 cases hr : askB s r a b
 ·have H_hr := Lib.hid hr; clear hr
  go_enter Tryz.func64, Tryz.ntmps64
  go_wp2_with fail
  refine (askM_no s r a b _ H_hr.out).mono ?_
  rintro e w1 ⟨rfl, hb1⟩
  go_wp2_with fail
  go_ret2
  exact ⟨ret_pair (by simp [mayB, H_hr.out]) rfl, belt⟩
 ·obtain ⟨⟨⟨h1, h2⟩, h3, h4⟩, h5, h6, h7⟩ := askB_iff.1 hr
  have H_hr := Lib.hid hr; clear hr
  go_enter Tryz.func64, Tryz.ntmps64
  go_wp2_with fail
  refine (askM_yes s r a b _ h1 h2 h3 h4 h5 h6 h7).mono ?_
  rintro e w1 ⟨rfl, hb1⟩
  go_wp2_with fail
  go_ret2
  exact ⟨ret_pair (may_of s r a b h1 h2 h3 h4 h5 h6 h7) rfl, belt⟩
def PP : Nat := 2147483579
def QQ : Nat := 1073741789
def mp (m : Nat) : Nat → Nat → Nat → Nat → Nat
 | 0, _, _, out => out
 | f + 1, a, x, out => if x = 0 then out else mp m f (a * a % m) (x / 2) (if x % 2 = 1 then out * a % m else out)
theorem pow_half (a x : Nat) : a ^ x = (a * a) ^ (x / 2) * (if x % 2 = 1 then a else 1) := by
 have h : x = 2 * (x / 2) + x % 2 := by omega
 conv => lhs; rw [h]
 rw [Nat.pow_add, Nat.pow_mul, Nat.pow_two]
 rcases (by omega : x % 2 = 0 ∨ x % 2 = 1) with h2 | h2 <;> simp [h2]
theorem pow_round (m a x out : Nat) : ((if x % 2 = 1 then out * a % m else out) * (a * a % m) ^ (x / 2)) % m = out * a ^ x % m := by
 rw [pow_half a x]
 split
 ·rw [Nat.mul_mod, Nat.mod_mod, Nat.pow_mod, Nat.mod_mod, ← Nat.pow_mod, ← Nat.mul_mod]
  congr 1
  rw [Nat.mul_assoc, Nat.mul_comm a]
 ·rw [Nat.mul_mod, Nat.pow_mod, Nat.mod_mod, ← Nat.pow_mod, ← Nat.mul_mod, Nat.mul_one]
theorem mp_eq (m : Nat) : ∀ f a x out, x < 2 ^ f → mp m f a x out % m = out * a ^ x % m
  | 0, a, x, out, h => by have : x = 0 := by simpa using h
                          subst this; simp [mp]
  | f + 1, a, x, out, h => by
    rw [mp]
    by_cases h0 : x = 0
    · subst h0; simp
    · rw [if_neg h0, mp_eq m f _ _ _ (by rw [Nat.pow_succ] at h; omega), pow_round]
def pw (a x m : Nat) : Nat := a ^ x % m
theorem pw_lt {a x m : Nat} (h : 0 < m) : pw a x m < m := Nat.mod_lt _ h
theorem pw_mp {a x m : Nat} (f : Nat) (h : x < 2 ^ f) : pw a x m = mp m f a x 1 % m := by rw [mp_eq m f a x 1 h, Nat.one_mul]; rfl
theorem pw_pw (a x y m : Nat) : pw (pw a x m) y m = pw a (x * y) m := by
 simp only [pw]; rw [← Nat.pow_mod, Nat.pow_mul]
theorem pw_add (a x y m : Nat) : pw a (x + y) m = pw a x m * pw a y m % m := by
 simp only [pw]; rw [Nat.pow_add, Nat.mul_mod]
theorem pw_one_pow {m : Nat} (h : 1 < m) (x : Nat) : pw 1 x m = 1 := by simp [pw, Nat.mod_eq_of_lt h]
theorem pw_mod_exp {a q m : Nat} (hm : 1 < m) (h : pw a q m = 1) (x : Nat) : pw a (x % q) m = pw a x m := by
 have e : x = q * (x / q) + x % q := (Nat.div_add_mod x q).symm
 conv => rhs; rw [e]
 rw [pw_add, ← pw_pw, h, pw_one_pow hm, Nat.one_mul, pw, Nat.mod_mod]
theorem PP_gt : 1 < PP := by decide
theorem four_q : pw 4 QQ PP = 1 := by rw [pw_mp 31 (by decide)]; decide +kernel
def memB (a : Nat) : Bool := decide (1 ≤ a) && decide (a < PP) && (pw a QQ PP == 1)
theorem memB_iff {a : Nat} : memB a = true ↔ 1 ≤ a ∧ a < PP ∧ pw a QQ PP = 1 := by simp [memB, and_assoc]
theorem mem_pw {a : Nat} (h : pw a QQ PP = 1) (x : Nat) : memB (pw a x PP) = true := by
 have h1 : pw (pw a x PP) QQ PP = 1 := by rw [pw_pw, Nat.mul_comm, ← pw_pw, h, pw_one_pow PP_gt]
 refine memB_iff.2 ⟨?_, pw_lt (by decide), h1⟩
 rcases Nat.eq_zero_or_pos (pw a x PP) with h0 | h0
 ·rw [h0, pw, Nat.zero_pow (by decide), Nat.zero_mod] at h1; omega
 ·exact h0
theorem back_right (s o e : Nat) (he : e < QQ) : pw 4 ((o + e * s) % QQ) PP * pw (pw 4 s PP) ((QQ - e) % QQ) PP % PP = pw 4 o PP := by
 have hs : pw (pw 4 s PP) QQ PP = 1 := (memB_iff.1 (mem_pw four_q s)).2.2
 rw [pw_mod_exp PP_gt four_q, pw_mod_exp PP_gt hs, pw_pw, ← pw_add]
 have : o + e * s + s * (QQ - e) = o + QQ * s := by
  have h1 : e * s + s * (QQ - e) = QQ * s := by
   rw [Nat.mul_comm e s, ← Nat.mul_add, Nat.add_sub_cancel' (Nat.le_of_lt he), Nat.mul_comm]
  omega
 rw [this, pw_add, ← pw_pw 4 QQ s, four_q, pw_one_pow PP_gt, Nat.mul_one, pw, Nat.mod_mod]
end Go.Proofs.YtoehobaigfmnpaaGreatDoor

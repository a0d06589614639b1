/- Contracts of the exported functions of package clock and of its reference, for any world and any numbers. -/
import Derived.DeepKeys
import Derived.WalkKit
import Derived.WalkSpells
import Derived.WalkLawsBesides
import Derived.Deep.QuietTactic
import Derived.BigQuiet
import Derived.Lib.Hide
import Derived.Below
import Derived.IntWalk
import Derived.Laws.Rows
import Derived.Outline
import Derived.Deep.RegionHeld3
import Derived.Deep.RegionWith
import Derived.StillTailTactics
import Derived.Test.YtclgncaghiinhaaGreatDoorU1
import Derived.Test.YtclgncaghiinhaaGreatDoorU10
import Derived.Test.YtclgncaghiinhaaGreatDoorU15
set_option linter.unusedSimpArgs false
set_option linter.unusedVariables false
set_option maxRecDepth 100000
namespace Go.Proofs.YtclgncaghiinhaaGreatDoor
open Go.RowKit
section
open Go.RowKit Go.ChangeShapes Go.WideShapes Go.ChangeAt
theorem read_card {H : Type} {enc : TypeId × Value → H} {W : World} {held : Bool} (fuel : Nat) (cs : List Value) (x : DataW H × List MemPlace) (hl : cs.length = 9) (h : DataW.trod enc Tryz.prog W 0 (fun _ => true) held fuel 28 cs = some x) : ∃ z, CdAt W cs z := by
 obtain ⟨xs, n, _, _, _, hlen, hg⟩ := DataW.trod_struct Tryz.underlying28 h
 have hx : xs.length = 8 := hlen
 match xs, hx, cs, hl with
 | [y0, y1, y2, y3, y4, y5, y6, y7], _, [c0, c1, c2, c3, c4, c5, c6, c7, c8], _ =>
  have e1 : Tryz.prog.cellsOf 3 = 1 := by kernel_rfl
  have e2 : Tryz.prog.cellsOf 26 = 2 := by kernel_rfl
  have g0 := hg 0 _ rfl
  have g1 := hg 1 _ rfl
  have g2 := hg 2 _ rfl
  have g3 := hg 3 _ rfl
  have g4 := hg 4 _ rfl
  have g5 := hg 5 _ rfl
  have g6 := hg 6 _ rfl
  have g7 := hg 7 _ rfl
  simp [e1, e2] at g0 g1 g2 g3 g4 g5 g6 g7
  obtain ⟨a0, rfl, w0⟩ := read_int Tryz.underlying3 g0
  obtain ⟨a1, rfl, w1⟩ := read_int Tryz.underlying3 g1
  obtain ⟨a2, rfl, w2⟩ := read_int Tryz.underlying3 g2
  obtain ⟨a3, rfl, w3⟩ := read_int Tryz.underlying3 g3
  obtain ⟨a4, rfl, w4⟩ := read_int Tryz.underlying3 g4
  obtain ⟨a5, rfl, w5⟩ := read_int Tryz.underlying3 g5
  obtain ⟨a6, rfl, w6⟩ := read_int Tryz.underlying3 g6
  obtain ⟨zs, n2, _, _, _, hlen2, hg2⟩ := DataW.trod_struct Tryz.underlying26 g7
  have hz : zs.length = 2 := hlen2
  match zs, hz with
  | [z0, z1], _ =>
   have k0 := hg2 0 _ rfl
   have k1 := hg2 1 _ rfl
   simp [e1] at k0 k1
   obtain ⟨a7, rfl, w7⟩ := read_int Tryz.underlying3 k0
   obtain ⟨a8, rfl, w8⟩ := read_int Tryz.underlying3 k1
   exact ⟨⟨a0, a1, a2, a3, a4, a5, a6, a7, a8⟩, rfl, ⟨wf_i64 w0, wf_i64 w1, wf_i64 w2, wf_i64 w3, wf_i64 w4, wf_i64 w5, wf_i64 w6, wf_i64 w7, wf_i64 w8⟩⟩
theorem open_card {H : Type} {enc : TypeId × Value → H} {W : World} {base : Nat} {held : Bool} {v : Value} {d : DataW H} {p : List MemPlace} (hv : Value.okWide Tryz.prog W .any base 28 v) (h : DataW.Trod enc Tryz.prog W 0 (fun _ => true) held 28 v d p) :
  ∃ c : Crd, v = .agg c.cells.toArray ∧ CFit c := by
 obtain ⟨cs, rfl, hsz⟩ := okWide_struct Tryz.underlying28 hv
 have e : Tryz.prog.cellsOf 28 = 9 := by kernel_rfl
 obtain ⟨fuel, hf⟩ := h
 obtain ⟨z, hz, hzf⟩ := read_card fuel cs.toList _ (by rw [Array.length_toList, hsz, e]) hf
 exact ⟨z, by rw [← hz], hzf⟩
end
/-- the list rises weakly -/
def risesB : List Int → Bool
 | a :: b :: r => decide (a ≤ b) && risesB (b :: r)
 | _ => true
theorem rises_take_succ : ∀ (l : List Int) (k : Nat), 1 ≤ k → k < l.length → risesB (l.take k) = true →
  risesB (l.take (k + 1)) = decide (l.getD (k - 1) 0 ≤ l.getD k 0)
 | [], k, _, h, _ => by simp at h
 | [a], k, h1, h, _ => by simp at h; omega
 | a :: b :: r, 1, _, _, _ => by simp [risesB]
 | a :: b :: r, k + 2, _, h, hr => by
  have h2 : risesB ((b :: r).take (k + 1)) = true := by
   simp [risesB] at hr ⊢; exact hr.2
  have ih := rises_take_succ (b :: r) (k + 1) (by omega) (by simpa using h) h2
  have hab : a ≤ b := by simp [risesB] at hr; exact hr.1
  simp [risesB, hab] at ih ⊢
  exact ih
theorem rises_false : ∀ (l : List Int) (k : Nat), risesB (l.take k) = false → risesB l = false
 | [], k, h => by simp [risesB] at h
 | [a], k, h => by cases k <;> simp [risesB] at h
 | a :: b :: r, 0, h => by simp [risesB] at h
 | a :: b :: r, 1, h => by simp [risesB] at h
 | a :: b :: r, k + 2, h => by
  simp [risesB] at h ⊢
  intro hab
  exact rises_false (b :: r) (k + 1) (by simpa using h hab)
set_option maxHeartbeats 400000 in
theorem kwithin_any (b : Nat) (n c : Nat) (zs : List Int) (w : World) (hn : zs.length = n) (hb : n ≤ 1000000)
  (hc : ∀ i, i < n → w.cell? ⟨b, i, none⟩ = some (.int .i64 (zs.getD i 0))) :
  Calls Tryz.prog 103 #[.slice (some ⟨b, 0, none⟩) n c] w fun e w' => e = .returned (.bool (risesB zs)) ∧ ∃ m, w' = w.drewN m := by
 have Hhn := Lib.hid hn; clear hn
 have Hhc := Lib.hid hc; clear hc
 go_enter Tryz.func103, Tryz.ntmps103
 go_wp2
 go_loopw [3] (fun i wr => ∃ k m : Nat, 1 ≤ k ∧ k ≤ n + 1 ∧ i = .int .i64 k ∧ risesB (zs.take k) = true ∧ wr = w.drewN m) (fun i _ => n + 1 - (intOf i).toNat)
 case atStart => exact ⟨1, 0, by omega, by omega, rfl, by cases zs <;> simp [risesB], rfl⟩
 case round =>
  obtain ⟨k, m, hk1, hk2, rfl, hr, rfl⟩ := hrel
  have Hhr := Lib.hid hr; clear hr
  by_cases hlt : k < n
  ·have c1 := Hhc.out k hlt
   have c2 := Hhc.out (k - 1) (by omega)
   have hs := rises_take_succ zs k hk1 (by rw [Hhn.out]; exact hlt) Hhr.out
   have Hhs := Lib.hid hs; clear hs
   have q1 : IntKind.i64.wrap ((k : Int) - 1) = (k : Int) - 1 := IntWalk.i64_in _ (by omega)
   have q2 : (0 : Int) ≤ (k : Int) - 1 := by omega
   have q3 : ((k : Int) - 1).toNat = k - 1 := by omega
   have q4 : (k : Int) - 1 < n := by omega
   have q5 : (k : Int) < n := by omega
   go_wp2
   go_quiet (fail)
   go_wp2
   ·have hx : zs[k]?.getD 0 < zs[k - 1]?.getD 0 := by assumption
    go_ret
    have hf : risesB zs = false := rises_false zs (k + 1) (by rw [Hhs.out]; simp; omega)
    rw [hf]
    exact ⟨rfl, _, World.drewN_drewN _ _ _⟩
   ·have hx : zs[k - 1]?.getD 0 ≤ zs[k]?.getD 0 := by assumption
    go_roundw
    case rel => exact ⟨k + 1, _, by omega, by omega, by go_num, by rw [Hhs.out]; simp; omega, rfl⟩
    case measure => simp [intOf]; omega
  ·go_wp2
   go_ret
   have : zs.take k = zs := List.take_of_length_le (by rw [Hhn.out]; omega)
   rw [← this, Hhr.out]
   exact ⟨rfl, _, rfl⟩
/-- what a reading is -/
def timeB (n : Int) : Bool := decide (0 ≤ n) && decide (n < 1000000000)
def errB (n : Int) : Bool := decide (0 ≤ n) && decide (n ≤ 10000)
def perB (a b : Int) : Bool := decide (0 ≤ a) && (decide (a ≤ b) && decide (b ≤ 1000000000))
theorem rises_time (s : Int) : risesB [0, s, 999999999] = timeB s := by
 simp only [risesB, timeB, Bool.and_true]; congr 1; apply decide_eq_decide.2; omega
theorem rises_err (s : Int) : risesB [0, s, 10000] = errB s := by
 simp only [risesB, errB, Bool.and_true]
theorem rises_per (a b : Int) : risesB [0, a, b, 1000000000] = perB a b := by
 simp only [risesB, perB, Bool.and_true]
theorem within3 (b : Nat) (x y z : Int) (v : Bool) (hv : risesB [x, y, z] = v) (w : World) (h : w.heap[b]? = some (.cells #[.int .i64 x, .int .i64 y, .int .i64 z] 3)) :
  Calls Tryz.prog 103 #[.slice (some ⟨b, 0, none⟩) 3 3] w fun e w' => e = .returned (.bool v) ∧ ∃ m, w' = w.drewN m := by
 subst hv
 exact kwithin_any b 3 3 [x, y, z] w rfl (by omega) fun i hi => by
  rw [cell_of_row w b i _ _ _ h]
  match i, hi with
  | 0, _ => rfl
  | 1, _ => rfl
  | 2, _ => rfl
theorem within4 (b : Nat) (x y z u : Int) (v : Bool) (hv : risesB [x, y, z, u] = v) (w : World) (h : w.heap[b]? = some (.cells #[.int .i64 x, .int .i64 y, .int .i64 z, .int .i64 u] 3)) :
  Calls Tryz.prog 103 #[.slice (some ⟨b, 0, none⟩) 4 4] w fun e w' => e = .returned (.bool v) ∧ ∃ m, w' = w.drewN m := by
 subst hv
 exact kwithin_any b 4 4 [x, y, z, u] w rfl (by omega) fun i hi => by
  rw [cell_of_row w b i _ _ _ h]
  match i, hi with
  | 0, _ => rfl
  | 1, _ => rfl
  | 2, _ => rfl
  | 3, _ => rfl
theorem right_any (s r : Int) (w : World) :
  Calls Tryz.prog 84 #[.agg #[.int .i64 s, .int .i64 r]] w fun e w' => e = .returned (.bool (timeB s && errB r)) ∧ Below w.heap.size w w' := by
 cases ht : timeB s
 ·have Hht := Lib.hid ht; clear ht
  go_enter Tryz.func84, Tryz.ntmps84
  go_wp2_with fail
  refine (within3 _ 0 s 999999999 false (by rw [rises_time, Hht.out]) _ (newAt (by simp))).mono ?_
  rintro e w' ⟨rfl, m, rfl⟩
  go_wp2_with fail
  go_ret
  exact ⟨rfl, belt⟩
 ·have Hht := Lib.hid ht; clear ht
  go_enter Tryz.func84, Tryz.ntmps84
  go_wp2_with fail
  refine (within3 _ 0 s 999999999 true (by rw [rises_time, Hht.out]) _ (newAt (by simp))).mono ?_
  rintro e w' ⟨rfl, m, rfl⟩
  go_wp2_with fail
  refine (within3 _ 0 r 10000 (errB r) (rises_err r) _ (newAt (by simp))).mono ?_
  rintro e w' ⟨rfl, m', rfl⟩
  go_wp2_with fail
  go_ret
  exact ⟨rfl, belt⟩
def loT (s r : Int) : Int := max 0 (s - r)
def hiT (s r : Int) : Int := min 1000000000 (s + r + 1)
def comA (a b c d : Int) : Int := if max a c < min b d then max a c else 0
def comB (a b c d : Int) : Int := if max a c < min b d then min b d else 0
def eq2B (a b c d : Int) : Bool := a == c && b == d
def no2B (c d : Int) : Bool := !(c == 0 && d == 0)
theorem ret_agg2 {a b c d : Int} (h1 : a = c) (h2 : b = d) : Ending.returned (.agg #[.int .i64 a, .int .i64 b]) = .returned (.agg #[.int .i64 c, .int .i64 d]) := by rw [h1, h2]
theorem open_any (s r : Int) (w : World) (h1 : 0 ≤ s) (h2 : s < 1000000000) (h3 : 0 ≤ r) (h4 : r ≤ 10000) :
  Calls Tryz.prog 85 #[.agg #[.int .i64 s, .int .i64 r]] w fun e w' => e = .returned (.agg #[.int .i64 (loT s r), .int .i64 (hiT s r)]) ∧ Below w.heap.size w w' := by
 go_enter Tryz.func85, Tryz.ntmps85
 go_wp2_with fail
 all_goals
  refine bodyPost_ret (by simp [results, Tryz.results85, go_sem]; rfl) rfl ?_
  refine ⟨ret_agg2 ?_ ?_, belt⟩
  all_goals (simp only [loT, hiT]; try omega)
theorem common_any (a b c d : Int) (w : World) :
  Calls Tryz.prog 133 #[.agg #[.int .i64 a, .int .i64 b], .agg #[.int .i64 c, .int .i64 d]] w fun e w' => e = .returned (.agg #[.int .i64 (comA a b c d), .int .i64 (comB a b c d)]) ∧ Below w.heap.size w w' := by
 go_enter Tryz.func133, Tryz.ntmps133
 go_wp2_with fail
 all_goals
  refine bodyPost_ret (by simp [results, Tryz.results133, go_sem]; rfl) rfl ?_
  refine ⟨ret_agg2 ?_ ?_, belt⟩
  all_goals (simp only [comA, comB]; (repeat' split) <;> omega)
theorem maybe1_any (a b c d : Int) (w : World) :
  Calls Tryz.prog 127 #[.agg #[.int .i64 a, .int .i64 b], .agg #[.int .i64 c, .int .i64 d]] w fun e w' => e = .returned (.bool (no2B c d)) ∧ Below w.heap.size w w' := by
 go_enter Tryz.func127, Tryz.ntmps127
 go_wp2_with fail
 all_goals
  go_ret
  refine ⟨ret_bool ?_, belt⟩
  simp_all [eq2B, no2B]
set_option maxHeartbeats 400000 in
theorem askM_yes (s r a b : Int) (w : World) (h1 : 0 ≤ s) (h2 : s < 1000000000) (h3 : 0 ≤ r) (h4 : r ≤ 10000) (h5 : 0 ≤ a) (h6 : a ≤ b) (h7 : b ≤ 1000000000) :
  Calls Tryz.prog 126 #[.agg #[.int .i64 s, .int .i64 r], .agg #[.int .i64 a, .int .i64 b], .func (.func 85) #[.agg #[.int .i64 s, .int .i64 r]] #[], .func (.func 127) #[] #[]] w
   fun e w' => e = .returned (.tuple #[.bool (no2B (comA (loT s r) (hiT s r) a b) (comB (loT s r) (hiT s r) a b)), .int .i64 0]) ∧ Below w.heap.size w w' := by
 have ht : (timeB s && errB r) = true := by simp [timeB, errB, h1, h2, h3, h4]
 have hp : perB a b = true := by simp [perB, h5, h6, h7]
 have ⟨Hht, Hhp⟩ := hid2 ht hp; clear ht hp
 go_enter Tryz.func126, Tryz.ntmps126
 go_wp2_with fail
 refine (right_any s r _).mono ?_
 rw [Hht.out]
 rintro e w1 ⟨rfl, hb1⟩
 obtain ⟨hc1, hf1⟩ := bcell hb1
 have hz1 : w.heap.size + 1 < w1.heap.size := by have := hb1.size; simp at this; omega
 go_wp2_with fail
 refine (within4 _ 0 a b 1000000000 true (by rw [rises_per, Hhp.out]) _ (newAt (by simp))).mono ?_
 rintro e w' ⟨rfl, m, rfl⟩
 go_wp2_with fail
 have g1 : ((w1.alloc (Obj.cells #[Value.int IntKind.i64 0, Value.int IntKind.i64 a, Value.int IntKind.i64 b, Value.int IntKind.i64 1000000000] 3)).drewN m).cell? ⟨w.heap.size + 1, 0, none⟩ = some (.int .i64 a) := by go_simp
 have g2 : ((w1.alloc (Obj.cells #[Value.int IntKind.i64 0, Value.int IntKind.i64 a, Value.int IntKind.i64 b, Value.int IntKind.i64 1000000000] 3)).drewN m).cell? ⟨w.heap.size + 1, 1, none⟩ = some (.int .i64 b) := by go_simp
 have g3 : Below w.heap.size w ((w1.alloc (Obj.cells #[Value.int IntKind.i64 0, Value.int IntKind.i64 a, Value.int IntKind.i64 b, Value.int IntKind.i64 1000000000] 3)).drewN m) := belt
 have g4 : w.heap.size + 1 < ((w1.alloc (Obj.cells #[Value.int IntKind.i64 0, Value.int IntKind.i64 a, Value.int IntKind.i64 b, Value.int IntKind.i64 1000000000] 3)).drewN m).heap.size := by simp; omega
 clear hc1 hf1 hz1
 generalize ((w1.alloc (Obj.cells #[Value.int IntKind.i64 0, Value.int IntKind.i64 a, Value.int IntKind.i64 b, Value.int IntKind.i64 1000000000] 3)).drewN m) = w2 at *
 clear hb1
 go_region_held3 (fun W => (∀ b o, b < w2.heap.size → W.cell? ⟨b, o, none⟩ = w2.cell? ⟨b, o, none⟩) ∧ Below w2.heap.size w2 W) (first | (refine ext_mk ?_; exact belt)) (first | (go_at_call 85; refine (open_any s r _ h1 h2 h3 h4).mono ?_; rintro e w1 ⟨rfl, hb1⟩) | (go_at_call 133; refine (common_any _ _ _ _ _).mono ?_; rintro e w1 ⟨rfl, hb1⟩) | (go_at_call 127; refine (maybe1_any _ _ _ _ _).mono ?_; rintro e w1 ⟨rfl, hb1⟩))
 all_goals
  go_wp2_with fail
  go_ret2
  exact ⟨rfl, g3.trans (Below.mono (And.right (by assumption)) (by omega))⟩
theorem askM_no (s r a b : Int) (w : World) (h : (timeB s && errB r && perB a b) = false) :
  Calls Tryz.prog 126 #[.agg #[.int .i64 s, .int .i64 r], .agg #[.int .i64 a, .int .i64 b], .func (.func 85) #[.agg #[.int .i64 s, .int .i64 r]] #[], .func (.func 127) #[] #[]] w
   fun e w' => e = .returned (.tuple #[.bool false, .int .i64 1]) ∧ Below w.heap.size w w' := by
 cases ht : (timeB s && errB r)
 ·have Hh := Lib.hid h; clear h; have Hht := Lib.hid ht; clear ht
  go_enter Tryz.func126, Tryz.ntmps126
  go_wp2_with fail
  refine (right_any s r _).mono ?_
  rw [Hht.out]
  rintro e w1 ⟨rfl, hb1⟩
  go_wp2_with fail
  go_ret2
  exact ⟨rfl, belt⟩
 ·have hp : perB a b = false := by rw [ht] at h; simpa using h
  have ⟨Hh, Hht, Hhp⟩ := hid3 h ht hp; clear h ht hp
  go_enter Tryz.func126, Tryz.ntmps126
  go_wp2_with fail
  refine (right_any s r _).mono ?_
  rw [Hht.out]
  rintro e w1 ⟨rfl, hb1⟩
  obtain ⟨hc1, hf1⟩ := bcell hb1
  have hz1 : w.heap.size + 1 < w1.heap.size := by have := hb1.size; simp at this; omega
  go_wp2_with fail
  refine (within4 _ 0 a b 1000000000 false (by rw [rises_per, Hhp.out]) _ (newAt (by simp))).mono ?_
  rintro e w' ⟨rfl, m, rfl⟩
  go_wp2_with fail
  go_ret2
  exact ⟨rfl, belt⟩
def readB (s r : Int) : Bool := timeB s && errB r
def askB (s r a b : Int) : Bool := timeB s && errB r && perB a b
def trueA (s r : Int) : Int := if readB s r then loT s r else 0
def trueB (s r : Int) : Int := if readB s r then hiT s r else 0
def sureB (s r a b : Int) : Bool := askB s r a b && (decide (a ≤ loT s r) && decide (hiT s r ≤ b))
def mayB (s r a b : Int) : Bool := askB s r a b && decide (max a (loT s r) < min b (hiT s r))
def errN (b : Bool) : Int := if b then 0 else 1
theorem timeB_iff {s : Int} : timeB s = true ↔ 0 ≤ s ∧ s < 1000000000 := by simp [timeB]
theorem errB_iff {s : Int} : errB s = true ↔ 0 ≤ s ∧ s ≤ 10000 := by simp [errB]
theorem perB_iff {a b : Int} : perB a b = true ↔ 0 ≤ a ∧ a ≤ b ∧ b ≤ 1000000000 := by simp [perB]
theorem readB_iff {s r : Int} : readB s r = true ↔ (0 ≤ s ∧ s < 1000000000) ∧ 0 ≤ r ∧ r ≤ 10000 := by simp [readB, timeB_iff, errB_iff]
theorem askB_iff {s r a b : Int} : askB s r a b = true ↔ ((0 ≤ s ∧ s < 1000000000) ∧ 0 ≤ r ∧ r ≤ 10000) ∧ 0 ≤ a ∧ a ≤ b ∧ b ≤ 1000000000 := by simp [askB, timeB_iff, errB_iff, perB_iff]
theorem lo_hi (s r : Int) (h1 : 0 ≤ s) (h2 : s < 1000000000) (h3 : 0 ≤ r) : 0 ≤ loT s r ∧ loT s r ≤ s ∧ s < hiT s r ∧ hiT s r ≤ 1000000000 := by
 simp only [loT, hiT]; omega
theorem eq_com (l h a b : Int) (hl : l < h) : eq2B l h (comA l h a b) (comB l h a b) = (decide (a ≤ l) && decide (h ≤ b)) := by
 rw [Bool.eq_iff_iff]
 unfold eq2B comA comB
 by_cases hc : max l a < min h b
 ·rw [if_pos hc, if_pos hc]; simp only [Bool.and_eq_true, beq_iff_eq, decide_eq_true_eq]; omega
 ·rw [if_neg hc, if_neg hc]; simp only [Bool.and_eq_true, beq_iff_eq, decide_eq_true_eq]; omega
theorem no_com (l h a b : Int) (hl : 0 ≤ l) (hh : l < h) (ha : 0 ≤ a) : no2B (comA l h a b) (comB l h a b) = decide (max a l < min b h) := by
 rw [Bool.eq_iff_iff]
 unfold no2B comA comB
 by_cases hc : max l a < min h b
 ·rw [if_pos hc, if_pos hc]; simp only [Bool.not_eq_true', Bool.and_eq_false_iff, beq_eq_false_iff_ne, decide_eq_true_eq]; omega
 ·rw [if_neg hc, if_neg hc]; simp only [Bool.not_eq_true', Bool.and_eq_false_iff, beq_eq_false_iff_ne, decide_eq_true_eq]; omega
theorem sure_of (s r a b : Int) (h1 : 0 ≤ s) (h2 : s < 1000000000) (h3 : 0 ≤ r) (h4 : r ≤ 10000) (h5 : 0 ≤ a) (h6 : a ≤ b) (h7 : b ≤ 1000000000) :
  eq2B (loT s r) (hiT s r) (comA (loT s r) (hiT s r) a b) (comB (loT s r) (hiT s r) a b) = sureB s r a b := by
 have h : askB s r a b = true := askB_iff.2 (by omega)
 have hl := lo_hi s r h1 h2 h3
 rw [eq_com _ _ _ _ (by omega), sureB, h, Bool.true_and]
theorem may_of (s r a b : Int) (h1 : 0 ≤ s) (h2 : s < 1000000000) (h3 : 0 ≤ r) (h4 : r ≤ 10000) (h5 : 0 ≤ a) (h6 : a ≤ b) (h7 : b ≤ 1000000000) :
  no2B (comA (loT s r) (hiT s r) a b) (comB (loT s r) (hiT s r) a b) = mayB s r a b := by
 have h : askB s r a b = true := askB_iff.2 (by omega)
 have hl := lo_hi s r h1 h2 h3
 rw [no_com _ _ _ _ hl.1 (by omega) h5, mayB, h, Bool.true_and]
theorem ret_pair {a b : Bool} {m n : Int} (h : a = b) (h' : m = n) : Ending.returned (.tuple #[.bool a, .int .i64 m]) = .returned (.tuple #[.bool b, .int .i64 n]) := by rw [h, h']
theorem ret_span {a b c d : Int} {m n : Int} (h : a = b) (h2 : c = d) (h' : m = n) : Ending.returned (.tuple #[.agg #[.int .i64 a, .int .i64 c], .int .i64 m]) = .returned (.tuple #[.agg #[.int .i64 b, .int .i64 d], .int .i64 n]) := by rw [h, h2, h']
theorem clockTrue_any (s r : Int) (w : World) :
  Calls Tryz.prog 54 #[.int .i64 s, .int .i64 r] w fun e w' => e = .returned (.tuple #[.agg #[.int .i64 (trueA s r), .int .i64 (trueB s r)], .int .i64 (errN (readB s r))]) ∧ Below w.heap.size w w' := by
 cases hr : (timeB s && errB r)
 ·have hq : readB s r = false := hr
  have ⟨Hhr, Hhq⟩ := hid2 hr hq; clear hr hq
  go_enter Tryz.func54, Tryz.ntmps54
  go_wp2_with fail
  refine (right_any s r _).mono ?_
  rw [Hhr.out]
  rintro e w1 ⟨rfl, hb1⟩
  obtain ⟨hc1, hf1⟩ := bcell hb1
  have hz1 : w.heap.size + 1 < w1.heap.size := by have := hb1.size; simp at this; omega
  have k0 : w1.cell? ⟨w.heap.size, 0, none⟩ = some (.int .i64 0) := by rw [hb1.cell (by simp; omega)]; go_simp
  have k1 : w1.cell? ⟨w.heap.size, 1, none⟩ = some (.int .i64 0) := by rw [hb1.cell (by simp; omega)]; go_simp
  go_wp2_with fail
  refine bodyPost_ret (by go_simp; simp [results, Tryz.results54, go_sem, k0, k1]; rfl) rfl ?_
  refine ⟨ret_span ?_ ?_ ?_, belt⟩
  all_goals simp [trueA, trueB, errN, Hhq.out]
 ·have hq : readB s r = true := hr
  obtain ⟨⟨h1, h2⟩, h3, h4⟩ := readB_iff.1 hq
  have ⟨Hhr, Hhq⟩ := hid2 hr hq; clear hr hq
  go_enter Tryz.func54, Tryz.ntmps54
  go_wp2_with fail
  refine (right_any s r _).mono ?_
  rw [Hhr.out]
  rintro e w1 ⟨rfl, hb1⟩
  obtain ⟨hc1, hf1⟩ := bcell hb1
  have hz1 : w.heap.size + 1 < w1.heap.size := by have := hb1.size; simp at this; omega
  go_wp2_with fail
  refine (open_any s r _ h1 h2 h3 h4).mono ?_
  rintro e w2 ⟨rfl, hb2⟩
  obtain ⟨hc2, hf2⟩ := bcell hb2
  have hz2 : w.heap.size + 1 < w2.heap.size := by have := hb2.size; omega
  have hz0 : w.heap.size < w1.heap.size := by omega
  have k0 : w2.cell? ⟨w.heap.size, 0, none⟩ = some (.int .i64 0) := by rw [hb2.cell (by simp; omega), hb1.cell (by simp; omega)]; go_simp
  have k1 : w2.cell? ⟨w.heap.size, 1, none⟩ = some (.int .i64 0) := by rw [hb2.cell (by simp; omega), hb1.cell (by simp; omega)]; go_simp
  go_wp2_with fail
  refine bodyPost_ret (by go_simp; simp [results, Tryz.results54, go_sem, k0, k1]; rfl) rfl ?_
  refine ⟨ret_span ?_ ?_ ?_, belt⟩
  all_goals simp [trueA, trueB, errN, Hhq.out]
theorem clockMaybe_any (s r a b : Int) (w : World) :
  Calls Tryz.prog 117 #[.int .i64 s, .int .i64 r, .agg #[.int .i64 a, .int .i64 b]] w fun e w' => e = .returned (.tuple #[.bool (mayB s r a b), .int .i64 (errN (askB s r a b))]) ∧ Below w.heap.size w w' := by
 cases hr : askB s r a b
 ·have Hhr := Lib.hid hr; clear hr
  go_enter Tryz.func117, Tryz.ntmps117
  go_wp2_with fail
  refine (askM_no s r a b _ Hhr.out).mono ?_
  rintro e w1 ⟨rfl, hb1⟩
  go_wp2_with fail
  go_ret2
  exact ⟨ret_pair (by simp [mayB, Hhr.out]) rfl, belt⟩
 ·obtain ⟨⟨⟨h1, h2⟩, h3, h4⟩, h5, h6, h7⟩ := askB_iff.1 hr
  have Hhr := Lib.hid hr; clear hr
  go_enter Tryz.func117, Tryz.ntmps117
  go_wp2_with fail
  refine (askM_yes s r a b _ h1 h2 h3 h4 h5 h6 h7).mono ?_
  rintro e w1 ⟨rfl, hb1⟩
  go_wp2_with fail
  go_ret2
  exact ⟨ret_pair (may_of s r a b h1 h2 h3 h4 h5 h6 h7) rfl, belt⟩
end Go.Proofs.YtclgncaghiinhaaGreatDoor

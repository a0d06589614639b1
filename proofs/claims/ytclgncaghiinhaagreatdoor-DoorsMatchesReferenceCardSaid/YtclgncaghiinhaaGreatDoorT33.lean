/- Opening arguments: locks, showings. -/
import Derived.BigGuardPart
import Derived.BigQuiet
import Derived.Test.YtclgncaghiinhaaGreatDoorT10
import Derived.Test.YtclgncaghiinhaaGreatDoorT13
import Derived.Test.YtclgncaghiinhaaGreatDoorT18
import Derived.Test.YtclgncaghiinhaaGreatDoorT19
import Derived.Test.YtclgncaghiinhaaGreatDoorT21
import Derived.Test.YtclgncaghiinhaaGreatDoorT32
set_option linter.unusedSimpArgs false
set_option linter.unusedVariables false
set_option maxRecDepth 100000
namespace Go.Proofs.YtclgncaghiinhaaGreatDoor
open Go.RowKit
theorem rTime_any (n : Int) (w : World) : Calls Tryz.prog 41 #[.int .i64 n] w fun e w' => e = .returned (.bool (timeB n)) ∧ w = w' := by
 go_enter Tryz.func41, Tryz.ntmps41
 go_wp2_with fail
 all_goals
  go_ret
  exact ⟨ret_bool (by simp [timeB]; omega), rfl⟩
theorem rError_any (n : Int) (w : World) : Calls Tryz.prog 108 #[.int .i64 n] w fun e w' => e = .returned (.bool (errB n)) ∧ w = w' := by
 go_enter Tryz.func108, Tryz.ntmps108
 go_wp2_with fail
 all_goals
  go_ret
  exact ⟨ret_bool (by simp [errB]; omega), rfl⟩
theorem rPeriod_any (a b : Int) (w : World) : Calls Tryz.prog 109 #[.agg #[.int .i64 a, .int .i64 b]] w fun e w' => e = .returned (.bool (perB a b)) ∧ Below w.heap.size w w' := by
 go_enter Tryz.func109, Tryz.ntmps109
 go_wp2_with fail
 all_goals
  go_ret
  refine ⟨ret_bool ?_, belt⟩
  rw [Bool.eq_iff_iff]; simp [perB]; try omega
theorem rLeft_any (s r : Int) (w : World) (h1 : 0 ≤ s) (h2 : s < 1000000000) (h3 : 0 ≤ r) (h4 : r ≤ 10000) :
  Calls Tryz.prog 110 #[.int .i64 s, .int .i64 r] w fun e w' => e = .returned (.agg #[.int .i64 (loT s r), .int .i64 (hiT s r)]) ∧ Below w.heap.size w w' := by
 go_enter Tryz.func110, Tryz.ntmps110
 go_wp2_with fail
 all_goals
  refine bodyPost_ret (by simp [results, Tryz.results110, go_sem]; rfl) rfl ?_
  refine ⟨ret_agg2 ?_ ?_, belt⟩
  all_goals (simp only [loT, hiT]; try omega)
theorem and3F {a b c : Bool} (h : (a && b && c) = false) : a = false ∨ (a = true ∧ b = false) ∨ (a = true ∧ b = true ∧ c = false) := by cases a <;> cases b <;> simp_all
theorem rMaybe_any (s r a b : Int) (w : World) :
  Calls Tryz.prog 90 #[.int .i64 s, .int .i64 r, .agg #[.int .i64 a, .int .i64 b]] w fun e w' => e = .returned (.tuple #[.bool (mayB s r a b), .int .i64 (errN (askB s r a b))]) ∧ Below w.heap.size w w' := by
 cases hr : askB s r a b
 ·have hq := and3F hr
  have Hhr := Lib.hid hr; clear hr
  rcases hq with h | ⟨h, h'⟩ | ⟨h, h', h''⟩
  all_goals
   go_enter Tryz.func90, Tryz.ntmps90
   go_wp2_with (first | (go_at_call 41; refine (rTime_any _ _).mono ?_; rintro e w1 ⟨rfl, rfl⟩) | (go_at_call 108; refine (rError_any _ _).mono ?_; rintro e w1 ⟨rfl, rfl⟩) | (go_at_call 109; refine (rPeriod_any _ _ _).mono ?_; rintro e w1 ⟨rfl, hb1⟩; obtain ⟨hcw1, hfw1⟩ := bcell hb1; have hsw1 := hb1.size; (try simp only [World.size_alloc, World.heap_drewN, World.size_setCell, heap_drew] at hsw1); have hzw1x0 : w.heap.size < w1.heap.size := by omega))
   go_ret2
   exact ⟨ret_pair (by simp [mayB, Hhr.out]) rfl, belt⟩
 ·obtain ⟨⟨⟨h1, h2⟩, h3, h4⟩, h5, h6, h7⟩ := askB_iff.1 hr
  have ht : timeB s = true := by simp [timeB_iff, h1, h2]
  have he : errB r = true := by simp [errB_iff, h3, h4]
  have hp : perB a b = true := by simp [perB_iff, h5, h6, h7]
  have Hhr := Lib.hid hr; clear hr
  go_enter Tryz.func90, Tryz.ntmps90
  go_wp2_with (first | (go_at_call 41; refine (rTime_any _ _).mono ?_; rintro e w1 ⟨rfl, rfl⟩) | (go_at_call 108; refine (rError_any _ _).mono ?_; rintro e w1 ⟨rfl, rfl⟩) | (go_at_call 109; refine (rPeriod_any _ _ _).mono ?_; rintro e w1 ⟨rfl, hb1⟩; obtain ⟨hcw1, hfw1⟩ := bcell hb1; have hsw1 := hb1.size; (try simp only [World.size_alloc, World.heap_drewN, World.size_setCell, heap_drew] at hsw1); have hzw1x0 : w.heap.size < w1.heap.size := by omega))
  refine (rLeft_any s r _ h1 h2 h3 h4).mono ?_
  rintro e w2 ⟨rfl, hb2⟩
  obtain ⟨hcw2, hfw2⟩ := bcell hb2; have hsw2 := hb2.size; (try simp only [World.size_alloc, World.heap_drewN, World.size_setCell, heap_drew] at hsw2); have hzw2x0 : w.heap.size < w2.heap.size := by omega
  go_wp2_with fail
  all_goals
   go_ret2
   refine ⟨ret_pair ?_ rfl, belt⟩
   rw [mayB, Hhr.out, Bool.true_and, Bool.eq_iff_iff]; try (simp; try omega)
theorem belowPost {V : Value} {w : World} : ∀ e w', (e = Ending.returned V ∧ w = w') → (e = Ending.returned V ∧ Below w.heap.size w w') := by
 rintro e w' ⟨rfl, rfl⟩
 exact ⟨rfl, Below.refl _ _⟩
set_option maxHeartbeats 4000000 in
theorem rlfields_any (d k r : Int) (w0 : World) : Calls Tryz.prog 89 #[.int .i64 d, .int .i64 k, .int .i64 r] w0 fun e w' => e = .returned (.bool (fmB d k r)) ∧ Below w0.heap.size w0 w' := by
 have q1 := fun W => (rError_any r W).mono belowPost
 have q2 := fun W => (rmember_any k W).mono belowPost
 have fin : fmB d k r = (decide (1 ≤ d) && decide (d ≤ 400) && memZ k && errB r) := rfl
 generalize errB r = E at *
 generalize memZ k = M at *
 generalize fmB d k r = F at *
 have bb0 := Below.refl w0.heap.size w0
 by_cases h1 : 1 ≤ d
 rotate_left
 ·have d1 : decide (1 ≤ d) = false := decide_eq_false h1
  rw [d1] at fin
  simp only [Bool.false_and] at fin
  have ⟨Hbb0, Hq1, Hq2, Hfin⟩ := hid4 bb0 q1 q2 fin; clear bb0 q1 q2 fin
  go_enter Tryz.func89, Tryz.ntmps89
  go_wp2_with fail
  (with_reducible refine (Hq2.out _).mono ?_)
  rintro e w1 ⟨rfl, b1⟩
  have c1 : Below w0.heap.size w0 w1 := Below.trans belt (b1.mono omh)
  have s1 := c1.size
  have bb1 := Hbb0.out.trans (c1.mono Hbb0.out.size)
  have ⟨Hb1, Hc1, Hbb1⟩ := hid3 b1 c1 bb1; clear b1 c1 bb1
  go_wp2_with fail
  all_goals
   go_ret
   exact ⟨ret_bool Hfin.out.symm, Hbb1.out⟩
 have d1 : decide (1 ≤ d) = true := decide_eq_true h1
 by_cases h2 : d ≤ 400
 rotate_left
 ·have d2 : decide (d ≤ 400) = false := decide_eq_false h2
  rw [d1, d2] at fin
  simp only [Bool.false_and, Bool.true_and] at fin
  have ⟨Hbb0, Hq1, Hq2, Hfin⟩ := hid4 bb0 q1 q2 fin; clear bb0 q1 q2 fin
  go_enter Tryz.func89, Tryz.ntmps89
  go_wp2_with fail
  (with_reducible refine (Hq2.out _).mono ?_)
  rintro e w1 ⟨rfl, b1⟩
  have c1 : Below w0.heap.size w0 w1 := Below.trans belt (b1.mono omh)
  have s1 := c1.size
  have bb1 := Hbb0.out.trans (c1.mono Hbb0.out.size)
  have ⟨Hb1, Hc1, Hbb1⟩ := hid3 b1 c1 bb1; clear b1 c1 bb1
  go_wp2_with fail
  all_goals
   go_ret
   exact ⟨ret_bool Hfin.out.symm, Hbb1.out⟩
 have d2 : decide (d ≤ 400) = true := decide_eq_true h2
 rw [d1, d2] at fin
 simp only [Bool.true_and] at fin
 cases M with
 | false =>
  simp only [Bool.false_and] at fin
  have ⟨Hbb0, Hq1, Hq2, Hfin⟩ := hid4 bb0 q1 q2 fin; clear bb0 q1 q2 fin
  go_enter Tryz.func89, Tryz.ntmps89
  go_wp2_with fail
  (with_reducible refine (Hq2.out _).mono ?_)
  rintro e w1 ⟨rfl, b1⟩
  have c1 : Below w0.heap.size w0 w1 := Below.trans belt (b1.mono omh)
  have s1 := c1.size
  have bb1 := Hbb0.out.trans (c1.mono Hbb0.out.size)
  have ⟨Hb1, Hc1, Hbb1⟩ := hid3 b1 c1 bb1; clear b1 c1 bb1
  go_wp2_with fail
  all_goals
   go_ret
   exact ⟨ret_bool Hfin.out.symm, Hbb1.out⟩
 | true =>
  simp only [Bool.true_and] at fin
  have ⟨Hbb0, Hq1, Hq2, Hfin⟩ := hid4 bb0 q1 q2 fin; clear bb0 q1 q2 fin
  go_enter Tryz.func89, Tryz.ntmps89
  go_wp2_with fail
  (with_reducible refine (Hq2.out _).mono ?_)
  rintro e w1 ⟨rfl, b1⟩
  have c1 : Below w0.heap.size w0 w1 := Below.trans belt (b1.mono omh)
  have s1 := c1.size
  have bb1 := Hbb0.out.trans (c1.mono Hbb0.out.size)
  have ⟨Hb1, Hc1, Hbb1⟩ := hid3 b1 c1 bb1; clear b1 c1 bb1
  go_wp2_with fail
  (with_reducible refine (Hq1.out _).mono ?_)
  rintro e w2 ⟨rfl, b2⟩
  have c2 : Below w1.heap.size w1 w2 := Below.trans belt (b2.mono omh)
  have s2 := c2.size
  have bb2 := Hbb1.out.trans (c2.mono Hbb1.out.size)
  have ⟨Hb2, Hc2, Hbb2⟩ := hid3 b2 c2 bb2; clear b2 c2 bb2
  go_wp2_with fail
  all_goals
   go_ret
   exact ⟨ret_bool Hfin.out.symm, Hbb2.out⟩
set_option maxHeartbeats 4000000 in
theorem rlvalid_any (l : Lk) (A : Option Addr) (n p : Nat) (B : Option Addr) (m q : Nat) (w : World) (hx : SlotIs w A n l.x) (hy : SlotIs w B m l.y) :
  Calls Tryz.prog 63 #[.agg (l.cells A n p B m q).toArray] w fun e w' => e = .returned (.bool (lvB l)) ∧ Below w.heap.size w w' := by
 obtain ⟨w0, hw0⟩ : ∃ W, w.alloc (.cells (l.cells A n p B m q).toArray 48) = W := ⟨_, rfl⟩
 have bb0 : Below w.heap.size w w0 := by rw [← hw0]; exact (Below.refl _ _).alloc (Nat.le_refl _) _
 have k0 : Blk w0 w.heap.size (l.cells A n p B m q).toArray := by rw [← hw0]; exact blk_new rfl
 have q1 := rbest_any l.x l.y A n p B m q w0 (hx.below bb0) (hy.below bb0)
 have q2 := fun W => rlfields_any l.d l.k l.r W
 have fin : lvB l = (bestB l.x l.y && fmB l.d l.k l.r) := rfl
 generalize bestI l.x l.y = I at *
 generalize bestB l.x l.y = T at *
 generalize fmB l.d l.k l.r = F at *
 generalize lvB l = R at *
 unfold Lk.cells at k0 hw0 ⊢
 have ⟨Hbb0, Hk0, Hhw0, Hq1, Hq2, Hfin, Hhx, Hhy⟩ := hid8 bb0 k0 hw0 q1 q2 fin hx hy; clear bb0 k0 hw0 q1 q2 fin hx hy
 go_enter Tryz.func63, Tryz.ntmps63
 go_wp2_with fail
 rw [Hhw0.out]
 obtain ⟨y0, y1, y2, y3, y4, y5, y6, y7, y8, y9, y10, y11⟩ := at12_of Hk0.out
 go_wp2_with fail
 (with_reducible refine (Hq1.out).mono ?_)
 rintro e w1 ⟨rfl, b1⟩
 have c1 : Below w0.heap.size w0 w1 := Below.trans belt (b1.mono omh)
 have s1 := c1.size
 have bb1 := Hbb0.out.trans (c1.mono Hbb0.out.size)
 have k1 := Hk0.out.below c1
 have ⟨Hb1, Hc1, Hbb1, Hk1⟩ := hid4 b1 c1 bb1 k1; clear b1 c1 bb1 k1
 clear y0 y1 y2 y3 y4 y5 y6 y7 y8 y9 y10 y11
 cases T with
 | false =>
  go_wp2_with fail
  go_ret
  exact ⟨ret_bool (by rw [Hfin.out]; rfl), Hbb1.out⟩
 | true =>
  obtain ⟨y0, y1, y2, y3, y4, y5, y6, y7, y8, y9, y10, y11⟩ := at12_of Hk1.out
  go_wp2_with fail
  (with_reducible refine (Hq2.out _).mono ?_)
  rintro e w2 ⟨rfl, b2⟩
  have c2 : Below w1.heap.size w1 w2 := Below.trans belt (b2.mono omh)
  have s2 := c2.size
  have bb2 := Hbb1.out.trans (c2.mono Hbb1.out.size)
  have ⟨Hb2, Hc2, Hbb2⟩ := hid3 b2 c2 bb2; clear b2 c2 bb2
  go_wp2_with fail
  go_ret
  exact ⟨ret_bool (by rw [Hfin.out]; rfl), Hbb2.out⟩
set_option maxHeartbeats 4000000 in
theorem rlfew_any (l : Lk) (A : Option Addr) (n p : Nat) (B : Option Addr) (m q : Nat) (w : World) (hn : n ≤ 9223372036854775807) (hm : m ≤ 9223372036854775807) :
  Calls Tryz.prog 22 #[.agg (l.cells A n p B m q).toArray] w fun e w' => e = .returned (.bool (len40B n && len40B m)) ∧ Below w.heap.size w w' := by
 obtain ⟨w0, hw0⟩ : ∃ W, w.alloc (.cells (l.cells A n p B m q).toArray 48) = W := ⟨_, rfl⟩
 have bb0 : Below w.heap.size w w0 := by rw [← hw0]; exact (Below.refl _ _).alloc (Nat.le_refl _) _
 have k0 : Blk w0 w.heap.size (l.cells A n p B m q).toArray := by rw [← hw0]; exact blk_new rfl
 have q1 := rfew_any l.x.s l.x.c l.x.u l.y.s l.y.c l.y.u A n p B m q w0 hn hm
 generalize (len40B n && len40B m) = T at *
 unfold Lk.cells at k0 hw0 ⊢
 have ⟨Hbb0, Hk0, Hhw0, Hq1⟩ := hid4 bb0 k0 hw0 q1; clear bb0 k0 hw0 q1
 go_enter Tryz.func22, Tryz.ntmps22
 go_wp2_with fail
 rw [Hhw0.out]
 obtain ⟨y0, y1, y2, y3, y4, y5, y6, y7, y8, y9, y10, y11⟩ := at12_of Hk0.out
 go_wp2_with fail
 (with_reducible refine (Hq1.out).mono ?_)
 rintro e w1 ⟨rfl, b1⟩
 have c1 : Below w0.heap.size w0 w1 := Below.trans belt (b1.mono omh)
 have s1 := c1.size
 have bb1 := Hbb0.out.trans (c1.mono Hbb0.out.size)
 have ⟨Hb1, Hc1, Hbb1⟩ := hid3 b1 c1 bb1; clear b1 c1 bb1
 clear y0 y1 y2 y3 y4 y5 y6 y7 y8 y9 y10 y11
 go_wp2_with fail
 go_ret
 exact ⟨rfl, Hbb1.out⟩
set_option maxHeartbeats 4000000 in
theorem rlsame_self (l : Lk) (A : Option Addr) (n p : Nat) (B : Option Addr) (m q : Nat) (A' : Option Addr) (p' : Nat) (B' : Option Addr) (q' : Nat) (hx : l.x.l.length = n) (hy : l.y.l.length = m) (hn : n ≤ 100000) (hm : m ≤ 100000) (w : World) (h1 : IntsAt w A .i64 l.x.l) (h2 : IntsAt w B .i64 l.y.l) (h3 : IntsAt w A' .i64 l.x.l) (h4 : IntsAt w B' .i64 l.y.l) :
  Calls Tryz.prog 34 #[.agg (l.cells A n p B m q).toArray, .agg (l.cells A' n p' B' m q').toArray] w fun e w' => e = .returned (.bool true) ∧ Below w.heap.size w w' := by
 obtain ⟨w0, hw0⟩ : ∃ W, (w.alloc (.cells (l.cells A n p B m q).toArray 48)).alloc (.cells (l.cells A' n p' B' m q').toArray 48) = W := ⟨_, rfl⟩
 have bb0 : Below w.heap.size w w0 := by rw [← hw0]; exact ((Below.refl _ _).alloc (Nat.le_refl _) _).alloc (by simp) _
 have k0 : Blk w0 w.heap.size (l.cells A n p B m q).toArray := by rw [← hw0]; exact (blk_new rfl).alloc _
 have g0 : Blk w0 (w.heap.size + 1) (l.cells A' n p' B' m q').toArray := by rw [← hw0]; exact blk_new (by simp)
 have q1 := rsameBoth_any l.x l.y l.x l.y A n p hx B m q hy A' n p' hx B' m q' hy w0 hn hm hn hm (h1.below bb0) (h2.below bb0) (h3.below bb0) (h4.below bb0)
 rw [sameS_self, sameS_self] at q1
 unfold Lk.cells at k0 g0 hw0 ⊢
 have d1 : decide (l.d = l.d) = true := decide_eq_true rfl
 have d2 : decide (l.k = l.k) = true := decide_eq_true rfl
 have d3 : decide (l.r = l.r) = true := decide_eq_true rfl
 have d4 : decide (l.up = l.up) = true := decide_eq_true rfl
 have ⟨Hbb0, Hk0, Hg0, Hhw0, Hq1, Hhx, Hhy, Hh1⟩ := hid8 bb0 k0 g0 hw0 q1 hx hy h1; clear bb0 k0 g0 hw0 q1 hx hy h1; have ⟨Hh2, Hh3, Hh4⟩ := hid3 h2 h3 h4; clear h2 h3 h4
 go_enter Tryz.func34, Tryz.ntmps34
 go_wp2_with fail
 rw [Hhw0.out]
 obtain ⟨y0, y1, y2, y3, y4, y5, y6, y7, y8, y9, y10, y11⟩ := at12_of Hk0.out
 obtain ⟨z0, z1, z2, z3, z4, z5, z6, z7, z8, z9, z10, z11⟩ := at12_of Hg0.out
 go_wp2_with fail
 (with_reducible refine (Hq1.out).mono ?_)
 rintro e w1 ⟨rfl, b1⟩
 have c1 : Below w0.heap.size w0 w1 := Below.trans belt (b1.mono omh)
 have s1 := c1.size
 have bb1 := Hbb0.out.trans (c1.mono Hbb0.out.size)
 have ⟨Hb1, Hc1, Hbb1⟩ := hid3 b1 c1 bb1; clear b1 c1 bb1
 clear y0 y1 y2 y3 y4 y5 y6 y7 y8 y9 y10 y11 z0 z1 z2 z3 z4 z5 z6 z7 z8 z9 z10 z11
 go_wp2_with fail
 go_ret
 exact ⟨rfl, Hbb1.out⟩
structure LkP.Arg (P : LkP) (w : World) : Prop where
 x : SlotArg w P.A P.L.x.l.length P.p P.L.x
 y : SlotArg w P.B P.L.y.l.length P.r P.L.y
def LkpArg (w : World) (cs : List Value) (P : LkP) : Prop := cs = P.cells ∧ P.Arg w
/-- locks that came in, of any size -/
def LocksArg (w : World) (A : Option Addr) (Ps : List LkP) : Prop := RowsAt 12 LkpArg w A Ps
theorem LocksArg.below {w w' : World} {A : Option Addr} {Ps : List LkP} (h : LocksArg w A Ps) (hb : Below w.heap.size w w') : LocksArg w' A Ps := fun i z hz => by
 obtain ⟨b, off, cs, e, hlt, hl, hc, ha⟩ := h i z hz
 exact ⟨b, off, cs, e, Nat.lt_of_lt_of_le hlt hb.size, hl, fun j hj => (hb.cell (p := ⟨b, off + (i * 12 + j), none⟩) hlt).trans (hc j hj), ha.1, ⟨ha.2.x.below hb, ha.2.y.below hb⟩⟩
theorem LocksArg.at {w : World} {A : Option Addr} {Ps : List LkP} (h : LocksArg w A Ps) {i : Nat} {P : LkP} (hi : Ps[i]? = some P) : ∃ b off, A = some ⟨b, off, none⟩ ∧ b < w.heap.size ∧ P.Arg w ∧ ∀ j v, P.cells[j]? = some v → w.cell? ⟨b, off + i * 12 + j, none⟩ = some v := by
 obtain ⟨b, off, cs, e, hlt, hl, hc, rfl, ha⟩ := h i P hi
 refine ⟨b, off, e, hlt, ha, fun j v hj => ?_⟩
 rw [Nat.add_assoc, hc j ?_]
 ·exact hj
 ·rcases Nat.lt_or_ge j 12 with h1 | h1
  ·exact h1
  ·rw [List.getElem?_eq_none (by rw [LkP.len]; exact h1)] at hj; cases hj
def few1 (P : LkP) : Bool := len40B P.L.x.l.length && len40B P.L.y.l.length
def fewL (Ps : List LkP) : Bool := Ps.all few1
def fewD (Ps : List LkP) (n m k : Nat) : Bool := fewL (Ps.take 10) && (decide (n ≤ 10) && decide (m ≤ 20) && decide (k ≤ 20))
theorem fewL_drop {Ps : List LkP} {k : Nat} {P : LkP} (h : Ps[k]? = some P) : fewL (Ps.drop k) = (few1 P && fewL (Ps.drop (k + 1))) := by
 obtain ⟨hk, rfl⟩ := List.getElem?_eq_some_iff.1 h
 rw [List.drop_eq_getElem_cons hk]; rfl
theorem few_locks {w : World} {A : Option Addr} {Ps : List LkP} {m k : Nat} (h : LocksArg w A Ps) (hf : fewD Ps Ps.length m k = true) : Locks w A Ps ∧ Ps.length ≤ 10 ∧ m ≤ 20 ∧ k ≤ 20 := by
 simp only [fewD, Bool.and_eq_true, decide_eq_true_eq] at hf
 obtain ⟨h1, ⟨h2, h3⟩, h4⟩ := hf
 rw [List.take_of_length_le h2, fewL, List.all_eq_true] at h1
 refine ⟨fun i z hz => ?_, h2, h3, h4⟩
 obtain ⟨b, off, cs, e, hlt, hl, hc, rfl, ha⟩ := h i z hz
 have hz1 := h1 z (List.mem_of_getElem? hz)
 simp only [few1, len40B, Bool.and_eq_true, decide_eq_true_eq] at hz1
 exact ⟨b, off, z.cells, e, hlt, hl, hc, rfl, ha.x.ints, ha.y.ints, ha.x.sfit hz1.1, ha.y.sfit hz1.2⟩
set_option maxHeartbeats 8000000 in
theorem rdfew_any (A : Option Addr) (cp n : Nat) (Ps : List LkP) (X : Option Addr) (cx m : Nat) (Y : Option Addr) (cy k : Nat) (w : World) (hn : Ps.length = n) (hn9 : n ≤ 9223372036854775807) (hm9 : m ≤ 9223372036854775807) (hk9 : k ≤ 9223372036854775807) (hl : LocksArg w A Ps) :
  Calls Tryz.prog 8 #[.slice A n cp, .slice X m cx, .slice Y k cy] w fun e w' => e = .returned (.bool (fewD Ps n m k)) ∧ Below w.heap.size w w' := by
 obtain ⟨M, hM⟩ : ∃ M, (Ps.take 10).length = M := ⟨_, rfl⟩
 have hM2 : M = min 10 n := by rw [← hM, List.length_take, hn]
 have eD : fewD Ps n m k = (fewL (Ps.take 10) && (decide (n ≤ 10) && decide (m ≤ 20) && decide (k ≤ 20))) := rfl
 generalize fewD Ps n m k = R at *
 have h0 : R = (fewL ((Ps.take 10).drop 0) && (decide (n ≤ 10) && decide (m ≤ 20) && decide (k ≤ 20))) := by rw [List.drop_zero]; exact eD
 have ⟨Hhl, Hhn, HhM, HeD, Hh0⟩ := hid5 hl hn hM eD h0; clear hl hn hM eD h0
 go_enter Tryz.func8, Tryz.ntmps8
 go_wp2_with fail
 go_loopw [7] (fun i wr => ∃ (j : Nat), j ≤ M ∧ i = .int .i64 j ∧ R = (fewL ((Ps.take 10).drop j) && (decide (n ≤ 10) && decide (m ≤ 20) && decide (k ≤ 20))) ∧ Below w.heap.size w wr) (fun i _ => M - (intOf i).toNat)
 case atStart => exact ⟨0, by omega, rfl, Hh0.out, Below.refl _ _⟩
 case round =>
  obtain ⟨j, hj, rfl, hRk, hb⟩ := hrel
  by_cases hlt : j < M
  ·obtain ⟨⟨L, A2, p, B, r⟩, hP⟩ : ∃ P, Ps[j]? = some P := ⟨_, List.getElem?_eq_getElem (by rw [Hhn.out]; omega)⟩
   have hP2 : (Ps.take 10)[j]? = some ⟨L, A2, p, B, r⟩ := by rw [List.getElem?_take_of_lt (by omega)]; exact hP
   obtain ⟨b, off, rfl, hbl, hok, hcell⟩ := (Hhl.out.below hb).at hP
   rw [fewL_drop hP2] at hRk
   have lq := hok.x.room; have lm := hok.x.max; have lq' := hok.y.room; have lm' := hok.y.max
   dsimp only at lq lm lq' lm'
   have q := rlfew_any L A2 L.x.l.length p B L.y.l.length r wr (by omega) (by omega)
   have c0 := hcell 0 _ rfl; have c1 := hcell 1 _ rfl; have c2 := hcell 2 _ rfl; have c3 := hcell 3 _ rfl; have c4 := hcell 4 _ rfl; have c5 := hcell 5 _ rfl; have c6 := hcell 6 _ rfl; have c7 := hcell 7 _ rfl; have c8 := hcell 8 _ rfl; have c9 := hcell 9 _ rfl; have c10 := hcell 10 _ rfl; have c11 := hcell 11 _ rfl
   simp only [Nat.add_zero] at c0
   clear hcell hok lq lm lq' lm'
   unfold Lk.cells at q
   have e1 : few1 ⟨L, A2, p, B, r⟩ = (len40B L.x.l.length && len40B L.y.l.length) := rfl
   rw [e1] at hRk
   clear e1
   dsimp only at c0 c1 c2 c3 c4 c5 c6 c7 c8 c9 c10 c11
   generalize (len40B L.x.l.length && len40B L.y.l.length) = X at *
   have g1 : (j : Int) < (n : Int) := by omega
   have g0 : (0 : Int) ≤ (j : Int) := by omega
   have g2 : (j : Int) < 10 := by omega
   have g3 : decide ((j : Int) < (n : Int)) = true := decide_eq_true g1
   have g4 : decide ((j : Int) < 10) = true := decide_eq_true g2
   have hs := hb.size
   have ⟨Hq, HhRk, HhP, HhP2, Hhb⟩ := hid5 q hRk hP hP2 hb; clear q hRk hP hP2 hb
   go_wp2_with fail
   refine Hq.out.mono ?_
   rintro e w2 ⟨rfl, b2⟩
   have bb := Hhb.out.trans (b2.mono hs)
   clear c0 c1 c2 c3 c4 c5 c6 c7 c8 c9 c10 c11
   have ⟨Hb2, Hbb⟩ := hid2 b2 bb; clear b2 bb
   cases X with
   | true =>
    go_wp2_with fail
    go_roundw
    case rel => exact ⟨j + 1, by omega, by go_num, by rw [HhRk.out, Bool.true_and], Hbb.out⟩
    case measure => simp [intOf]; omega
   | false =>
    go_wp2_with fail
    go_ret
    exact ⟨ret_bool (by rw [HhRk.out]; rfl), Hbb.out⟩
  ·have e1 : (Ps.take 10).drop j = [] := List.drop_eq_nil_of_le (by rw [HhM.out]; omega)
   rw [e1] at hRk
   have e2 : R = (decide (n ≤ 10) && decide (m ≤ 20) && decide (k ≤ 20)) := by rw [hRk]; rfl
   clear hRk
   obtain ⟨y1, h1⟩ : ∃ x, decide (n ≤ 10) = x := ⟨_, rfl⟩
   obtain ⟨y2, h2⟩ : ∃ x, decide (m ≤ 20) = x := ⟨_, rfl⟩
   obtain ⟨y3, h3⟩ : ∃ x, decide (k ≤ 20) = x := ⟨_, rfl⟩
   have i1 : decide ((n : Int) ≤ 10) = y1 := by rw [← h1]; exact decide_eq_decide.2 (by omega)
   have i2 : decide ((m : Int) ≤ 20) = y2 := by rw [← h2]; exact decide_eq_decide.2 (by omega)
   have i3 : decide ((k : Int) ≤ 20) = y3 := by rw [← h3]; exact decide_eq_decide.2 (by omega)
   rw [h1, h2, h3] at e2
   have ⟨Hhb, He1, He2, Hh1, Hh2, Hh3⟩ := hid6 hb e1 e2 h1 h2 h3; clear hb e1 e2 h1 h2 h3
   by_cases hjn : j < n
   ·have g1 : (j : Int) < (n : Int) := by omega
    have g2 : ¬ (j : Int) < 10 := by omega
    have g3 : decide ((j : Int) < (n : Int)) = true := decide_eq_true g1
    have g4 : decide ((j : Int) < 10) = false := decide_eq_false g2
    cases y1 <;> cases y2
    all_goals
     go_wp2_with fail
     go_ret
     exact ⟨ret_bool (by rw [He2.out]; simp), Hhb.out⟩
   ·have g1 : ¬ (j : Int) < (n : Int) := by omega
    have g3 : decide ((j : Int) < (n : Int)) = false := decide_eq_false g1
    cases y1 <;> cases y2
    all_goals
     go_wp2_with fail
     go_ret
     exact ⟨ret_bool (by rw [He2.out]; simp), Hhb.out⟩
set_option maxHeartbeats 4000000 in
theorem rdbools_any (A : Option Addr) (cp n : Nat) (a : List Bool) (B : Option Addr) (cq m : Nat) (b : List Bool) (w : World) (hn : a.length = n) (hm : b.length = m) (hn9 : n ≤ 9223372036854775807) (hm9 : m ≤ 9223372036854775807) (ha : Bls w A a) (hb : Bls w B b) :
    Calls Tryz.prog 12 #[.slice A n cp, .slice B m cq] w fun e w' => e = .returned (.bool (decide (a = b))) ∧ Below w.heap.size w w' := by
  by_cases hnm : n = m
  rotate_left
  · have e1 : decide (a = b) = false := decide_eq_false (fun h => hnm (by rw [← hn, ← hm, h]))
    have g1 : ¬ ((n : Int) = (m : Int)) := by omega
    have g2 : ((n : Int) != (m : Int)) = true := by simp; omega
    have g3 : ((n : Int) == (m : Int)) = false := by simp; omega
    rw [e1]
    have ⟨Hha, Hhb, Hhn, Hhm, He1⟩ := hid5 ha hb hn hm e1; clear ha hb hn hm e1
    go_enter Tryz.func12, Tryz.ntmps12
    go_wp2_with fail
    go_ret
    exact ⟨rfl, Below.refl _ _⟩
  subst hnm
  obtain ⟨R, hR⟩ : ∃ R, decide (a = b) = R := ⟨_, rfl⟩
  rw [hR]
  have ⟨Hha, Hhb, Hhn, Hhm, HhR⟩ := hid5 ha hb hn hm hR; clear ha hb hn hm hR
  go_enter Tryz.func12, Tryz.ntmps12
  go_wp2_with fail
  go_loopw [5] (fun i wr => ∃ (j : Nat), j ≤ n ∧ i = .int .i64 j ∧ a.take j = b.take j ∧ Below w.heap.size w wr) (fun i _ => n - (intOf i).toNat)
  case atStart => exact ⟨0, by omega, rfl, by simp, Below.refl _ _⟩
  case round =>
    obtain ⟨j, hj, rfl, hjk, hbw⟩ := hrel
    by_cases hlt : j < n
    · obtain ⟨x, hx⟩ : ∃ x, a[j]? = some x := ⟨_, List.getElem?_eq_getElem (by rw [Hhn.out]; exact hlt)⟩
      obtain ⟨y, hy⟩ : ∃ y, b[j]? = some y := ⟨_, List.getElem?_eq_getElem (by rw [Hhm.out]; exact hlt)⟩
      obtain ⟨b1, o1, rfl, z1, c1⟩ := (Hha.out.below hbw).at hx
      obtain ⟨b2, o2, rfl, z2, c2⟩ := (Hhb.out.below hbw).at hy
      have g1 : (j : Int) < (n : Int) := by omega
      have g0 : (0 : Int) ≤ (j : Int) := by omega
      by_cases hxy : x = y
      · subst hxy
        have hj2 : a.take (j + 1) = b.take (j + 1) := by rw [List.take_add_one, List.take_add_one, hx, hy, hjk]
        have ⟨Hhbw, Hhjk, Hhx, Hhy, Hhj2⟩ := hid5 hbw hjk hx hy hj2; clear hbw hjk hx hy hj2
        cases x
        all_goals
          go_upto_region 6 with (fail)
          go_quiet (fail)
          go_wp2_with fail
          go_roundw
          case rel => exact ⟨j + 1, by omega, by go_num, Hhj2.out, by first | exact Hhbw.out | exact Hhbw.out.drew | (have := Hhbw.out; exact belt)⟩
          case measure => simp [intOf]; omega
      · have e1 : R = false := by
          rw [← HhR.out]
          refine decide_eq_false fun e => hxy ?_
          rw [e, hy] at hx
          exact (Option.some.inj hx).symm
        have ⟨Hhbw, Hhjk, Hhx, Hhy, He1⟩ := hid5 hbw hjk hx hy e1; clear hbw hjk hx hy e1
        cases x <;> cases y
        all_goals first | exact absurd rfl hxy | skip
        all_goals
          go_upto_region 6 with (fail)
          go_quiet (fail)
          go_wp2_with fail
          go_ret
          exact ⟨ret_bool He1.out.symm, by first | exact Hhbw.out | exact Hhbw.out.drew | (have := Hhbw.out; exact belt)⟩
    · have e1 : R = true := by
        rw [← HhR.out]
        rw [List.take_of_length_le (by rw [Hhn.out]; omega), List.take_of_length_le (by rw [Hhm.out]; omega)] at hjk
        exact decide_eq_true hjk
      have g1 : ¬ (j : Int) < (n : Int) := by omega
      have ⟨Hhbw, Hhjk, He1⟩ := hid3 hbw hjk e1; clear hbw hjk e1
      go_wp2_with fail
      go_ret
      exact ⟨ret_bool He1.out.symm, Hhbw.out⟩
section
open Go.RowKit Go.ChangeShapes Go.WideShapes Go.ChangeAt
theorem read_lockP {H : Type} {enc : TypeId × Value → H} {W : World} {held : Bool} (fuel : Nat) (cs : List Value) (x : DataW H × List MemPlace) (hl : cs.length = 12) (h : DataW.trod enc Tryz.prog W 0 (fun _ => true) held fuel 48 cs = some x) : ∃ z, LkpArg W cs z := by
 obtain ⟨l, A, n, p, B, m, q, rfl, hx, hy, _⟩ := read_lock fuel cs x hl h
 have e1 := hx.len
 have e2 := hy.len
 subst e1 e2
 exact ⟨⟨l, A, p, B, q⟩, rfl, hx, hy⟩
theorem open_locks {H : Type} {enc : TypeId × Value → H} {W : World} {base : Nat} {held : Bool} {v : Value} {d : DataW H} {p : List MemPlace} (hv : Value.okWide Tryz.prog W .any base 22 v) (h : DataW.Trod enc Tryz.prog W 0 (fun _ => true) held 22 v d p) :
  ∃ A c l, v = .slice A l.length c ∧ LocksArg W A l ∧ l.length ≤ c ∧ c ≤ maxLen := by
 obtain ⟨a0, len, cap, rfl⟩ := okWide_slice Tryz.underlying22 hv
 obtain ⟨fuel, hf⟩ := h
 exact read_rows (by decide) Tryz.underlying22 (by kernel_rfl) read_lockP hf
theorem read_sh4 {H : Type} {enc : TypeId × Value → H} {W : World} {held : Bool} (fuel : Nat) (cs : List Value) (x : DataW H × List MemPlace) (hl : cs.length = 4) (h : DataW.trod enc Tryz.prog W 0 (fun _ => true) held fuel 53 cs = some x) : ∃ z, Sh4At W cs z := by
 have e4 : Tryz.prog.cellsOf 3 = 1 := by kernel_rfl
 obtain ⟨xs, m, _, _, _, hlen, hg⟩ := DataW.trod_array Tryz.underlying53 h
 match xs, hlen, cs, hl with
 | [y0, y1, y2, y3], _, [c0, c1, c2, c3], _ =>
  have g0 := hg 0 (by omega)
  have g1 := hg 1 (by omega)
  have g2 := hg 2 (by omega)
  have g3 := hg 3 (by omega)
  simp [e4] at g0 g1 g2 g3
  obtain ⟨a0, rfl, w0⟩ := read_int Tryz.underlying3 g0
  obtain ⟨a1, rfl, w1⟩ := read_int Tryz.underlying3 g1
  obtain ⟨a2, rfl, w2⟩ := read_int Tryz.underlying3 g2
  obtain ⟨a3, rfl, w3⟩ := read_int Tryz.underlying3 g3
  exact ⟨⟨a0, a1, a2, a3⟩, rfl⟩
theorem open_shows {H : Type} {enc : TypeId × Value → H} {W : World} {base : Nat} {held : Bool} {v : Value} {d : DataW H} {p : List MemPlace} (hv : Value.okWide Tryz.prog W .any base 24 v) (h : DataW.Trod enc Tryz.prog W 0 (fun _ => true) held 24 v d p) :
  ∃ A c l, v = .slice A l.length c ∧ Shows W A l ∧ l.length ≤ c ∧ c ≤ maxLen := by
 obtain ⟨a0, len, cap, rfl⟩ := okWide_slice Tryz.underlying24 hv
 obtain ⟨fuel, hf⟩ := h
 exact read_rows (by decide) Tryz.underlying24 (by kernel_rfl) read_sh4 hf
end
end Go.Proofs.YtclgncaghiinhaaGreatDoor

/- Contracts of package slot: Write. -/
import Derived.Deep.Cut
import Derived.Test.YtoehobaigfmnpaaGreatDoorMq6
import Derived.Test.YtoehobaigfmnpaaGreatDoorMq7
import Derived.Test.YtoehobaigfmnpaaGreatDoorMq9
set_option linter.unusedSimpArgs false
set_option linter.unusedVariables false
set_option maxRecDepth 100000
namespace Go.Proofs.YtoehobaigfmnpaaGreatDoor
open Go.RowKit
structure Lk where
 d : Int
 k : Int
 r : Int
 x : Slt
 y : Slt
 up : Bool
def Lk.cells (l : Lk) (A : Option Addr) (n p : Nat) (B : Option Addr) (m q : Nat) : List Value := [.int .i64 l.d, .int .i64 l.k, .int .i64 l.r, .int .i64 l.x.s, .int .i64 l.x.c, .slice A n p, .int .u64 l.x.u, .int .i64 l.y.s, .int .i64 l.y.c, .slice B m q, .int .u64 l.y.u, .bool l.up]
structure LFit (l : Lk) : Prop where
 d : -9223372036854775808 ≤ l.d ∧ l.d ≤ 9223372036854775807
 k : -9223372036854775808 ≤ l.k ∧ l.k ≤ 9223372036854775807
 r : -9223372036854775808 ≤ l.r ∧ l.r ≤ 9223372036854775807
def fmB (d k r : Int) : Bool := decide (1 ≤ d) && decide (d ≤ 400) && memZ k && errB r
def lvB (l : Lk) : Bool := bestB l.x l.y && fmB l.d l.k l.r
theorem best01 (x y : Slt) : bestI x y = 0 ∨ bestI x y = 1 := by unfold bestI; split <;> simp
theorem read0 (r : Int) : readB 0 r = errB r := by simp [readB, timeB]
set_option maxHeartbeats 4000000 in
theorem formed_any (l : Lk) (A : Option Addr) (n p : Nat) (B : Option Addr) (m q : Nat) (w : World) : Calls Tryz.prog 24 #[.agg (l.cells A n p B m q).toArray] w fun e w' => e = .returned (.bool (fmB l.d l.k l.r)) ∧ Below w.heap.size w w' := by
 obtain ⟨w0, hw0⟩ : ∃ W, w.alloc (.cells (l.cells A n p B m q).toArray 56) = W := ⟨_, rfl⟩
 have bb0 : Below w.heap.size w w0 := by rw [← hw0]; exact (Below.refl _ _).alloc (Nat.le_refl _) _
 have k0 : Blk w0 w.heap.size (l.cells A n p B m q).toArray := by rw [← hw0]; exact blk_new rfl
 have q1 := fun W => clockTrue_any 0 l.r W
 rw [read0] at q1
 have q2 := fun W => member_any l.k W
 have fin : fmB l.d l.k l.r = (decide (1 ≤ l.d) && decide (l.d ≤ 400) && memZ l.k && errB l.r) := rfl
 generalize errB l.r = E at *
 generalize memZ l.k = M at *
 generalize fmB l.d l.k l.r = F at *
 generalize trueA 0 l.r = ta at *
 generalize trueB 0 l.r = tb at *
 unfold Lk.cells at k0 hw0 ⊢
 unfold errN at q1
 by_cases h1 : 1 ≤ l.d
 rotate_left
 ·have d1 : decide (1 ≤ l.d) = false := decide_eq_false h1
  rw [d1] at fin
  simp only [Bool.false_and] at fin
  have ⟨H_bb0, H_k0, H_hw0, H_q1, H_q2, H_fin⟩ := hid6 bb0 k0 hw0 q1 q2 fin; clear bb0 k0 hw0 q1 q2 fin
  go_enter Tryz.func24, Tryz.ntmps24
  go_wp2_with fail
  rw [H_hw0.out]
  obtain ⟨y0, y1, y2, y3, y4, y5, y6, y7, y8, y9, y10, y11⟩ := at12_of H_k0.out
  go_wp2_with fail
  (with_reducible refine (H_q1.out _).mono ?_)
  rintro e w1 ⟨rfl, b1⟩
  have c1 : Below w0.heap.size w0 w1 := Below.trans belt (b1.mono omh)
  have s1 := c1.size
  have bb1 := H_bb0.out.trans (c1.mono H_bb0.out.size)
  have k1 := H_k0.out.below c1
  have ⟨H_b1, H_c1, H_bb1, H_k1⟩ := hid4 b1 c1 bb1 k1; clear b1 c1 bb1 k1
  clear y0 y1 y2 y3 y4 y5 y6 y7 y8 y9 y10 y11
  obtain ⟨y0, y1, y2, y3, y4, y5, y6, y7, y8, y9, y10, y11⟩ := at12_of H_k1.out
  have lt1 := (H_k1.out 0 _ rfl).lt
  go_wp2_with fail
  all_goals
   go_ret
   exact ⟨ret_bool H_fin.out.symm, H_bb1.out.alloc H_bb1.out.size _⟩
 have d1 : decide (1 ≤ l.d) = true := decide_eq_true h1
 by_cases h2 : l.d ≤ 400
 rotate_left
 ·have d2 : decide (l.d ≤ 400) = false := decide_eq_false h2
  rw [d1, d2] at fin
  simp only [Bool.false_and, Bool.true_and] at fin
  have ⟨H_bb0, H_k0, H_hw0, H_q1, H_q2, H_fin⟩ := hid6 bb0 k0 hw0 q1 q2 fin; clear bb0 k0 hw0 q1 q2 fin
  go_enter Tryz.func24, Tryz.ntmps24
  go_wp2_with fail
  rw [H_hw0.out]
  obtain ⟨y0, y1, y2, y3, y4, y5, y6, y7, y8, y9, y10, y11⟩ := at12_of H_k0.out
  go_wp2_with fail
  (with_reducible refine (H_q1.out _).mono ?_)
  rintro e w1 ⟨rfl, b1⟩
  have c1 : Below w0.heap.size w0 w1 := Below.trans belt (b1.mono omh)
  have s1 := c1.size
  have bb1 := H_bb0.out.trans (c1.mono H_bb0.out.size)
  have k1 := H_k0.out.below c1
  have ⟨H_b1, H_c1, H_bb1, H_k1⟩ := hid4 b1 c1 bb1 k1; clear b1 c1 bb1 k1
  clear y0 y1 y2 y3 y4 y5 y6 y7 y8 y9 y10 y11
  obtain ⟨y0, y1, y2, y3, y4, y5, y6, y7, y8, y9, y10, y11⟩ := at12_of H_k1.out
  have lt1 := (H_k1.out 0 _ rfl).lt
  go_wp2_with fail
  all_goals
   go_ret
   exact ⟨ret_bool H_fin.out.symm, H_bb1.out.alloc H_bb1.out.size _⟩
 have d2 : decide (l.d ≤ 400) = true := decide_eq_true h2
 rw [d1, d2] at fin
 simp only [Bool.true_and] at fin
 cases E
 all_goals
  simp only [Bool.false_eq_true, reduceIte, if_true, if_false] at q1
  have ⟨H_bb0, H_k0, H_hw0, H_q1, H_q2, H_fin⟩ := hid6 bb0 k0 hw0 q1 q2 fin; clear bb0 k0 hw0 q1 q2 fin
  go_enter Tryz.func24, Tryz.ntmps24
  go_wp2_with fail
  rw [H_hw0.out]
  obtain ⟨y0, y1, y2, y3, y4, y5, y6, y7, y8, y9, y10, y11⟩ := at12_of H_k0.out
  go_wp2_with fail
  (with_reducible refine (H_q1.out _).mono ?_)
  rintro e w1 ⟨rfl, b1⟩
  have c1 : Below w0.heap.size w0 w1 := Below.trans belt (b1.mono omh)
  have s1 := c1.size
  have bb1 := H_bb0.out.trans (c1.mono H_bb0.out.size)
  have k1 := H_k0.out.below c1
  have ⟨H_b1, H_c1, H_bb1, H_k1⟩ := hid4 b1 c1 bb1 k1; clear b1 c1 bb1 k1
  clear y0 y1 y2 y3 y4 y5 y6 y7 y8 y9 y10 y11
  obtain ⟨y0, y1, y2, y3, y4, y5, y6, y7, y8, y9, y10, y11⟩ := at12_of H_k1.out
  have lt1 := (H_k1.out 0 _ rfl).lt
  go_wp2_with fail
  (with_reducible refine (H_q2.out _).mono ?_)
  rintro e w2 ⟨rfl, b2⟩
  have c2 : Below w1.heap.size w1 w2 := Below.trans belt (b2.mono omh)
  have s2 := c2.size
  have bb2 := H_bb1.out.trans (c2.mono H_bb1.out.size)
  have ⟨H_b2, H_c2, H_bb2⟩ := hid3 b2 c2 bb2; clear b2 c2 bb2
  cases M
  all_goals
   go_wp2_with fail
   go_ret
   exact ⟨ret_bool (by rw [H_fin.out]; rfl), H_bb2.out⟩
def keepS (l : Lk) : Slt := if bestI l.x l.y = 1 then l.y else l.x
set_option maxHeartbeats 4000000 in
theorem kept_any (l : Lk) (A : Option Addr) (n p : Nat) (B : Option Addr) (m q : Nat) (w : World) (hx : SlotIs w A n l.x) (hy : SlotIs w B m l.y) (ht : Tab w) :
  Calls Tryz.prog 27 #[.agg (l.cells A n p B m q).toArray] w fun e w' => e = .returned (.tuple #[.agg (if bestI l.x l.y = 1 then #[.int .i64 l.y.s, .int .i64 l.y.c, .slice B m q, .int .u64 l.y.u] else #[.int .i64 l.x.s, .int .i64 l.x.c, .slice A n p, .int .u64 l.x.u]), .bool (bestB l.x l.y)]) ∧ Below w.heap.size w w' := by
 obtain ⟨w0, hw0⟩ : ∃ W, (w.alloc (.cells (l.cells A n p B m q).toArray 56)).alloc (.cells #[.int .i64 0, .int .i64 0, .slice none 0 0, .int .u64 0] 25) = W := ⟨_, rfl⟩
 have bb0 : Below w.heap.size w w0 := by rw [← hw0]; exact ((Below.refl _ _).alloc (Nat.le_refl _) _).alloc (by simp) _
 have k0 : Blk w0 w.heap.size (l.cells A n p B m q).toArray := by rw [← hw0]; exact (blk_new rfl).alloc _
 have g0 : Blk w0 (w.heap.size + 1) #[.int .i64 0, .int .i64 0, .slice none 0 0, .int .u64 0] := by rw [← hw0]; exact blk_new (by simp)
 have q1 := best_any l.x l.y A n p B m q w0 (hx.below bb0) (hy.below bb0) (ht.below bb0)
 have hI := best01 l.x l.y
 generalize bestI l.x l.y = I at *
 generalize bestB l.x l.y = T at *
 unfold Lk.cells at k0 hw0 ⊢
 have ⟨H_bb0, H_k0, H_g0, H_hw0, H_q1, H_hx, H_hy, H_ht⟩ := hid8 bb0 k0 g0 hw0 q1 hx hy ht; clear bb0 k0 g0 hw0 q1 hx hy ht
 go_enter Tryz.func27, Tryz.ntmps27
 go_wp2_with fail
 rw [H_hw0.out]
 obtain ⟨y0, y1, y2, y3, y4, y5, y6, y7, y8, y9, y10, y11⟩ := at12_of H_k0.out
 go_wp2_with fail
 (with_reducible refine (H_q1.out).mono ?_)
 rintro e w1 ⟨rfl, b1⟩
 have c1 : Below w0.heap.size w0 w1 := Below.trans belt (b1.mono omh)
 have s1 := c1.size
 have bb1 := H_bb0.out.trans (c1.mono H_bb0.out.size)
 have k1 := H_k0.out.below c1
 have g1 := H_g0.out.below c1
 have ⟨H_b1, H_c1, H_bb1, H_k1, H_g1⟩ := hid5 b1 c1 bb1 k1 g1; clear b1 c1 bb1 k1 g1
 clear y0 y1 y2 y3 y4 y5 y6 y7 y8 y9 y10 y11
 obtain ⟨y0, y1, y2, y3, y4, y5, y6, y7, y8, y9, y10, y11⟩ := at12_of H_k1.out
 obtain ⟨z0, z1, z2, z3⟩ := at4_of H_g1.out
 obtain ⟨f0, f1, f2, f3⟩ := free4_of H_g1.out
 have ly := (H_k1.out 0 _ rfl).lt
 have lz := (H_g1.out 0 _ rfl).lt
 rcases hI with rfl | rfl
 ·have b2 : Below w.heap.size w (putL w1 (w.heap.size + 1) 0 [.int .i64 l.x.s, .int .i64 l.x.c, .slice A n p, .int .u64 l.x.u]) := putL_below (by omega) _ _ _ H_bb1.out
  simp only [putL, Nat.reduceAdd] at b2
  have H_b2 := Lib.hid b2; clear b2
  go_wp2_with fail
  refine bodyPost_ret (v := .tuple #[.agg #[.int .i64 l.x.s, .int .i64 l.x.c, .slice A n p, .int .u64 l.x.u], .bool T]) (by simp [results, Tryz.results27, go_sem, *]) rfl ⟨rfl, H_b2.out⟩
 ·have b2 : Below w.heap.size w (putL w1 (w.heap.size + 1) 0 [.int .i64 l.y.s, .int .i64 l.y.c, .slice B m q, .int .u64 l.y.u]) := putL_below (by omega) _ _ _ H_bb1.out
  simp only [putL, Nat.reduceAdd] at b2
  have H_b2 := Lib.hid b2; clear b2
  go_wp2_with fail
  refine bodyPost_ret (v := .tuple #[.agg #[.int .i64 l.y.s, .int .i64 l.y.c, .slice B m q, .int .u64 l.y.u], .bool T]) (by simp [results, Tryz.results27, go_sem, *]) rfl ⟨rfl, H_b2.out⟩
set_option maxHeartbeats 4000000 in
theorem lvalid_any (l : Lk) (A : Option Addr) (n p : Nat) (B : Option Addr) (m q : Nat) (w : World) (hx : SlotIs w A n l.x) (hy : SlotIs w B m l.y) (ht : Tab w) :
  Calls Tryz.prog 10 #[.agg (l.cells A n p B m q).toArray] w fun e w' => e = .returned (.bool (lvB l)) ∧ Below w.heap.size w w' := by
 obtain ⟨w0, hw0⟩ : ∃ W, (w.alloc (.cells (l.cells A n p B m q).toArray 28)).alloc (.cells (l.cells A n p B m q).toArray 56) = W := ⟨_, rfl⟩
 have bb0 : Below w.heap.size w w0 := by rw [← hw0]; exact ((Below.refl _ _).alloc (Nat.le_refl _) _).alloc (by simp) _
 have k0 : Blk w0 (w.heap.size + 1) (l.cells A n p B m q).toArray := by rw [← hw0]; exact blk_new (by simp)
 have q1 := kept_any l A n p B m q w0 (hx.below bb0) (hy.below bb0) (ht.below bb0)
 have q2 := fun W => formed_any l A n p B m q W
 have fin : lvB l = (bestB l.x l.y && fmB l.d l.k l.r) := rfl
 have hI := best01 l.x l.y
 generalize bestI l.x l.y = I at *
 generalize bestB l.x l.y = T at *
 generalize fmB l.d l.k l.r = F at *
 generalize lvB l = R at *
 unfold Lk.cells at k0 hw0 q1 q2 ⊢
 rcases hI with rfl | rfl
 all_goals
  simp only [reduceIte, Int.reduceEq, if_false, if_true] at q1
  have ⟨H_bb0, H_k0, H_hw0, H_q1, H_q2, H_fin, H_hx, H_hy⟩ := hid8 bb0 k0 hw0 q1 q2 fin hx hy; clear bb0 k0 hw0 q1 q2 fin hx hy; have H_ht := Lib.hid ht; clear ht
  go_enter Tryz.func10, Tryz.ntmps10
  go_wp2_with fail
  rw [H_hw0.out]
  obtain ⟨y0, y1, y2, y3, y4, y5, y6, y7, y8, y9, y10, y11⟩ := at12_of H_k0.out
  go_wp2_with fail
  (with_reducible refine (H_q1.out).mono ?_)
  rintro e w1 ⟨rfl, b1⟩
  have c1 : Below w0.heap.size w0 w1 := Below.trans belt (b1.mono omh)
  have s1 := c1.size
  have bb1 := H_bb0.out.trans (c1.mono H_bb0.out.size)
  have k1 := H_k0.out.below c1
  have ⟨H_b1, H_c1, H_bb1, H_k1⟩ := hid4 b1 c1 bb1 k1; clear b1 c1 bb1 k1
  clear y0 y1 y2 y3 y4 y5 y6 y7 y8 y9 y10 y11
  cases T with
  | false =>
   go_wp2_with fail
   go_ret
   exact ⟨ret_bool (by rw [H_fin.out]; rfl), H_bb1.out.alloc H_bb1.out.size _⟩
  | true =>
   obtain ⟨y0, y1, y2, y3, y4, y5, y6, y7, y8, y9, y10, y11⟩ := at12_of H_k1.out
   have lt1 := (H_k1.out 0 _ rfl).lt
   go_wp2_with fail
   (with_reducible refine (H_q2.out _).mono ?_)
   rintro e w2 ⟨rfl, b2⟩
   have c2 : Below w1.heap.size w1 w2 := Below.trans belt (b2.mono omh)
   have s2 := c2.size
   have bb2 := H_bb1.out.trans (c2.mono H_bb1.out.size)
   have ⟨H_b2, H_c2, H_bb2⟩ := hid3 b2 c2 bb2; clear b2 c2 bb2
   go_wp2_with fail
   go_ret
   exact ⟨ret_bool (by rw [H_fin.out]; rfl), H_bb2.out⟩
section
def SlotsErr (x y : Slt) (E : Int) (w : World) (e : Ending) (w' : World) : Prop :=
 ∃ A p B q, e = .returned (.tuple #[.agg #[.int .i64 x.s, .int .i64 x.c, .slice A x.l.length p, .int .u64 x.u, .int .i64 y.s, .int .i64 y.c, .slice B y.l.length q, .int .u64 y.u], .int .i64 E]) ∧ IntsAt w' A .i64 x.l ∧ IntsAt w' B .i64 y.l ∧ Below w.heap.size w w'
theorem slotsErr_zero {E : Int} {w w' : World} (hb : Below w.heap.size w w') : SlotsErr Slt.zero Slt.zero E w (.returned (.tuple #[.agg #[.int .i64 0, .int .i64 0, .slice none 0 0, .int .u64 0, .int .i64 0, .int .i64 0, .slice none 0 0, .int .u64 0], .int .i64 E])) w' := ⟨none, 0, none, 0, rfl, IntsAt.nil, IntsAt.nil, hb⟩
set_option maxHeartbeats 2000000 in
theorem write_made (xs xc xu ys yc yu c at_ E : Int) (A : Option Addr) (n p : Nat) (B : Option Addr) (m q : Nat) (L : Option Addr) (k r : Nat) (w : World) (hE : (E != 0) = true)
  (hm : ∀ W, Below w.heap.size w W → Calls Tryz.prog 23 #[.int .i64 0, .int .i64 c, .slice L k r] W (SlotErr Slt.zero E W)) :
  Calls Tryz.prog 34 #[.agg #[.int .i64 xs, .int .i64 xc, .slice A n p, .int .u64 xu, .int .i64 ys, .int .i64 yc, .slice B m q, .int .u64 yu], .int .i64 c, .slice L k r, .int .i64 at_] w (SlotsErr Slt.zero Slt.zero E w) := by
 obtain ⟨w1, hw1⟩ : ∃ w1, (w.alloc (.cells #[.int .i64 xs, .int .i64 xc, .slice A n p, .int .u64 xu, .int .i64 ys, .int .i64 yc, .slice B m q, .int .u64 yu] 26)).alloc (.cells #[.int .i64 0, .int .i64 0, .slice none 0 0, .int .u64 0, .int .i64 0, .int .i64 0, .slice none 0 0, .int .u64 0] 26) = w1 := ⟨_, rfl⟩
 have b1 : Below w.heap.size w w1 := by rw [← hw1]; exact ((Below.refl _ _).alloc (Nat.le_refl _) _).alloc (by simp) _
 have q1 := hm w1 b1
 unfold SlotErr at q1
 rw [← hw1] at q1
 have ⟨H_hm, H_b1, H_hw1, H_q1⟩ := hid4 hm b1 hw1 q1; clear hm b1 hw1 q1
 go_enter Tryz.func34, Tryz.ntmps34
 go_wp2_with fail
 refine (H_q1.out).mono ?_; rintro e w2 ⟨X, cx, rfl, ho, hbw2⟩
 have hsw2 := hbw2.size; (try simp only [World.size_alloc, World.heap_drewN, World.size_setCell, heap_drew] at hsw2)
 have gw2 : Below w.heap.size w w2 := belt
 have kw2x0x0 := keepc hbw2 (b := w.heap.size + 1) (o := 0) omg (by go_simp; with_reducible rfl)
 have fw2x0x0 := keepf hbw2 (b := w.heap.size + 1) (o := 0) omg (by go_simp)
 have kw2x0x1 := keepc hbw2 (b := w.heap.size + 1) (o := 1) omg (by go_simp; with_reducible rfl)
 have fw2x0x1 := keepf hbw2 (b := w.heap.size + 1) (o := 1) omg (by go_simp)
 have kw2x0x2 := keepc hbw2 (b := w.heap.size + 1) (o := 2) omg (by go_simp; with_reducible rfl)
 have fw2x0x2 := keepf hbw2 (b := w.heap.size + 1) (o := 2) omg (by go_simp)
 have kw2x0x3 := keepc hbw2 (b := w.heap.size + 1) (o := 3) omg (by go_simp; with_reducible rfl)
 have fw2x0x3 := keepf hbw2 (b := w.heap.size + 1) (o := 3) omg (by go_simp)
 have kw2x0x4 := keepc hbw2 (b := w.heap.size + 1) (o := 4) omg (by go_simp; with_reducible rfl)
 have fw2x0x4 := keepf hbw2 (b := w.heap.size + 1) (o := 4) omg (by go_simp)
 have kw2x0x5 := keepc hbw2 (b := w.heap.size + 1) (o := 5) omg (by go_simp; with_reducible rfl)
 have fw2x0x5 := keepf hbw2 (b := w.heap.size + 1) (o := 5) omg (by go_simp)
 have kw2x0x6 := keepc hbw2 (b := w.heap.size + 1) (o := 6) omg (by go_simp; with_reducible rfl)
 have fw2x0x6 := keepf hbw2 (b := w.heap.size + 1) (o := 6) omg (by go_simp)
 have kw2x0x7 := keepc hbw2 (b := w.heap.size + 1) (o := 7) omg (by go_simp; with_reducible rfl)
 have fw2x0x7 := keepf hbw2 (b := w.heap.size + 1) (o := 7) omg (by go_simp)
 have zw2x0 : w.heap.size + 1 < w2.heap.size := by omega
 have H_hbw2 := Lib.hid hbw2; clear hbw2
 go_wp2_with fail
 refine bodyPost_ret (v := .tuple #[.agg #[.int .i64 0, .int .i64 0, .slice none 0 0, .int .u64 0, .int .i64 0, .int .i64 0, .slice none 0 0, .int .u64 0], .int .i64 E]) (by simp [results, Tryz.results34, go_sem, *]) rfl (slotsErr_zero belt)
def Seg (w : World) (lo hi : Nat) (A : Option Addr) (l : List Int) : Prop :=
 ∀ i, i < l.length → ∃ b off, A = some ⟨b, off, none⟩ ∧ lo ≤ b ∧ b < hi ∧ b < w.heap.size ∧ w.cell? ⟨b, off + i, none⟩ = some (.int .i64 (l.getD i 0))
section
variable {w w' : World} {lo hi : Nat} {A : Option Addr} {l : List Int}
theorem Seg.ints (h : Seg w lo hi A l) : IntsAt w A .i64 l := fun i hi' => by
 obtain ⟨b, off, e, _, _, h1, h2⟩ := h i hi'; exact ⟨b, off, e, h1, h2⟩
theorem seg_own {E : TypeId} {c : Nat} (h : OwnInts w lo E .i64 A c l) : Seg w lo w.heap.size A l := fun i hi' => by
 obtain ⟨b, off, e, h1, h2⟩ := h.ints i hi'
 subst e
 exact ⟨b, off, rfl, (h.lt b rfl).1, h1, h1, h2⟩
theorem Seg.below (h : Seg w lo hi A l) (hb : Below w.heap.size w w') : Seg w' lo hi A l := fun i hi' => by
 obtain ⟨b, off, e, h0, h1, h2, h3⟩ := h i hi'; exact ⟨b, off, e, h0, h1, Nat.lt_of_lt_of_le h2 hb.size, (hb.cell (p := ⟨b, off + i, none⟩) h2).trans h3⟩
theorem Seg.alloc (h : Seg w lo hi A l) (o : Obj) : Seg (w.alloc o) lo hi A l := h.below ((Below.refl _ _).alloc (Nat.le_refl _) o)
theorem Seg.drew (h : Seg w lo hi A l) : Seg w.drew lo hi A l := h
theorem Seg.set (h : Seg w lo hi A l) {p : Addr} (hp : p.block < lo ∨ hi ≤ p.block) (v : Value) : Seg (w.setCell p v) lo hi A l := fun i hi' => by
 obtain ⟨b, off, e, h0, h1, h2, h3⟩ := h i hi'
 refine ⟨b, off, e, h0, h1, by simpa using h2, ?_⟩
 rw [World.cell?_setCell_other w p ⟨b, off + i, none⟩ v (fun e => by subst e; simp at hp; omega)]; exact h3
end
theorem wr_eq0 {x y : Slt} {c at_ : Int} {l : List Int} (h : wrE x y c l at_ = 0) : (wr0 x y c l at_ = if into0 x y = true ∧ at_ ≠ 0 then wrS x y c l at_ else x) ∧ (wr1 x y c l at_ = if into0 x y = false ∧ at_ ≠ 0 then wrS x y c l at_ else y) := ⟨by rw [wr0, if_pos h], by rw [wr1, if_pos h]⟩
end
end Go.Proofs.YtoehobaigfmnpaaGreatDoor

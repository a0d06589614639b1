/- Contracts of package slot: Write where it may, and where its lists lie. -/
import Derived.OpenShut
import Derived.Test.YtclgncaghiinhaaGreatDoorU7
import Derived.Test.YtclgncaghiinhaaGreatDoorU8
import Derived.Test.YtclgncaghiinhaaGreatDoorU9
import Derived.Test.YtclgncaghiinhaaGreatDoorU10
import Derived.Test.YtclgncaghiinhaaGreatDoorU14
import Derived.Test.YtclgncaghiinhaaGreatDoorU16
set_option linter.unusedSimpArgs false
set_option linter.unusedVariables false
set_option maxRecDepth 100000
namespace Go.Proofs.YtclgncaghiinhaaGreatDoor
open Go.RowKit
/-- a lock: its three numbers, its two slots, whether it has power -/
structure Lk where
 d : Int
 k : Int
 r : Int
 x : Slt
 y : Slt
 up : Bool
/-- its twelve cells -/
def Lk.cells (l : Lk) (A : Option Addr) (n p : Nat) (B : Option Addr) (m q : Nat) : List Value := [.int .i64 l.d, .int .i64 l.k, .int .i64 l.r, .int .i64 l.x.s, .int .i64 l.x.c, .slice A n p, .int .u64 l.x.u, .int .i64 l.y.s, .int .i64 l.y.c, .slice B m q, .int .u64 l.y.u, .bool l.up]
structure LFit (l : Lk) : Prop where
 d : -9223372036854775808 ≤ l.d ∧ l.d ≤ 9223372036854775807
 k : -9223372036854775808 ≤ l.k ∧ l.k ≤ 9223372036854775807
 r : -9223372036854775808 ≤ l.r ∧ l.r ≤ 9223372036854775807
/-- whether the numbers of a lock are right -/
def fmB (d k r : Int) : Bool := decide (1 ≤ d) && decide (d ≤ 400) && memZ k && errB r
/-- whether a lock is valid -/
def lvB (l : Lk) : Bool := bestB l.x l.y && fmB l.d l.k l.r
theorem best01 (x y : Slt) : bestI x y = 0 ∨ bestI x y = 1 := by unfold bestI; split <;> simp
theorem read0 (r : Int) : readB 0 r = errB r := by simp [readB, timeB]
set_option maxHeartbeats 4000000 in
theorem formed_any (l : Lk) (A : Option Addr) (n p : Nat) (B : Option Addr) (m q : Nat) (w : World) : Calls Tryz.prog 46 #[.agg (l.cells A n p B m q).toArray] w fun e w' => e = .returned (.bool (fmB l.d l.k l.r)) ∧ Below w.heap.size w w' := by
 obtain ⟨w0, hw0⟩ : ∃ W, w.alloc (.cells (l.cells A n p B m q).toArray 85) = W := ⟨_, rfl⟩
 have bb0 : Below w.heap.size w w0 := by rw [← hw0]; exact (Below.refl _ _).alloc (Nat.le_refl _) _
 have k0 : Blk w0 w.heap.size (l.cells A n p B m q).toArray := by rw [← hw0]; exact blk_new rfl
 have q1 := fun W => clockTrue_any 0 l.r W
 rw [read0] at q1
 have q2 := fun W => member_any l.k W
 have fin : fmB l.d l.k l.r = (decide (1 ≤ l.d) && decide (l.d ≤ 400) && memZ l.k && errB l.r) := rfl
 generalize errB l.r = E at *
 generalize memZ l.k = M at *
 generalize fmB l.d l.k l.r = F at *
 generalize trueA 0 l.r = ta at *
 generalize trueB 0 l.r = tb at *
 unfold Lk.cells at k0 hw0 ⊢
 unfold errN at q1
 by_cases h1 : 1 ≤ l.d
 rotate_left
 ·have d1 : decide (1 ≤ l.d) = false := decide_eq_false h1
  rw [d1] at fin
  simp only [Bool.false_and] at fin
  have ⟨Hbb0, Hk0, Hhw0, Hq1, Hq2, Hfin⟩ := hid6 bb0 k0 hw0 q1 q2 fin; clear bb0 k0 hw0 q1 q2 fin
  go_enter Tryz.func46, Tryz.ntmps46
  go_wp2_with fail
  rw [Hhw0.out]
  obtain ⟨y0, y1, y2, y3, y4, y5, y6, y7, y8, y9, y10, y11⟩ := at12_of Hk0.out
  go_wp2_with fail
  (with_reducible refine (Hq1.out _).mono ?_)
  rintro e w1 ⟨rfl, b1⟩
  have c1 : Below w0.heap.size w0 w1 := Below.trans belt (b1.mono omh)
  have s1 := c1.size
  have bb1 := Hbb0.out.trans (c1.mono Hbb0.out.size)
  have k1 := Hk0.out.below c1
  have ⟨Hb1, Hc1, Hbb1, Hk1⟩ := hid4 b1 c1 bb1 k1; clear b1 c1 bb1 k1
  clear y0 y1 y2 y3 y4 y5 y6 y7 y8 y9 y10 y11
  obtain ⟨y0, y1, y2, y3, y4, y5, y6, y7, y8, y9, y10, y11⟩ := at12_of Hk1.out
  have lt1 := (Hk1.out 0 _ rfl).lt
  go_wp2_with fail
  all_goals
   go_ret
   exact ⟨ret_bool Hfin.out.symm, Hbb1.out.alloc Hbb1.out.size _⟩
 have d1 : decide (1 ≤ l.d) = true := decide_eq_true h1
 by_cases h2 : l.d ≤ 400
 rotate_left
 ·have d2 : decide (l.d ≤ 400) = false := decide_eq_false h2
  rw [d1, d2] at fin
  simp only [Bool.false_and, Bool.true_and] at fin
  have ⟨Hbb0, Hk0, Hhw0, Hq1, Hq2, Hfin⟩ := hid6 bb0 k0 hw0 q1 q2 fin; clear bb0 k0 hw0 q1 q2 fin
  go_enter Tryz.func46, Tryz.ntmps46
  go_wp2_with fail
  rw [Hhw0.out]
  obtain ⟨y0, y1, y2, y3, y4, y5, y6, y7, y8, y9, y10, y11⟩ := at12_of Hk0.out
  go_wp2_with fail
  (with_reducible refine (Hq1.out _).mono ?_)
  rintro e w1 ⟨rfl, b1⟩
  have c1 : Below w0.heap.size w0 w1 := Below.trans belt (b1.mono omh)
  have s1 := c1.size
  have bb1 := Hbb0.out.trans (c1.mono Hbb0.out.size)
  have k1 := Hk0.out.below c1
  have ⟨Hb1, Hc1, Hbb1, Hk1⟩ := hid4 b1 c1 bb1 k1; clear b1 c1 bb1 k1
  clear y0 y1 y2 y3 y4 y5 y6 y7 y8 y9 y10 y11
  obtain ⟨y0, y1, y2, y3, y4, y5, y6, y7, y8, y9, y10, y11⟩ := at12_of Hk1.out
  have lt1 := (Hk1.out 0 _ rfl).lt
  go_wp2_with fail
  all_goals
   go_ret
   exact ⟨ret_bool Hfin.out.symm, Hbb1.out.alloc Hbb1.out.size _⟩
 have d2 : decide (l.d ≤ 400) = true := decide_eq_true h2
 rw [d1, d2] at fin
 simp only [Bool.true_and] at fin
 cases E
 all_goals
  simp only [Bool.false_eq_true, reduceIte, if_true, if_false] at q1
  have ⟨Hbb0, Hk0, Hhw0, Hq1, Hq2, Hfin⟩ := hid6 bb0 k0 hw0 q1 q2 fin; clear bb0 k0 hw0 q1 q2 fin
  go_enter Tryz.func46, Tryz.ntmps46
  go_wp2_with fail
  rw [Hhw0.out]
  obtain ⟨y0, y1, y2, y3, y4, y5, y6, y7, y8, y9, y10, y11⟩ := at12_of Hk0.out
  go_wp2_with fail
  (with_reducible refine (Hq1.out _).mono ?_)
  rintro e w1 ⟨rfl, b1⟩
  have c1 : Below w0.heap.size w0 w1 := Below.trans belt (b1.mono omh)
  have s1 := c1.size
  have bb1 := Hbb0.out.trans (c1.mono Hbb0.out.size)
  have k1 := Hk0.out.below c1
  have ⟨Hb1, Hc1, Hbb1, Hk1⟩ := hid4 b1 c1 bb1 k1; clear b1 c1 bb1 k1
  clear y0 y1 y2 y3 y4 y5 y6 y7 y8 y9 y10 y11
  obtain ⟨y0, y1, y2, y3, y4, y5, y6, y7, y8, y9, y10, y11⟩ := at12_of Hk1.out
  have lt1 := (Hk1.out 0 _ rfl).lt
  go_wp2_with fail
  (with_reducible refine (Hq2.out _).mono ?_)
  rintro e w2 ⟨rfl, b2⟩
  have c2 : Below w1.heap.size w1 w2 := Below.trans belt (b2.mono omh)
  have s2 := c2.size
  have bb2 := Hbb1.out.trans (c2.mono Hbb1.out.size)
  have ⟨Hb2, Hc2, Hbb2⟩ := hid3 b2 c2 bb2; clear b2 c2 bb2
  cases M
  all_goals
   go_wp2_with fail
   go_ret
   exact ⟨ret_bool (by rw [Hfin.out]; rfl), Hbb2.out⟩
/-- the slot that is kept -/
def keepS (l : Lk) : Slt := if bestI l.x l.y = 1 then l.y else l.x
set_option maxHeartbeats 4000000 in
theorem kept_any (l : Lk) (A : Option Addr) (n p : Nat) (B : Option Addr) (m q : Nat) (w : World) (hx : SlotIs w A n l.x) (hy : SlotIs w B m l.y) (ht : Tab w) :
  Calls Tryz.prog 50 #[.agg (l.cells A n p B m q).toArray] w fun e w' => e = .returned (.tuple #[.agg (if bestI l.x l.y = 1 then #[.int .i64 l.y.s, .int .i64 l.y.c, .slice B m q, .int .u64 l.y.u] else #[.int .i64 l.x.s, .int .i64 l.x.c, .slice A n p, .int .u64 l.x.u]), .bool (bestB l.x l.y)]) ∧ Below w.heap.size w w' := by
 obtain ⟨w0, hw0⟩ : ∃ W, (w.alloc (.cells (l.cells A n p B m q).toArray 85)).alloc (.cells #[.int .i64 0, .int .i64 0, .slice none 0 0, .int .u64 0] 45) = W := ⟨_, rfl⟩
 have bb0 : Below w.heap.size w w0 := by rw [← hw0]; exact ((Below.refl _ _).alloc (Nat.le_refl _) _).alloc (by simp) _
 have k0 : Blk w0 w.heap.size (l.cells A n p B m q).toArray := by rw [← hw0]; exact (blk_new rfl).alloc _
 have g0 : Blk w0 (w.heap.size + 1) #[.int .i64 0, .int .i64 0, .slice none 0 0, .int .u64 0] := by rw [← hw0]; exact blk_new (by simp)
 have q1 := best_any l.x l.y A n p B m q w0 (hx.below bb0) (hy.below bb0) (ht.below bb0)
 have hI := best01 l.x l.y
 generalize bestI l.x l.y = I at *
 generalize bestB l.x l.y = T at *
 unfold Lk.cells at k0 hw0 ⊢
 have ⟨Hbb0, Hk0, Hg0, Hhw0, Hq1, Hhx, Hhy, Hht⟩ := hid8 bb0 k0 g0 hw0 q1 hx hy ht; clear bb0 k0 g0 hw0 q1 hx hy ht
 go_enter Tryz.func50, Tryz.ntmps50
 go_wp2_with fail
 rw [Hhw0.out]
 obtain ⟨y0, y1, y2, y3, y4, y5, y6, y7, y8, y9, y10, y11⟩ := at12_of Hk0.out
 go_wp2_with fail
 (with_reducible refine (Hq1.out).mono ?_)
 rintro e w1 ⟨rfl, b1⟩
 have c1 : Below w0.heap.size w0 w1 := Below.trans belt (b1.mono omh)
 have s1 := c1.size
 have bb1 := Hbb0.out.trans (c1.mono Hbb0.out.size)
 have k1 := Hk0.out.below c1
 have g1 := Hg0.out.below c1
 have ⟨Hb1, Hc1, Hbb1, Hk1, Hg1⟩ := hid5 b1 c1 bb1 k1 g1; clear b1 c1 bb1 k1 g1
 clear y0 y1 y2 y3 y4 y5 y6 y7 y8 y9 y10 y11
 obtain ⟨y0, y1, y2, y3, y4, y5, y6, y7, y8, y9, y10, y11⟩ := at12_of Hk1.out
 obtain ⟨z0, z1, z2, z3⟩ := at4_of Hg1.out
 obtain ⟨f0, f1, f2, f3⟩ := free4_of Hg1.out
 have ly := (Hk1.out 0 _ rfl).lt
 have lz := (Hg1.out 0 _ rfl).lt
 rcases hI with rfl | rfl
 ·have b2 : Below w.heap.size w (putL w1 (w.heap.size + 1) 0 [.int .i64 l.x.s, .int .i64 l.x.c, .slice A n p, .int .u64 l.x.u]) := putL_below (by omega) _ _ _ Hbb1.out
  simp only [putL, Nat.reduceAdd] at b2
  have Hb2 := Lib.hid b2; clear b2
  go_wp2_with fail
  refine bodyPost_ret (v := .tuple #[.agg #[.int .i64 l.x.s, .int .i64 l.x.c, .slice A n p, .int .u64 l.x.u], .bool T]) (by simp [results, Tryz.results50, go_sem, *]) rfl ⟨rfl, Hb2.out⟩
 ·have b2 : Below w.heap.size w (putL w1 (w.heap.size + 1) 0 [.int .i64 l.y.s, .int .i64 l.y.c, .slice B m q, .int .u64 l.y.u]) := putL_below (by omega) _ _ _ Hbb1.out
  simp only [putL, Nat.reduceAdd] at b2
  have Hb2 := Lib.hid b2; clear b2
  go_wp2_with fail
  refine bodyPost_ret (v := .tuple #[.agg #[.int .i64 l.y.s, .int .i64 l.y.c, .slice B m q, .int .u64 l.y.u], .bool T]) (by simp [results, Tryz.results50, go_sem, *]) rfl ⟨rfl, Hb2.out⟩
set_option maxHeartbeats 4000000 in
theorem lvalid_any (l : Lk) (A : Option Addr) (n p : Nat) (B : Option Addr) (m q : Nat) (w : World) (hx : SlotIs w A n l.x) (hy : SlotIs w B m l.y) (ht : Tab w) :
  Calls Tryz.prog 19 #[.agg (l.cells A n p B m q).toArray] w fun e w' => e = .returned (.bool (lvB l)) ∧ Below w.heap.size w w' := by
 obtain ⟨w0, hw0⟩ : ∃ W, (w.alloc (.cells (l.cells A n p B m q).toArray 48)).alloc (.cells (l.cells A n p B m q).toArray 85) = W := ⟨_, rfl⟩
 have bb0 : Below w.heap.size w w0 := by rw [← hw0]; exact ((Below.refl _ _).alloc (Nat.le_refl _) _).alloc (by simp) _
 have k0 : Blk w0 (w.heap.size + 1) (l.cells A n p B m q).toArray := by rw [← hw0]; exact blk_new (by simp)
 have q1 := kept_any l A n p B m q w0 (hx.below bb0) (hy.below bb0) (ht.below bb0)
 have q2 := fun W => formed_any l A n p B m q W
 have fin : lvB l = (bestB l.x l.y && fmB l.d l.k l.r) := rfl
 have hI := best01 l.x l.y
 generalize bestI l.x l.y = I at *
 generalize bestB l.x l.y = T at *
 generalize fmB l.d l.k l.r = F at *
 generalize lvB l = R at *
 unfold Lk.cells at k0 hw0 q1 q2 ⊢
 rcases hI with rfl | rfl
 all_goals
  simp only [reduceIte, Int.reduceEq, if_false, if_true] at q1
  have ⟨Hbb0, Hk0, Hhw0, Hq1, Hq2, Hfin, Hhx, Hhy⟩ := hid8 bb0 k0 hw0 q1 q2 fin hx hy; clear bb0 k0 hw0 q1 q2 fin hx hy; have Hht := Lib.hid ht; clear ht
  go_enter Tryz.func19, Tryz.ntmps19
  go_wp2_with fail
  rw [Hhw0.out]
  obtain ⟨y0, y1, y2, y3, y4, y5, y6, y7, y8, y9, y10, y11⟩ := at12_of Hk0.out
  go_wp2_with fail
  (with_reducible refine (Hq1.out).mono ?_)
  rintro e w1 ⟨rfl, b1⟩
  have c1 : Below w0.heap.size w0 w1 := Below.trans belt (b1.mono omh)
  have s1 := c1.size
  have bb1 := Hbb0.out.trans (c1.mono Hbb0.out.size)
  have k1 := Hk0.out.below c1
  have ⟨Hb1, Hc1, Hbb1, Hk1⟩ := hid4 b1 c1 bb1 k1; clear b1 c1 bb1 k1
  clear y0 y1 y2 y3 y4 y5 y6 y7 y8 y9 y10 y11
  cases T with
  | false =>
   go_wp2_with fail
   go_ret
   exact ⟨ret_bool (by rw [Hfin.out]; rfl), Hbb1.out.alloc Hbb1.out.size _⟩
  | true =>
   obtain ⟨y0, y1, y2, y3, y4, y5, y6, y7, y8, y9, y10, y11⟩ := at12_of Hk1.out
   have lt1 := (Hk1.out 0 _ rfl).lt
   go_wp2_with fail
   (with_reducible refine (Hq2.out _).mono ?_)
   rintro e w2 ⟨rfl, b2⟩
   have c2 : Below w1.heap.size w1 w2 := Below.trans belt (b2.mono omh)
   have s2 := c2.size
   have bb2 := Hbb1.out.trans (c2.mono Hbb1.out.size)
   have ⟨Hb2, Hc2, Hbb2⟩ := hid3 b2 c2 bb2; clear b2 c2 bb2
   go_wp2_with fail
   go_ret
   exact ⟨ret_bool (by rw [Hfin.out]; rfl), Hbb2.out⟩
section
open Go.RowKit Go.ChangeShapes Go.WideShapes Go.ChangeAt
theorem read_slots {H : Type} {enc : TypeId × Value → H} {W : World} {held : Bool} {fuel : Nat} {c0 c1 c2 c3 c4 c5 c6 c7 : Value} {x : DataW H × List MemPlace} (h : DataW.trod enc Tryz.prog W 0 (fun _ => true) held fuel 46 [c0, c1, c2, c3, c4, c5, c6, c7] = some x) :
  ∃ (x y : Slt) (A : Option Addr) (n cap : Nat) (B : Option Addr) (m q : Nat), [c0, c1, c2, c3, c4, c5, c6, c7] = [.int .i64 x.s, .int .i64 x.c, .slice A n cap, .int .u64 x.u, .int .i64 y.s, .int .i64 y.c, .slice B m q, .int .u64 y.u] ∧ SlotArg W A n cap x ∧ SlotArg W B m q y := by
 have e4 : Tryz.prog.cellsOf 45 = 4 := by kernel_rfl
 obtain ⟨xs, m, _, _, _, hlen, hg⟩ := DataW.trod_array Tryz.underlying46 h
 match xs, hlen with
 | [y0, y1], _ =>
  have g0 := hg 0 (by omega)
  have g1 := hg 1 (by omega)
  simp [e4] at g0 g1
  obtain ⟨x, A, n, cap, rfl, rfl, rfl, rfl, hx⟩ := read_slot g0
  obtain ⟨y, B, m, q, rfl, rfl, rfl, rfl, hy⟩ := read_slot g1
  exact ⟨x, y, A, n, cap, B, m, q, rfl, hx, hy⟩
theorem read_lock {H : Type} {enc : TypeId × Value → H} {W : World} {held : Bool} (fuel : Nat) (cs : List Value) (x : DataW H × List MemPlace) (hl : cs.length = 12) (h : DataW.trod enc Tryz.prog W 0 (fun _ => true) held fuel 48 cs = some x) :
  ∃ (l : Lk) (A : Option Addr) (n p : Nat) (B : Option Addr) (m q : Nat), cs = l.cells A n p B m q ∧ SlotArg W A n p l.x ∧ SlotArg W B m q l.y ∧ LFit l := by
 obtain ⟨xs, n, _, _, _, hlen, hg⟩ := DataW.trod_struct Tryz.underlying48 h
 have hx : xs.length = 5 := hlen
 match xs, hx, cs, hl with
 | [y0, y1, y2, y3, y4], _, [c0, c1, c2, c3, c4, c5, c6, c7, c8, c9, c10, c11], _ =>
  have e1 : Tryz.prog.cellsOf 3 = 1 := by kernel_rfl
  have e2 : Tryz.prog.cellsOf 46 = 8 := by kernel_rfl
  have e3 : Tryz.prog.cellsOf 4 = 1 := by kernel_rfl
  have g0 := hg 0 _ rfl
  have g1 := hg 1 _ rfl
  have g2 := hg 2 _ rfl
  have g3 := hg 3 _ rfl
  have g4 := hg 4 _ rfl
  simp [e1, e2, e3] at g0 g1 g2 g3 g4
  obtain ⟨a0, rfl, w0⟩ := read_int Tryz.underlying3 g0
  obtain ⟨a1, rfl, w1⟩ := read_int Tryz.underlying3 g1
  obtain ⟨a2, rfl, w2⟩ := read_int Tryz.underlying3 g2
  obtain ⟨x, y, A, n, p, B, m, q, e, hx, hy⟩ := read_slots g3
  obtain ⟨b, hb, _⟩ := DataW.trod_bool Tryz.underlying4 g4
  simp only [List.cons.injEq, and_true] at e hb
  obtain ⟨rfl, rfl, rfl, rfl, rfl, rfl, rfl, rfl⟩ := e
  subst hb
  exact ⟨⟨a0, a1, a2, x, y, b⟩, A, n, p, B, m, q, rfl, hx, hy, ⟨wf_i64 w0, wf_i64 w1, wf_i64 w2⟩⟩
theorem open_lock {H : Type} {enc : TypeId × Value → H} {W : World} {base : Nat} {held : Bool} {v : Value} {d : DataW H} {p : List MemPlace} (hv : Value.okWide Tryz.prog W .any base 48 v) (h : DataW.Trod enc Tryz.prog W 0 (fun _ => true) held 48 v d p) :
  ∃ (l : Lk) (A : Option Addr) (n p : Nat) (B : Option Addr) (m q : Nat), v = .agg (l.cells A n p B m q).toArray ∧ SlotArg W A n p l.x ∧ SlotArg W B m q l.y ∧ LFit l := by
 obtain ⟨cs, rfl, hsz⟩ := okWide_struct Tryz.underlying48 hv
 have e : Tryz.prog.cellsOf 48 = 12 := by kernel_rfl
 obtain ⟨fuel, hf⟩ := h
 obtain ⟨l, A, n, p, B, m, q, hz, hx, hy, hl⟩ := read_lock fuel cs.toList _ (by rw [Array.length_toList, hsz, e]) hf
 exact ⟨l, A, n, p, B, m, q, by rw [← hz], hx, hy, hl⟩
end
/-- a list that lies where an argument's list lay, or in new memory -/
def Prov (w w' : World) (A0 : Option Addr) (l0 : List Int) (A : Option Addr) (l : List Int) : Prop := IntsAt w' A .i64 l ∧ (l = [] ∨ (A = A0 ∧ l = l0) ∨ ∀ b off, A = some ⟨b, off, none⟩ → w.heap.size ≤ b)
theorem prov_old {w w' : World} {A : Option Addr} {l : List Int} (h : IntsAt w' A .i64 l) : Prov w w' A l A l := ⟨h, .inr (.inl ⟨rfl, rfl⟩)⟩
theorem prov_new {w w' : World} {lo hi : Nat} {A0 A : Option Addr} {l0 l : List Int} (h : Seg w' lo hi A l) (hw : w.heap.size ≤ lo) : Prov w w' A0 l0 A l := by
 refine ⟨h.ints, ?_⟩
 rcases Nat.eq_zero_or_pos l.length with h0 | h0
 ·exact .inl (List.eq_nil_of_length_eq_zero h0)
 ·refine .inr (.inr fun b off e => ?_)
  obtain ⟨b', off', e', h1, _⟩ := h 0 h0
  rw [e] at e'
  injection e' with e'
  injection e' with e1 _
  omega
/-- two slots and an error number, the lists' places known -/
def SlotsErr2 (A0 : Option Addr) (l0 : List Int) (B0 : Option Addr) (m0 : List Int) (x y : Slt) (E : Int) (w : World) (e : Ending) (w' : World) : Prop :=
 ∃ A p B q, e = .returned (.tuple #[.agg #[.int .i64 x.s, .int .i64 x.c, .slice A x.l.length p, .int .u64 x.u, .int .i64 y.s, .int .i64 y.c, .slice B y.l.length q, .int .u64 y.u], .int .i64 E]) ∧ Prov w w' A0 l0 A x.l ∧ Prov w w' B0 m0 B y.l ∧ Below w.heap.size w w'
/-- such a list does not lie in a block that is neither older than the argument's world nor new -/
theorem Prov.set {w0 w w' : World} {A0 A : Option Addr} {l0 l : List Int} (h : Prov w w' A0 l0 A l) (h0 : IntsAt w0 A0 .i64 l0) {b : Nat} (h1 : w0.heap.size ≤ b) (h2 : b < w.heap.size) : ∀ b' off, l ≠ [] → A = some ⟨b', off, none⟩ → b' ≠ b := fun b' off hl hA => by
 rcases h.2 with h3 | ⟨h3, h4⟩ | h3
 ·exact absurd h3 hl
 ·subst h3 h4
  have hlen : 0 < l.length := by
   cases l with
   | nil => exact absurd rfl hl
   | cons x r => simp
  obtain ⟨b2, o2, e, h5, _⟩ := h0 0 hlen
  rw [hA] at e
  injection e with e
  injection e with e1 _
  omega
 ·have := h3 b' off hA
  omega
end Go.Proofs.YtclgncaghiinhaaGreatDoor

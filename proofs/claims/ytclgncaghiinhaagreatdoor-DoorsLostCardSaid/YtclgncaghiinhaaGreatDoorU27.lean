/- lock.Show: its errors. -/
import Derived.Test.YtclgncaghiinhaaGreatDoorU15
import Derived.Test.YtclgncaghiinhaaGreatDoorU24
import Derived.Test.YtclgncaghiinhaaGreatDoorU26
set_option linter.unusedSimpArgs false
set_option linter.unusedVariables false
set_option maxRecDepth 100000
namespace Go.Proofs.YtclgncaghiinhaaGreatDoor
open Go.RowKit
/-- a lock, whether the door opened, and an error number; the lists' places known -/
def ShowPost (A0 : Option Addr) (l0 : List Int) (B0 : Option Addr) (m0 : List Int) (r : Lk) (o : Bool) (E : Int) (w : World) (e : Ending) (w' : World) : Prop :=
 ∃ A p B q, e = .returned (.tuple #[.agg (r.cells A r.x.l.length p B r.y.l.length q).toArray, .bool o, .int .i64 E]) ∧ Prov w w' A0 l0 A r.x.l ∧ Prov w w' B0 m0 B r.y.l ∧ Below w.heap.size w w'
theorem showErr_zero {A0 : Option Addr} {l0 : List Int} {B0 : Option Addr} {m0 : List Int} {E : Int} {w w' : World} (hb : Below w.heap.size w w') :
  ShowPost A0 l0 B0 m0 Lk.zero false E w (.returned (.tuple #[.agg #[.int .i64 0, .int .i64 0, .int .i64 0, .int .i64 0, .int .i64 0, .slice none 0 0, .int .u64 0, .int .i64 0, .int .i64 0, .slice none 0 0, .int .u64 0, .bool false], .bool false, .int .i64 E])) w' :=
 ⟨none, 0, none, 0, rfl, prov_nil _ _ _ _ _, prov_nil _ _ _ _ _, hb⟩
theorem read_time (t : Int) : readB t 0 = timeB t := by
 have : errB 0 = true := by decide
 simp [readB, this]
set_option maxHeartbeats 8000000 in
theorem show_e1 (l : Lk) (c : Crd) (t a : Int) (A : Option Addr) (n p : Nat) (B : Option Addr) (m q : Nat) (w : World) (hx : SlotIs w A n l.x) (hy : SlotIs w B m l.y) (ht : Tab w) (hc : CFit c) (h1 : lvB l = false) :
  Calls Tryz.prog 87 #[.agg (l.cells A n p B m q).toArray, .agg c.cells.toArray, .int .i64 t, .int .i64 a] w (ShowPost A l.x.l B l.y.l Lk.zero false 1 w) := by
 have hn := hx.len
 have hm := hy.len
 subst hn hm
 obtain ⟨w0, hw0⟩ : ∃ W, ((w.alloc (.cells (l.cells A l.x.l.length p B l.y.l.length q).toArray 48)).alloc (.cells c.cells.toArray 28)).alloc (.cells #[.int .i64 0, .int .i64 0, .int .i64 0, .int .i64 0, .int .i64 0, .slice none 0 0, .int .u64 0, .int .i64 0, .int .i64 0, .slice none 0 0, .int .u64 0, .bool false] 48) = W := ⟨_, rfl⟩
 have bb0 : Below w.heap.size w w0 := by rw [← hw0]; exact (((Below.refl _ _).alloc (Nat.le_refl _) _).alloc (by simp) _).alloc (by simp; omega) _
 have k0 : Blk w0 w.heap.size (l.cells A l.x.l.length p B l.y.l.length q).toArray := by rw [← hw0]; exact ((blk_new rfl).alloc _).alloc _
 have g0 : Blk w0 (w.heap.size + 1) c.cells.toArray := by rw [← hw0]; exact (blk_new (by simp)).alloc _
 have r0 : Blk w0 (w.heap.size + 1 + 1) #[.int .i64 0, .int .i64 0, .int .i64 0, .int .i64 0, .int .i64 0, .slice none 0 0, .int .u64 0, .int .i64 0, .int .i64 0, .slice none 0 0, .int .u64 0, .bool false] := by rw [← hw0]; exact blk_new (by simp)
 have q1 := fun W => clockTrue_any t 0 W
 rw [read_time] at q1
 have q2 := fun W (h : Below w.heap.size w W) => lvalid_any l A l.x.l.length p B l.y.l.length q W (hx.below h) (hy.below h) (ht.below h)
 have q3 := fun W => cvalid_any c hc W
 have q4 := fun W (h : Below w.heap.size w W) => ccheck_any c l.k hc W (ht.below h)
 have q5 := fun W (h : Below w.heap.size w W) => accepts_any l c t A l.x.l.length p B l.y.l.length q W (hx.below h) (hy.below h) (ht.below h)
 rw [h1] at q2
 unfold errN at q1
 generalize lvB l = V at *
 generalize cvB c = V2 at *
 generalize timeB t = V3 at *
 generalize chkB c l.k = V4 at *
 generalize chkE c l.k = V5 at *
 generalize accB l c t = V6 at *
 generalize trueA t 0 = ta at *
 generalize trueB t 0 = tb at *
 unfold Lk.cells at k0 hw0 q2 q5  ⊢
 unfold Crd.cells at g0 hw0 q3 q4 q5  ⊢
 obtain ⟨ci, ck, cd, cn, cf, cu, cl, ce, cs⟩ := c
 obtain ⟨ld, lk, lr, lx, ly, lu⟩ := l
 dsimp only at *
 cases V3
 all_goals
  simp only [Bool.false_eq_true, reduceIte, if_true, if_false] at q1
  have ⟨Hbb0, Hk0, Hg0, Hr0, Hhw0, Hq1, Hq2, Hq3⟩ := hid8 bb0 k0 g0 r0 hw0 q1 q2 q3; clear bb0 k0 g0 r0 hw0 q1 q2 q3; have ⟨Hq4, Hq5, Hhx, Hhy, Hht, Hhc⟩ := hid6 q4 q5 hx hy ht hc; clear q4 q5 hx hy ht hc
  go_enter Tryz.func87, Tryz.ntmps87
  go_wp2_with fail
  rw [Hhw0.out]
  go_wp2_with fail
  (with_reducible refine (Hq1.out _).mono ?_)
  rintro e w1 ⟨rfl, b1⟩
  have c1 : Below w0.heap.size w0 w1 := Below.trans belt (b1.mono omh)
  have s1 := c1.size
  have bb1 := Hbb0.out.trans (c1.mono Hbb0.out.size)
  have k1 := Hk0.out.below c1
  have g1 := Hg0.out.below c1
  have r1 := Hr0.out.below c1
  have ⟨Hb1, Hc1, Hbb1, Hk1, Hg1, Hr1⟩ := hid6 b1 c1 bb1 k1 g1 r1; clear b1 c1 bb1 k1 g1 r1
  obtain ⟨y0, y1, y2, y3, y4, y5, y6, y7, y8, y9, y10, y11⟩ := at12_of Hk1.out
  have ly1 := (Hk1.out 0 _ rfl).lt
  go_wp2_with fail
  (with_reducible refine (Hq2.out _ ?_).mono ?_)
  ·exact Hbb1.out.trans ((show Below w1.heap.size w1 _ from belt).mono Hbb1.out.size)
  rintro e w2 ⟨rfl, b2⟩
  have c2 : Below w1.heap.size w1 w2 := Below.trans belt (b2.mono omh)
  have s2 := c2.size
  have bb2 := Hbb1.out.trans (c2.mono Hbb1.out.size)
  have k2 := Hk1.out.below c2
  have g2 := Hg1.out.below c2
  have r2 := Hr1.out.below c2
  have ⟨Hb2, Hc2, Hbb2, Hk2, Hg2, Hr2⟩ := hid6 b2 c2 bb2 k2 g2 r2; clear b2 c2 bb2 k2 g2 r2
  clear y0 y1 y2 y3 y4 y5 y6 y7 y8 y9 y10 y11
  obtain ⟨x0, x1, x2, x3, x4, x5, x6, x7, x8, x9, x10, x11⟩ := at12_of Hr2.out
  have lx2 := (Hr2.out 0 _ rfl).lt
  have sz2 := Hbb2.out.size
  obtain ⟨f0, f1, f2, f3, f4, f5, f6, f7, f8, f9, f10, f11⟩ := free12_of Hr2.out
  have be : Below w.heap.size w (putL (w2) (w.heap.size + 1 + 1) 0 [.int .i64 0, .int .i64 0, .int .i64 0, .int .i64 0, .int .i64 0, .slice none 0 0, .int .u64 0, .int .i64 0, .int .i64 0, .slice none 0 0, .int .u64 0, .bool false]) := putL_below (by omega) _ _ _ Hbb2.out
  simp only [putL, Nat.reduceAdd] at be
  have Hbe := Lib.hid be; clear be
  go_wp2_with fail
  refine bodyPost_ret (v := .tuple #[.agg #[.int .i64 0, .int .i64 0, .int .i64 0, .int .i64 0, .int .i64 0, .slice none 0 0, .int .u64 0, .int .i64 0, .int .i64 0, .slice none 0 0, .int .u64 0, .bool false], .bool false, .int .i64 1]) (by simp [results, Tryz.results87, go_sem, *]) rfl (showErr_zero Hbe.out)
set_option maxHeartbeats 8000000 in
theorem show_e2 (l : Lk) (c : Crd) (t a : Int) (A : Option Addr) (n p : Nat) (B : Option Addr) (m q : Nat) (w : World) (hx : SlotIs w A n l.x) (hy : SlotIs w B m l.y) (ht : Tab w) (hc : CFit c) (h1 : lvB l = true) (h2 : cvB c = false) :
  Calls Tryz.prog 87 #[.agg (l.cells A n p B m q).toArray, .agg c.cells.toArray, .int .i64 t, .int .i64 a] w (ShowPost A l.x.l B l.y.l Lk.zero false 1 w) := by
 have hn := hx.len
 have hm := hy.len
 subst hn hm
 obtain ⟨w0, hw0⟩ : ∃ W, ((w.alloc (.cells (l.cells A l.x.l.length p B l.y.l.length q).toArray 48)).alloc (.cells c.cells.toArray 28)).alloc (.cells #[.int .i64 0, .int .i64 0, .int .i64 0, .int .i64 0, .int .i64 0, .slice none 0 0, .int .u64 0, .int .i64 0, .int .i64 0, .slice none 0 0, .int .u64 0, .bool false] 48) = W := ⟨_, rfl⟩
 have bb0 : Below w.heap.size w w0 := by rw [← hw0]; exact (((Below.refl _ _).alloc (Nat.le_refl _) _).alloc (by simp) _).alloc (by simp; omega) _
 have k0 : Blk w0 w.heap.size (l.cells A l.x.l.length p B l.y.l.length q).toArray := by rw [← hw0]; exact ((blk_new rfl).alloc _).alloc _
 have g0 : Blk w0 (w.heap.size + 1) c.cells.toArray := by rw [← hw0]; exact (blk_new (by simp)).alloc _
 have r0 : Blk w0 (w.heap.size + 1 + 1) #[.int .i64 0, .int .i64 0, .int .i64 0, .int .i64 0, .int .i64 0, .slice none 0 0, .int .u64 0, .int .i64 0, .int .i64 0, .slice none 0 0, .int .u64 0, .bool false] := by rw [← hw0]; exact blk_new (by simp)
 have q1 := fun W => clockTrue_any t 0 W
 rw [read_time] at q1
 have q2 := fun W (h : Below w.heap.size w W) => lvalid_any l A l.x.l.length p B l.y.l.length q W (hx.below h) (hy.below h) (ht.below h)
 have q3 := fun W => cvalid_any c hc W
 have q4 := fun W (h : Below w.heap.size w W) => ccheck_any c l.k hc W (ht.below h)
 have q5 := fun W (h : Below w.heap.size w W) => accepts_any l c t A l.x.l.length p B l.y.l.length q W (hx.below h) (hy.below h) (ht.below h)
 rw [h1] at q2
 rw [h2] at q3
 unfold errN at q1
 generalize lvB l = V at *
 generalize cvB c = V2 at *
 generalize timeB t = V3 at *
 generalize chkB c l.k = V4 at *
 generalize chkE c l.k = V5 at *
 generalize accB l c t = V6 at *
 generalize trueA t 0 = ta at *
 generalize trueB t 0 = tb at *
 unfold Lk.cells at k0 hw0 q2 q5  ⊢
 unfold Crd.cells at g0 hw0 q3 q4 q5  ⊢
 obtain ⟨ci, ck, cd, cn, cf, cu, cl, ce, cs⟩ := c
 obtain ⟨ld, lk, lr, lx, ly, lu⟩ := l
 dsimp only at *
 cases V3
 all_goals
  simp only [Bool.false_eq_true, reduceIte, if_true, if_false] at q1
  have ⟨Hbb0, Hk0, Hg0, Hr0, Hhw0, Hq1, Hq2, Hq3⟩ := hid8 bb0 k0 g0 r0 hw0 q1 q2 q3; clear bb0 k0 g0 r0 hw0 q1 q2 q3; have ⟨Hq4, Hq5, Hhx, Hhy, Hht, Hhc⟩ := hid6 q4 q5 hx hy ht hc; clear q4 q5 hx hy ht hc
  go_enter Tryz.func87, Tryz.ntmps87
  go_wp2_with fail
  rw [Hhw0.out]
  go_wp2_with fail
  (with_reducible refine (Hq1.out _).mono ?_)
  rintro e w1 ⟨rfl, b1⟩
  have c1 : Below w0.heap.size w0 w1 := Below.trans belt (b1.mono omh)
  have s1 := c1.size
  have bb1 := Hbb0.out.trans (c1.mono Hbb0.out.size)
  have k1 := Hk0.out.below c1
  have g1 := Hg0.out.below c1
  have r1 := Hr0.out.below c1
  have ⟨Hb1, Hc1, Hbb1, Hk1, Hg1, Hr1⟩ := hid6 b1 c1 bb1 k1 g1 r1; clear b1 c1 bb1 k1 g1 r1
  obtain ⟨y0, y1, y2, y3, y4, y5, y6, y7, y8, y9, y10, y11⟩ := at12_of Hk1.out
  have ly1 := (Hk1.out 0 _ rfl).lt
  go_wp2_with fail
  (with_reducible refine (Hq2.out _ ?_).mono ?_)
  ·exact Hbb1.out.trans ((show Below w1.heap.size w1 _ from belt).mono Hbb1.out.size)
  rintro e w2 ⟨rfl, b2⟩
  have c2 : Below w1.heap.size w1 w2 := Below.trans belt (b2.mono omh)
  have s2 := c2.size
  have bb2 := Hbb1.out.trans (c2.mono Hbb1.out.size)
  have k2 := Hk1.out.below c2
  have g2 := Hg1.out.below c2
  have r2 := Hr1.out.below c2
  have ⟨Hb2, Hc2, Hbb2, Hk2, Hg2, Hr2⟩ := hid6 b2 c2 bb2 k2 g2 r2; clear b2 c2 bb2 k2 g2 r2
  clear y0 y1 y2 y3 y4 y5 y6 y7 y8 y9 y10 y11
  obtain ⟨z0, z1, z2, z3, z4, z5, z6, z7, z8⟩ := at9_of Hg2.out
  go_wp2_with fail
  (with_reducible refine (Hq3.out _).mono ?_)
  rintro e w3 ⟨rfl, b3⟩
  have c3 : Below w2.heap.size w2 w3 := Below.trans belt (b3.mono omh)
  have s3 := c3.size
  have bb3 := Hbb2.out.trans (c3.mono Hbb2.out.size)
  have k3 := Hk2.out.below c3
  have g3 := Hg2.out.below c3
  have r3 := Hr2.out.below c3
  have ⟨Hb3, Hc3, Hbb3, Hk3, Hg3, Hr3⟩ := hid6 b3 c3 bb3 k3 g3 r3; clear b3 c3 bb3 k3 g3 r3
  clear z0 z1 z2 z3 z4 z5 z6 z7 z8
  obtain ⟨x0, x1, x2, x3, x4, x5, x6, x7, x8, x9, x10, x11⟩ := at12_of Hr3.out
  have lx3 := (Hr3.out 0 _ rfl).lt
  have sz3 := Hbb3.out.size
  obtain ⟨f0, f1, f2, f3, f4, f5, f6, f7, f8, f9, f10, f11⟩ := free12_of Hr3.out
  have be : Below w.heap.size w (putL (w3) (w.heap.size + 1 + 1) 0 [.int .i64 0, .int .i64 0, .int .i64 0, .int .i64 0, .int .i64 0, .slice none 0 0, .int .u64 0, .int .i64 0, .int .i64 0, .slice none 0 0, .int .u64 0, .bool false]) := putL_below (by omega) _ _ _ Hbb3.out
  simp only [putL, Nat.reduceAdd] at be
  have Hbe := Lib.hid be; clear be
  go_wp2_with fail
  refine bodyPost_ret (v := .tuple #[.agg #[.int .i64 0, .int .i64 0, .int .i64 0, .int .i64 0, .int .i64 0, .slice none 0 0, .int .u64 0, .int .i64 0, .int .i64 0, .slice none 0 0, .int .u64 0, .bool false], .bool false, .int .i64 1]) (by simp [results, Tryz.results87, go_sem, *]) rfl (showErr_zero Hbe.out)
set_option maxHeartbeats 8000000 in
theorem show_e3 (l : Lk) (c : Crd) (t a : Int) (A : Option Addr) (n p : Nat) (B : Option Addr) (m q : Nat) (w : World) (hx : SlotIs w A n l.x) (hy : SlotIs w B m l.y) (ht : Tab w) (hc : CFit c) (h1 : lvB l = true) (h2 : cvB c = true) (h3 : timeB t = false) :
  Calls Tryz.prog 87 #[.agg (l.cells A n p B m q).toArray, .agg c.cells.toArray, .int .i64 t, .int .i64 a] w (ShowPost A l.x.l B l.y.l Lk.zero false 1 w) := by
 have hn := hx.len
 have hm := hy.len
 subst hn hm
 obtain ⟨w0, hw0⟩ : ∃ W, ((w.alloc (.cells (l.cells A l.x.l.length p B l.y.l.length q).toArray 48)).alloc (.cells c.cells.toArray 28)).alloc (.cells #[.int .i64 0, .int .i64 0, .int .i64 0, .int .i64 0, .int .i64 0, .slice none 0 0, .int .u64 0, .int .i64 0, .int .i64 0, .slice none 0 0, .int .u64 0, .bool false] 48) = W := ⟨_, rfl⟩
 have bb0 : Below w.heap.size w w0 := by rw [← hw0]; exact (((Below.refl _ _).alloc (Nat.le_refl _) _).alloc (by simp) _).alloc (by simp; omega) _
 have k0 : Blk w0 w.heap.size (l.cells A l.x.l.length p B l.y.l.length q).toArray := by rw [← hw0]; exact ((blk_new rfl).alloc _).alloc _
 have g0 : Blk w0 (w.heap.size + 1) c.cells.toArray := by rw [← hw0]; exact (blk_new (by simp)).alloc _
 have r0 : Blk w0 (w.heap.size + 1 + 1) #[.int .i64 0, .int .i64 0, .int .i64 0, .int .i64 0, .int .i64 0, .slice none 0 0, .int .u64 0, .int .i64 0, .int .i64 0, .slice none 0 0, .int .u64 0, .bool false] := by rw [← hw0]; exact blk_new (by simp)
 have q1 := fun W => clockTrue_any t 0 W
 rw [read_time] at q1
 have q2 := fun W (h : Below w.heap.size w W) => lvalid_any l A l.x.l.length p B l.y.l.length q W (hx.below h) (hy.below h) (ht.below h)
 have q3 := fun W => cvalid_any c hc W
 have q4 := fun W (h : Below w.heap.size w W) => ccheck_any c l.k hc W (ht.below h)
 have q5 := fun W (h : Below w.heap.size w W) => accepts_any l c t A l.x.l.length p B l.y.l.length q W (hx.below h) (hy.below h) (ht.below h)
 rw [h1] at q2
 rw [h2] at q3
 rw [h3] at q1
 unfold errN at q1
 generalize lvB l = V at *
 generalize cvB c = V2 at *
 generalize timeB t = V3 at *
 generalize chkB c l.k = V4 at *
 generalize chkE c l.k = V5 at *
 generalize accB l c t = V6 at *
 generalize trueA t 0 = ta at *
 generalize trueB t 0 = tb at *
 unfold Lk.cells at k0 hw0 q2 q5  ⊢
 unfold Crd.cells at g0 hw0 q3 q4 q5  ⊢
 obtain ⟨ci, ck, cd, cn, cf, cu, cl, ce, cs⟩ := c
 obtain ⟨ld, lk, lr, lx, ly, lu⟩ := l
 dsimp only at *
 simp only [Bool.false_eq_true, reduceIte, if_true, if_false] at q1
 have ⟨Hbb0, Hk0, Hg0, Hr0, Hhw0, Hq1, Hq2, Hq3⟩ := hid8 bb0 k0 g0 r0 hw0 q1 q2 q3; clear bb0 k0 g0 r0 hw0 q1 q2 q3; have ⟨Hq4, Hq5, Hhx, Hhy, Hht, Hhc⟩ := hid6 q4 q5 hx hy ht hc; clear q4 q5 hx hy ht hc
 go_enter Tryz.func87, Tryz.ntmps87
 go_wp2_with fail
 rw [Hhw0.out]
 go_wp2_with fail
 (with_reducible refine (Hq1.out _).mono ?_)
 rintro e w1 ⟨rfl, b1⟩
 have c1 : Below w0.heap.size w0 w1 := Below.trans belt (b1.mono omh)
 have s1 := c1.size
 have bb1 := Hbb0.out.trans (c1.mono Hbb0.out.size)
 have k1 := Hk0.out.below c1
 have g1 := Hg0.out.below c1
 have r1 := Hr0.out.below c1
 have ⟨Hb1, Hc1, Hbb1, Hk1, Hg1, Hr1⟩ := hid6 b1 c1 bb1 k1 g1 r1; clear b1 c1 bb1 k1 g1 r1
 obtain ⟨y0, y1, y2, y3, y4, y5, y6, y7, y8, y9, y10, y11⟩ := at12_of Hk1.out
 have ly1 := (Hk1.out 0 _ rfl).lt
 go_wp2_with fail
 (with_reducible refine (Hq2.out _ ?_).mono ?_)
 ·exact Hbb1.out.trans ((show Below w1.heap.size w1 _ from belt).mono Hbb1.out.size)
 rintro e w2 ⟨rfl, b2⟩
 have c2 : Below w1.heap.size w1 w2 := Below.trans belt (b2.mono omh)
 have s2 := c2.size
 have bb2 := Hbb1.out.trans (c2.mono Hbb1.out.size)
 have k2 := Hk1.out.below c2
 have g2 := Hg1.out.below c2
 have r2 := Hr1.out.below c2
 have ⟨Hb2, Hc2, Hbb2, Hk2, Hg2, Hr2⟩ := hid6 b2 c2 bb2 k2 g2 r2; clear b2 c2 bb2 k2 g2 r2
 clear y0 y1 y2 y3 y4 y5 y6 y7 y8 y9 y10 y11
 obtain ⟨z0, z1, z2, z3, z4, z5, z6, z7, z8⟩ := at9_of Hg2.out
 go_wp2_with fail
 (with_reducible refine (Hq3.out _).mono ?_)
 rintro e w3 ⟨rfl, b3⟩
 have c3 : Below w2.heap.size w2 w3 := Below.trans belt (b3.mono omh)
 have s3 := c3.size
 have bb3 := Hbb2.out.trans (c3.mono Hbb2.out.size)
 have k3 := Hk2.out.below c3
 have g3 := Hg2.out.below c3
 have r3 := Hr2.out.below c3
 have ⟨Hb3, Hc3, Hbb3, Hk3, Hg3, Hr3⟩ := hid6 b3 c3 bb3 k3 g3 r3; clear b3 c3 bb3 k3 g3 r3
 clear z0 z1 z2 z3 z4 z5 z6 z7 z8
 obtain ⟨x0, x1, x2, x3, x4, x5, x6, x7, x8, x9, x10, x11⟩ := at12_of Hr3.out
 have lx3 := (Hr3.out 0 _ rfl).lt
 have sz3 := Hbb3.out.size
 obtain ⟨f0, f1, f2, f3, f4, f5, f6, f7, f8, f9, f10, f11⟩ := free12_of Hr3.out
 have be : Below w.heap.size w (putL (w3) (w.heap.size + 1 + 1) 0 [.int .i64 0, .int .i64 0, .int .i64 0, .int .i64 0, .int .i64 0, .slice none 0 0, .int .u64 0, .int .i64 0, .int .i64 0, .slice none 0 0, .int .u64 0, .bool false]) := putL_below (by omega) _ _ _ Hbb3.out
 simp only [putL, Nat.reduceAdd] at be
 have Hbe := Lib.hid be; clear be
 go_wp2_with fail
 refine bodyPost_ret (v := .tuple #[.agg #[.int .i64 0, .int .i64 0, .int .i64 0, .int .i64 0, .int .i64 0, .slice none 0 0, .int .u64 0, .int .i64 0, .int .i64 0, .slice none 0 0, .int .u64 0, .bool false], .bool false, .int .i64 1]) (by simp [results, Tryz.results87, go_sem, *]) rfl (showErr_zero Hbe.out)
set_option maxHeartbeats 8000000 in
theorem show_e4 (l : Lk) (c : Crd) (t a : Int) (A : Option Addr) (n p : Nat) (B : Option Addr) (m q : Nat) (w : World) (hx : SlotIs w A n l.x) (hy : SlotIs w B m l.y) (ht : Tab w) (hc : CFit c) (h1 : lvB l = true) (h2 : cvB c = true) (h3 : timeB t = true) (h4 : a < 0) :
  Calls Tryz.prog 87 #[.agg (l.cells A n p B m q).toArray, .agg c.cells.toArray, .int .i64 t, .int .i64 a] w (ShowPost A l.x.l B l.y.l Lk.zero false 1 w) := by
 have hn := hx.len
 have hm := hy.len
 subst hn hm
 obtain ⟨w0, hw0⟩ : ∃ W, ((w.alloc (.cells (l.cells A l.x.l.length p B l.y.l.length q).toArray 48)).alloc (.cells c.cells.toArray 28)).alloc (.cells #[.int .i64 0, .int .i64 0, .int .i64 0, .int .i64 0, .int .i64 0, .slice none 0 0, .int .u64 0, .int .i64 0, .int .i64 0, .slice none 0 0, .int .u64 0, .bool false] 48) = W := ⟨_, rfl⟩
 have bb0 : Below w.heap.size w w0 := by rw [← hw0]; exact (((Below.refl _ _).alloc (Nat.le_refl _) _).alloc (by simp) _).alloc (by simp; omega) _
 have k0 : Blk w0 w.heap.size (l.cells A l.x.l.length p B l.y.l.length q).toArray := by rw [← hw0]; exact ((blk_new rfl).alloc _).alloc _
 have g0 : Blk w0 (w.heap.size + 1) c.cells.toArray := by rw [← hw0]; exact (blk_new (by simp)).alloc _
 have r0 : Blk w0 (w.heap.size + 1 + 1) #[.int .i64 0, .int .i64 0, .int .i64 0, .int .i64 0, .int .i64 0, .slice none 0 0, .int .u64 0, .int .i64 0, .int .i64 0, .slice none 0 0, .int .u64 0, .bool false] := by rw [← hw0]; exact blk_new (by simp)
 have q1 := fun W => clockTrue_any t 0 W
 rw [read_time] at q1
 have q2 := fun W (h : Below w.heap.size w W) => lvalid_any l A l.x.l.length p B l.y.l.length q W (hx.below h) (hy.below h) (ht.below h)
 have q3 := fun W => cvalid_any c hc W
 have q4 := fun W (h : Below w.heap.size w W) => ccheck_any c l.k hc W (ht.below h)
 have q5 := fun W (h : Below w.heap.size w W) => accepts_any l c t A l.x.l.length p B l.y.l.length q W (hx.below h) (hy.below h) (ht.below h)
 rw [h1] at q2
 rw [h2] at q3
 rw [h3] at q1
 unfold errN at q1
 generalize lvB l = V at *
 generalize cvB c = V2 at *
 generalize timeB t = V3 at *
 generalize chkB c l.k = V4 at *
 generalize chkE c l.k = V5 at *
 generalize accB l c t = V6 at *
 generalize trueA t 0 = ta at *
 generalize trueB t 0 = tb at *
 unfold Lk.cells at k0 hw0 q2 q5  ⊢
 unfold Crd.cells at g0 hw0 q3 q4 q5  ⊢
 obtain ⟨ci, ck, cd, cn, cf, cu, cl, ce, cs⟩ := c
 obtain ⟨ld, lk, lr, lx, ly, lu⟩ := l
 dsimp only at *
 simp only [Bool.false_eq_true, reduceIte, if_true, if_false] at q1
 have ⟨Hbb0, Hk0, Hg0, Hr0, Hhw0, Hq1, Hq2, Hq3⟩ := hid8 bb0 k0 g0 r0 hw0 q1 q2 q3; clear bb0 k0 g0 r0 hw0 q1 q2 q3; have ⟨Hq4, Hq5, Hhx, Hhy, Hht, Hhc⟩ := hid6 q4 q5 hx hy ht hc; clear q4 q5 hx hy ht hc
 go_enter Tryz.func87, Tryz.ntmps87
 go_wp2_with fail
 rw [Hhw0.out]
 go_wp2_with fail
 (with_reducible refine (Hq1.out _).mono ?_)
 rintro e w1 ⟨rfl, b1⟩
 have c1 : Below w0.heap.size w0 w1 := Below.trans belt (b1.mono omh)
 have s1 := c1.size
 have bb1 := Hbb0.out.trans (c1.mono Hbb0.out.size)
 have k1 := Hk0.out.below c1
 have g1 := Hg0.out.below c1
 have r1 := Hr0.out.below c1
 have ⟨Hb1, Hc1, Hbb1, Hk1, Hg1, Hr1⟩ := hid6 b1 c1 bb1 k1 g1 r1; clear b1 c1 bb1 k1 g1 r1
 obtain ⟨y0, y1, y2, y3, y4, y5, y6, y7, y8, y9, y10, y11⟩ := at12_of Hk1.out
 have ly1 := (Hk1.out 0 _ rfl).lt
 go_wp2_with fail
 (with_reducible refine (Hq2.out _ ?_).mono ?_)
 ·exact Hbb1.out.trans ((show Below w1.heap.size w1 _ from belt).mono Hbb1.out.size)
 rintro e w2 ⟨rfl, b2⟩
 have c2 : Below w1.heap.size w1 w2 := Below.trans belt (b2.mono omh)
 have s2 := c2.size
 have bb2 := Hbb1.out.trans (c2.mono Hbb1.out.size)
 have k2 := Hk1.out.below c2
 have g2 := Hg1.out.below c2
 have r2 := Hr1.out.below c2
 have ⟨Hb2, Hc2, Hbb2, Hk2, Hg2, Hr2⟩ := hid6 b2 c2 bb2 k2 g2 r2; clear b2 c2 bb2 k2 g2 r2
 clear y0 y1 y2 y3 y4 y5 y6 y7 y8 y9 y10 y11
 obtain ⟨z0, z1, z2, z3, z4, z5, z6, z7, z8⟩ := at9_of Hg2.out
 go_wp2_with fail
 (with_reducible refine (Hq3.out _).mono ?_)
 rintro e w3 ⟨rfl, b3⟩
 have c3 : Below w2.heap.size w2 w3 := Below.trans belt (b3.mono omh)
 have s3 := c3.size
 have bb3 := Hbb2.out.trans (c3.mono Hbb2.out.size)
 have k3 := Hk2.out.below c3
 have g3 := Hg2.out.below c3
 have r3 := Hr2.out.below c3
 have ⟨Hb3, Hc3, Hbb3, Hk3, Hg3, Hr3⟩ := hid6 b3 c3 bb3 k3 g3 r3; clear b3 c3 bb3 k3 g3 r3
 clear z0 z1 z2 z3 z4 z5 z6 z7 z8
 obtain ⟨x0, x1, x2, x3, x4, x5, x6, x7, x8, x9, x10, x11⟩ := at12_of Hr3.out
 have lx3 := (Hr3.out 0 _ rfl).lt
 have sz3 := Hbb3.out.size
 obtain ⟨f0, f1, f2, f3, f4, f5, f6, f7, f8, f9, f10, f11⟩ := free12_of Hr3.out
 have be : Below w.heap.size w (putL (w3) (w.heap.size + 1 + 1) 0 [.int .i64 0, .int .i64 0, .int .i64 0, .int .i64 0, .int .i64 0, .slice none 0 0, .int .u64 0, .int .i64 0, .int .i64 0, .slice none 0 0, .int .u64 0, .bool false]) := putL_below (by omega) _ _ _ Hbb3.out
 simp only [putL, Nat.reduceAdd] at be
 have Hbe := Lib.hid be; clear be
 go_wp2_with fail
 refine bodyPost_ret (v := .tuple #[.agg #[.int .i64 0, .int .i64 0, .int .i64 0, .int .i64 0, .int .i64 0, .slice none 0 0, .int .u64 0, .int .i64 0, .int .i64 0, .slice none 0 0, .int .u64 0, .bool false], .bool false, .int .i64 1]) (by simp [results, Tryz.results87, go_sem, *]) rfl (showErr_zero Hbe.out)
set_option maxHeartbeats 8000000 in
theorem show_e5 (l : Lk) (c : Crd) (t a : Int) (A : Option Addr) (n p : Nat) (B : Option Addr) (m q : Nat) (w : World) (hx : SlotIs w A n l.x) (hy : SlotIs w B m l.y) (ht : Tab w) (hc : CFit c) (h1 : lvB l = true) (h2 : cvB c = true) (h3 : timeB t = true) (h4 : ¬ a < 0) (h5 : 3 < a) :
  Calls Tryz.prog 87 #[.agg (l.cells A n p B m q).toArray, .agg c.cells.toArray, .int .i64 t, .int .i64 a] w (ShowPost A l.x.l B l.y.l Lk.zero false 1 w) := by
 have hn := hx.len
 have hm := hy.len
 subst hn hm
 obtain ⟨w0, hw0⟩ : ∃ W, ((w.alloc (.cells (l.cells A l.x.l.length p B l.y.l.length q).toArray 48)).alloc (.cells c.cells.toArray 28)).alloc (.cells #[.int .i64 0, .int .i64 0, .int .i64 0, .int .i64 0, .int .i64 0, .slice none 0 0, .int .u64 0, .int .i64 0, .int .i64 0, .slice none 0 0, .int .u64 0, .bool false] 48) = W := ⟨_, rfl⟩
 have bb0 : Below w.heap.size w w0 := by rw [← hw0]; exact (((Below.refl _ _).alloc (Nat.le_refl _) _).alloc (by simp) _).alloc (by simp; omega) _
 have k0 : Blk w0 w.heap.size (l.cells A l.x.l.length p B l.y.l.length q).toArray := by rw [← hw0]; exact ((blk_new rfl).alloc _).alloc _
 have g0 : Blk w0 (w.heap.size + 1) c.cells.toArray := by rw [← hw0]; exact (blk_new (by simp)).alloc _
 have r0 : Blk w0 (w.heap.size + 1 + 1) #[.int .i64 0, .int .i64 0, .int .i64 0, .int .i64 0, .int .i64 0, .slice none 0 0, .int .u64 0, .int .i64 0, .int .i64 0, .slice none 0 0, .int .u64 0, .bool false] := by rw [← hw0]; exact blk_new (by simp)
 have q1 := fun W => clockTrue_any t 0 W
 rw [read_time] at q1
 have q2 := fun W (h : Below w.heap.size w W) => lvalid_any l A l.x.l.length p B l.y.l.length q W (hx.below h) (hy.below h) (ht.below h)
 have q3 := fun W => cvalid_any c hc W
 have q4 := fun W (h : Below w.heap.size w W) => ccheck_any c l.k hc W (ht.below h)
 have q5 := fun W (h : Below w.heap.size w W) => accepts_any l c t A l.x.l.length p B l.y.l.length q W (hx.below h) (hy.below h) (ht.below h)
 rw [h1] at q2
 rw [h2] at q3
 rw [h3] at q1
 unfold errN at q1
 generalize lvB l = V at *
 generalize cvB c = V2 at *
 generalize timeB t = V3 at *
 generalize chkB c l.k = V4 at *
 generalize chkE c l.k = V5 at *
 generalize accB l c t = V6 at *
 generalize trueA t 0 = ta at *
 generalize trueB t 0 = tb at *
 unfold Lk.cells at k0 hw0 q2 q5  ⊢
 unfold Crd.cells at g0 hw0 q3 q4 q5  ⊢
 obtain ⟨ci, ck, cd, cn, cf, cu, cl, ce, cs⟩ := c
 obtain ⟨ld, lk, lr, lx, ly, lu⟩ := l
 dsimp only at *
 simp only [Bool.false_eq_true, reduceIte, if_true, if_false] at q1
 have ⟨Hbb0, Hk0, Hg0, Hr0, Hhw0, Hq1, Hq2, Hq3⟩ := hid8 bb0 k0 g0 r0 hw0 q1 q2 q3; clear bb0 k0 g0 r0 hw0 q1 q2 q3; have ⟨Hq4, Hq5, Hhx, Hhy, Hht, Hhc⟩ := hid6 q4 q5 hx hy ht hc; clear q4 q5 hx hy ht hc
 go_enter Tryz.func87, Tryz.ntmps87
 go_wp2_with fail
 rw [Hhw0.out]
 go_wp2_with fail
 (with_reducible refine (Hq1.out _).mono ?_)
 rintro e w1 ⟨rfl, b1⟩
 have c1 : Below w0.heap.size w0 w1 := Below.trans belt (b1.mono omh)
 have s1 := c1.size
 have bb1 := Hbb0.out.trans (c1.mono Hbb0.out.size)
 have k1 := Hk0.out.below c1
 have g1 := Hg0.out.below c1
 have r1 := Hr0.out.below c1
 have ⟨Hb1, Hc1, Hbb1, Hk1, Hg1, Hr1⟩ := hid6 b1 c1 bb1 k1 g1 r1; clear b1 c1 bb1 k1 g1 r1
 obtain ⟨y0, y1, y2, y3, y4, y5, y6, y7, y8, y9, y10, y11⟩ := at12_of Hk1.out
 have ly1 := (Hk1.out 0 _ rfl).lt
 go_wp2_with fail
 (with_reducible refine (Hq2.out _ ?_).mono ?_)
 ·exact Hbb1.out.trans ((show Below w1.heap.size w1 _ from belt).mono Hbb1.out.size)
 rintro e w2 ⟨rfl, b2⟩
 have c2 : Below w1.heap.size w1 w2 := Below.trans belt (b2.mono omh)
 have s2 := c2.size
 have bb2 := Hbb1.out.trans (c2.mono Hbb1.out.size)
 have k2 := Hk1.out.below c2
 have g2 := Hg1.out.below c2
 have r2 := Hr1.out.below c2
 have ⟨Hb2, Hc2, Hbb2, Hk2, Hg2, Hr2⟩ := hid6 b2 c2 bb2 k2 g2 r2; clear b2 c2 bb2 k2 g2 r2
 clear y0 y1 y2 y3 y4 y5 y6 y7 y8 y9 y10 y11
 obtain ⟨z0, z1, z2, z3, z4, z5, z6, z7, z8⟩ := at9_of Hg2.out
 go_wp2_with fail
 (with_reducible refine (Hq3.out _).mono ?_)
 rintro e w3 ⟨rfl, b3⟩
 have c3 : Below w2.heap.size w2 w3 := Below.trans belt (b3.mono omh)
 have s3 := c3.size
 have bb3 := Hbb2.out.trans (c3.mono Hbb2.out.size)
 have k3 := Hk2.out.below c3
 have g3 := Hg2.out.below c3
 have r3 := Hr2.out.below c3
 have ⟨Hb3, Hc3, Hbb3, Hk3, Hg3, Hr3⟩ := hid6 b3 c3 bb3 k3 g3 r3; clear b3 c3 bb3 k3 g3 r3
 clear z0 z1 z2 z3 z4 z5 z6 z7 z8
 obtain ⟨x0, x1, x2, x3, x4, x5, x6, x7, x8, x9, x10, x11⟩ := at12_of Hr3.out
 have lx3 := (Hr3.out 0 _ rfl).lt
 have sz3 := Hbb3.out.size
 obtain ⟨f0, f1, f2, f3, f4, f5, f6, f7, f8, f9, f10, f11⟩ := free12_of Hr3.out
 have be : Below w.heap.size w (putL (w3) (w.heap.size + 1 + 1) 0 [.int .i64 0, .int .i64 0, .int .i64 0, .int .i64 0, .int .i64 0, .slice none 0 0, .int .u64 0, .int .i64 0, .int .i64 0, .slice none 0 0, .int .u64 0, .bool false]) := putL_below (by omega) _ _ _ Hbb3.out
 simp only [putL, Nat.reduceAdd] at be
 have Hbe := Lib.hid be; clear be
 go_wp2_with fail
 refine bodyPost_ret (v := .tuple #[.agg #[.int .i64 0, .int .i64 0, .int .i64 0, .int .i64 0, .int .i64 0, .slice none 0 0, .int .u64 0, .int .i64 0, .int .i64 0, .slice none 0 0, .int .u64 0, .bool false], .bool false, .int .i64 1]) (by simp [results, Tryz.results87, go_sem, *]) rfl (showErr_zero Hbe.out)
set_option maxHeartbeats 8000000 in
theorem show_e6 (l : Lk) (c : Crd) (t a : Int) (A : Option Addr) (n p : Nat) (B : Option Addr) (m q : Nat) (w : World) (hx : SlotIs w A n l.x) (hy : SlotIs w B m l.y) (ht : Tab w) (hc : CFit c) (h1 : lvB l = true) (h2 : cvB c = true) (h3 : timeB t = true) (h4 : ¬ a < 0) (h5 : ¬ 3 < a) (h6 : l.up = false) :
  Calls Tryz.prog 87 #[.agg (l.cells A n p B m q).toArray, .agg c.cells.toArray, .int .i64 t, .int .i64 a] w (ShowPost A l.x.l B l.y.l Lk.zero false 51 w) := by
 have hn := hx.len
 have hm := hy.len
 subst hn hm
 obtain ⟨w0, hw0⟩ : ∃ W, ((w.alloc (.cells (l.cells A l.x.l.length p B l.y.l.length q).toArray 48)).alloc (.cells c.cells.toArray 28)).alloc (.cells #[.int .i64 0, .int .i64 0, .int .i64 0, .int .i64 0, .int .i64 0, .slice none 0 0, .int .u64 0, .int .i64 0, .int .i64 0, .slice none 0 0, .int .u64 0, .bool false] 48) = W := ⟨_, rfl⟩
 have bb0 : Below w.heap.size w w0 := by rw [← hw0]; exact (((Below.refl _ _).alloc (Nat.le_refl _) _).alloc (by simp) _).alloc (by simp; omega) _
 have k0 : Blk w0 w.heap.size (l.cells A l.x.l.length p B l.y.l.length q).toArray := by rw [← hw0]; exact ((blk_new rfl).alloc _).alloc _
 have g0 : Blk w0 (w.heap.size + 1) c.cells.toArray := by rw [← hw0]; exact (blk_new (by simp)).alloc _
 have r0 : Blk w0 (w.heap.size + 1 + 1) #[.int .i64 0, .int .i64 0, .int .i64 0, .int .i64 0, .int .i64 0, .slice none 0 0, .int .u64 0, .int .i64 0, .int .i64 0, .slice none 0 0, .int .u64 0, .bool false] := by rw [← hw0]; exact blk_new (by simp)
 have q1 := fun W => clockTrue_any t 0 W
 rw [read_time] at q1
 have q2 := fun W (h : Below w.heap.size w W) => lvalid_any l A l.x.l.length p B l.y.l.length q W (hx.below h) (hy.below h) (ht.below h)
 have q3 := fun W => cvalid_any c hc W
 have q4 := fun W (h : Below w.heap.size w W) => ccheck_any c l.k hc W (ht.below h)
 have q5 := fun W (h : Below w.heap.size w W) => accepts_any l c t A l.x.l.length p B l.y.l.length q W (hx.below h) (hy.below h) (ht.below h)
 rw [h1] at q2
 rw [h2] at q3
 rw [h3] at q1
 unfold errN at q1
 generalize lvB l = V at *
 generalize cvB c = V2 at *
 generalize timeB t = V3 at *
 generalize chkB c l.k = V4 at *
 generalize chkE c l.k = V5 at *
 generalize accB l c t = V6 at *
 generalize trueA t 0 = ta at *
 generalize trueB t 0 = tb at *
 unfold Lk.cells at k0 hw0 q2 q5  ⊢
 unfold Crd.cells at g0 hw0 q3 q4 q5  ⊢
 obtain ⟨ci, ck, cd, cn, cf, cu, cl, ce, cs⟩ := c
 obtain ⟨ld, lk, lr, lx, ly, lu⟩ := l
 dsimp only at *
 subst h6
 simp only [Bool.false_eq_true, reduceIte, if_true, if_false] at q1
 have ⟨Hbb0, Hk0, Hg0, Hr0, Hhw0, Hq1, Hq2, Hq3⟩ := hid8 bb0 k0 g0 r0 hw0 q1 q2 q3; clear bb0 k0 g0 r0 hw0 q1 q2 q3; have ⟨Hq4, Hq5, Hhx, Hhy, Hht, Hhc⟩ := hid6 q4 q5 hx hy ht hc; clear q4 q5 hx hy ht hc
 go_enter Tryz.func87, Tryz.ntmps87
 go_wp2_with fail
 rw [Hhw0.out]
 go_wp2_with fail
 (with_reducible refine (Hq1.out _).mono ?_)
 rintro e w1 ⟨rfl, b1⟩
 have c1 : Below w0.heap.size w0 w1 := Below.trans belt (b1.mono omh)
 have s1 := c1.size
 have bb1 := Hbb0.out.trans (c1.mono Hbb0.out.size)
 have k1 := Hk0.out.below c1
 have g1 := Hg0.out.below c1
 have r1 := Hr0.out.below c1
 have ⟨Hb1, Hc1, Hbb1, Hk1, Hg1, Hr1⟩ := hid6 b1 c1 bb1 k1 g1 r1; clear b1 c1 bb1 k1 g1 r1
 obtain ⟨y0, y1, y2, y3, y4, y5, y6, y7, y8, y9, y10, y11⟩ := at12_of Hk1.out
 have ly1 := (Hk1.out 0 _ rfl).lt
 go_wp2_with fail
 (with_reducible refine (Hq2.out _ ?_).mono ?_)
 ·exact Hbb1.out.trans ((show Below w1.heap.size w1 _ from belt).mono Hbb1.out.size)
 rintro e w2 ⟨rfl, b2⟩
 have c2 : Below w1.heap.size w1 w2 := Below.trans belt (b2.mono omh)
 have s2 := c2.size
 have bb2 := Hbb1.out.trans (c2.mono Hbb1.out.size)
 have k2 := Hk1.out.below c2
 have g2 := Hg1.out.below c2
 have r2 := Hr1.out.below c2
 have ⟨Hb2, Hc2, Hbb2, Hk2, Hg2, Hr2⟩ := hid6 b2 c2 bb2 k2 g2 r2; clear b2 c2 bb2 k2 g2 r2
 clear y0 y1 y2 y3 y4 y5 y6 y7 y8 y9 y10 y11
 obtain ⟨z0, z1, z2, z3, z4, z5, z6, z7, z8⟩ := at9_of Hg2.out
 go_wp2_with fail
 (with_reducible refine (Hq3.out _).mono ?_)
 rintro e w3 ⟨rfl, b3⟩
 have c3 : Below w2.heap.size w2 w3 := Below.trans belt (b3.mono omh)
 have s3 := c3.size
 have bb3 := Hbb2.out.trans (c3.mono Hbb2.out.size)
 have k3 := Hk2.out.below c3
 have g3 := Hg2.out.below c3
 have r3 := Hr2.out.below c3
 have ⟨Hb3, Hc3, Hbb3, Hk3, Hg3, Hr3⟩ := hid6 b3 c3 bb3 k3 g3 r3; clear b3 c3 bb3 k3 g3 r3
 clear z0 z1 z2 z3 z4 z5 z6 z7 z8
 obtain ⟨y0, y1, y2, y3, y4, y5, y6, y7, y8, y9, y10, y11⟩ := at12_of Hk3.out
 obtain ⟨x0, x1, x2, x3, x4, x5, x6, x7, x8, x9, x10, x11⟩ := at12_of Hr3.out
 have lx3 := (Hr3.out 0 _ rfl).lt
 have sz3 := Hbb3.out.size
 obtain ⟨f0, f1, f2, f3, f4, f5, f6, f7, f8, f9, f10, f11⟩ := free12_of Hr3.out
 have be : Below w.heap.size w (putL (w3) (w.heap.size + 1 + 1) 0 [.int .i64 0, .int .i64 0, .int .i64 0, .int .i64 0, .int .i64 0, .slice none 0 0, .int .u64 0, .int .i64 0, .int .i64 0, .slice none 0 0, .int .u64 0, .bool false]) := putL_below (by omega) _ _ _ Hbb3.out
 simp only [putL, Nat.reduceAdd] at be
 have Hbe := Lib.hid be; clear be
 go_wp2_with fail
 refine bodyPost_ret (v := .tuple #[.agg #[.int .i64 0, .int .i64 0, .int .i64 0, .int .i64 0, .int .i64 0, .slice none 0 0, .int .u64 0, .int .i64 0, .int .i64 0, .slice none 0 0, .int .u64 0, .bool false], .bool false, .int .i64 51]) (by simp [results, Tryz.results87, go_sem, *]) rfl (showErr_zero Hbe.out)
set_option maxHeartbeats 8000000 in
theorem show_e7 (l : Lk) (c : Crd) (t a : Int) (A : Option Addr) (n p : Nat) (B : Option Addr) (m q : Nat) (w : World) (hx : SlotIs w A n l.x) (hy : SlotIs w B m l.y) (ht : Tab w) (hc : CFit c) (h1 : lvB l = true) (h2 : cvB c = true) (h3 : timeB t = true) (h4 : ¬ a < 0) (h5 : ¬ 3 < a) (h6 : l.up = true) (h7 : chkB c l.k = false) (h8 : chkE c l.k = 0) :
  Calls Tryz.prog 87 #[.agg (l.cells A n p B m q).toArray, .agg c.cells.toArray, .int .i64 t, .int .i64 a] w (ShowPost A l.x.l B l.y.l Lk.zero false 9 w) := by
 have hn := hx.len
 have hm := hy.len
 subst hn hm
 obtain ⟨w0, hw0⟩ : ∃ W, ((w.alloc (.cells (l.cells A l.x.l.length p B l.y.l.length q).toArray 48)).alloc (.cells c.cells.toArray 28)).alloc (.cells #[.int .i64 0, .int .i64 0, .int .i64 0, .int .i64 0, .int .i64 0, .slice none 0 0, .int .u64 0, .int .i64 0, .int .i64 0, .slice none 0 0, .int .u64 0, .bool false] 48) = W := ⟨_, rfl⟩
 have bb0 : Below w.heap.size w w0 := by rw [← hw0]; exact (((Below.refl _ _).alloc (Nat.le_refl _) _).alloc (by simp) _).alloc (by simp; omega) _
 have k0 : Blk w0 w.heap.size (l.cells A l.x.l.length p B l.y.l.length q).toArray := by rw [← hw0]; exact ((blk_new rfl).alloc _).alloc _
 have g0 : Blk w0 (w.heap.size + 1) c.cells.toArray := by rw [← hw0]; exact (blk_new (by simp)).alloc _
 have r0 : Blk w0 (w.heap.size + 1 + 1) #[.int .i64 0, .int .i64 0, .int .i64 0, .int .i64 0, .int .i64 0, .slice none 0 0, .int .u64 0, .int .i64 0, .int .i64 0, .slice none 0 0, .int .u64 0, .bool false] := by rw [← hw0]; exact blk_new (by simp)
 have q1 := fun W => clockTrue_any t 0 W
 rw [read_time] at q1
 have q2 := fun W (h : Below w.heap.size w W) => lvalid_any l A l.x.l.length p B l.y.l.length q W (hx.below h) (hy.below h) (ht.below h)
 have q3 := fun W => cvalid_any c hc W
 have q4 := fun W (h : Below w.heap.size w W) => ccheck_any c l.k hc W (ht.below h)
 have q5 := fun W (h : Below w.heap.size w W) => accepts_any l c t A l.x.l.length p B l.y.l.length q W (hx.below h) (hy.below h) (ht.below h)
 rw [h1] at q2
 rw [h2] at q3
 rw [h3] at q1
 rw [h7, h8] at q4
 unfold errN at q1
 generalize lvB l = V at *
 generalize cvB c = V2 at *
 generalize timeB t = V3 at *
 generalize chkB c l.k = V4 at *
 generalize chkE c l.k = V5 at *
 generalize accB l c t = V6 at *
 generalize trueA t 0 = ta at *
 generalize trueB t 0 = tb at *
 unfold Lk.cells at k0 hw0 q2 q5  ⊢
 unfold Crd.cells at g0 hw0 q3 q4 q5  ⊢
 obtain ⟨ci, ck, cd, cn, cf, cu, cl, ce, cs⟩ := c
 obtain ⟨ld, lk, lr, lx, ly, lu⟩ := l
 dsimp only at *
 subst h6
 simp only [Bool.false_eq_true, reduceIte, if_true, if_false] at q1
 have ⟨Hbb0, Hk0, Hg0, Hr0, Hhw0, Hq1, Hq2, Hq3⟩ := hid8 bb0 k0 g0 r0 hw0 q1 q2 q3; clear bb0 k0 g0 r0 hw0 q1 q2 q3; have ⟨Hq4, Hq5, Hhx, Hhy, Hht, Hhc⟩ := hid6 q4 q5 hx hy ht hc; clear q4 q5 hx hy ht hc
 go_enter Tryz.func87, Tryz.ntmps87
 go_wp2_with fail
 rw [Hhw0.out]
 go_wp2_with fail
 (with_reducible refine (Hq1.out _).mono ?_)
 rintro e w1 ⟨rfl, b1⟩
 have c1 : Below w0.heap.size w0 w1 := Below.trans belt (b1.mono omh)
 have s1 := c1.size
 have bb1 := Hbb0.out.trans (c1.mono Hbb0.out.size)
 have k1 := Hk0.out.below c1
 have g1 := Hg0.out.below c1
 have r1 := Hr0.out.below c1
 have ⟨Hb1, Hc1, Hbb1, Hk1, Hg1, Hr1⟩ := hid6 b1 c1 bb1 k1 g1 r1; clear b1 c1 bb1 k1 g1 r1
 obtain ⟨y0, y1, y2, y3, y4, y5, y6, y7, y8, y9, y10, y11⟩ := at12_of Hk1.out
 have ly1 := (Hk1.out 0 _ rfl).lt
 go_wp2_with fail
 (with_reducible refine (Hq2.out _ ?_).mono ?_)
 ·exact Hbb1.out.trans ((show Below w1.heap.size w1 _ from belt).mono Hbb1.out.size)
 rintro e w2 ⟨rfl, b2⟩
 have c2 : Below w1.heap.size w1 w2 := Below.trans belt (b2.mono omh)
 have s2 := c2.size
 have bb2 := Hbb1.out.trans (c2.mono Hbb1.out.size)
 have k2 := Hk1.out.below c2
 have g2 := Hg1.out.below c2
 have r2 := Hr1.out.below c2
 have ⟨Hb2, Hc2, Hbb2, Hk2, Hg2, Hr2⟩ := hid6 b2 c2 bb2 k2 g2 r2; clear b2 c2 bb2 k2 g2 r2
 clear y0 y1 y2 y3 y4 y5 y6 y7 y8 y9 y10 y11
 obtain ⟨z0, z1, z2, z3, z4, z5, z6, z7, z8⟩ := at9_of Hg2.out
 go_wp2_with fail
 (with_reducible refine (Hq3.out _).mono ?_)
 rintro e w3 ⟨rfl, b3⟩
 have c3 : Below w2.heap.size w2 w3 := Below.trans belt (b3.mono omh)
 have s3 := c3.size
 have bb3 := Hbb2.out.trans (c3.mono Hbb2.out.size)
 have k3 := Hk2.out.below c3
 have g3 := Hg2.out.below c3
 have r3 := Hr2.out.below c3
 have ⟨Hb3, Hc3, Hbb3, Hk3, Hg3, Hr3⟩ := hid6 b3 c3 bb3 k3 g3 r3; clear b3 c3 bb3 k3 g3 r3
 clear z0 z1 z2 z3 z4 z5 z6 z7 z8
 obtain ⟨y0, y1, y2, y3, y4, y5, y6, y7, y8, y9, y10, y11⟩ := at12_of Hk3.out
 obtain ⟨z0, z1, z2, z3, z4, z5, z6, z7, z8⟩ := at9_of Hg3.out
 go_wp2_with fail
 (with_reducible refine (Hq4.out _ ?_).mono ?_)
 ·exact Hbb3.out.trans ((show Below w3.heap.size w3 _ from belt).mono Hbb3.out.size)
 rintro e w4 ⟨rfl, b4⟩
 have c4 : Below w3.heap.size w3 w4 := Below.trans belt (b4.mono omh)
 have s4 := c4.size
 have bb4 := Hbb3.out.trans (c4.mono Hbb3.out.size)
 have k4 := Hk3.out.below c4
 have g4 := Hg3.out.below c4
 have r4 := Hr3.out.below c4
 have ⟨Hb4, Hc4, Hbb4, Hk4, Hg4, Hr4⟩ := hid6 b4 c4 bb4 k4 g4 r4; clear b4 c4 bb4 k4 g4 r4
 clear y0 y1 y2 y3 y4 y5 y6 y7 y8 y9 y10 y11 z0 z1 z2 z3 z4 z5 z6 z7 z8
 obtain ⟨x0, x1, x2, x3, x4, x5, x6, x7, x8, x9, x10, x11⟩ := at12_of Hr4.out
 have lx4 := (Hr4.out 0 _ rfl).lt
 have sz4 := Hbb4.out.size
 obtain ⟨f0, f1, f2, f3, f4, f5, f6, f7, f8, f9, f10, f11⟩ := free12_of Hr4.out
 have be : Below w.heap.size w (putL (w4) (w.heap.size + 1 + 1) 0 [.int .i64 0, .int .i64 0, .int .i64 0, .int .i64 0, .int .i64 0, .slice none 0 0, .int .u64 0, .int .i64 0, .int .i64 0, .slice none 0 0, .int .u64 0, .bool false]) := putL_below (by omega) _ _ _ Hbb4.out
 simp only [putL, Nat.reduceAdd] at be
 have Hbe := Lib.hid be; clear be
 go_wp2_with fail
 refine bodyPost_ret (v := .tuple #[.agg #[.int .i64 0, .int .i64 0, .int .i64 0, .int .i64 0, .int .i64 0, .slice none 0 0, .int .u64 0, .int .i64 0, .int .i64 0, .slice none 0 0, .int .u64 0, .bool false], .bool false, .int .i64 9]) (by simp [results, Tryz.results87, go_sem, *]) rfl (showErr_zero Hbe.out)
set_option maxHeartbeats 8000000 in
theorem show_e8 (l : Lk) (c : Crd) (t a : Int) (A : Option Addr) (n p : Nat) (B : Option Addr) (m q : Nat) (w : World) (hx : SlotIs w A n l.x) (hy : SlotIs w B m l.y) (ht : Tab w) (hc : CFit c) (h1 : lvB l = true) (h2 : cvB c = true) (h3 : timeB t = true) (h4 : ¬ a < 0) (h5 : ¬ 3 < a) (h6 : l.up = true) (h7 : chkB c l.k = true) (h8 : chkE c l.k = 0) (h9 : accB l c t = false) :
  Calls Tryz.prog 87 #[.agg (l.cells A n p B m q).toArray, .agg c.cells.toArray, .int .i64 t, .int .i64 a] w (ShowPost A l.x.l B l.y.l Lk.zero false 50 w) := by
 have hn := hx.len
 have hm := hy.len
 subst hn hm
 obtain ⟨w0, hw0⟩ : ∃ W, ((w.alloc (.cells (l.cells A l.x.l.length p B l.y.l.length q).toArray 48)).alloc (.cells c.cells.toArray 28)).alloc (.cells #[.int .i64 0, .int .i64 0, .int .i64 0, .int .i64 0, .int .i64 0, .slice none 0 0, .int .u64 0, .int .i64 0, .int .i64 0, .slice none 0 0, .int .u64 0, .bool false] 48) = W := ⟨_, rfl⟩
 have bb0 : Below w.heap.size w w0 := by rw [← hw0]; exact (((Below.refl _ _).alloc (Nat.le_refl _) _).alloc (by simp) _).alloc (by simp; omega) _
 have k0 : Blk w0 w.heap.size (l.cells A l.x.l.length p B l.y.l.length q).toArray := by rw [← hw0]; exact ((blk_new rfl).alloc _).alloc _
 have g0 : Blk w0 (w.heap.size + 1) c.cells.toArray := by rw [← hw0]; exact (blk_new (by simp)).alloc _
 have r0 : Blk w0 (w.heap.size + 1 + 1) #[.int .i64 0, .int .i64 0, .int .i64 0, .int .i64 0, .int .i64 0, .slice none 0 0, .int .u64 0, .int .i64 0, .int .i64 0, .slice none 0 0, .int .u64 0, .bool false] := by rw [← hw0]; exact blk_new (by simp)
 have q1 := fun W => clockTrue_any t 0 W
 rw [read_time] at q1
 have q2 := fun W (h : Below w.heap.size w W) => lvalid_any l A l.x.l.length p B l.y.l.length q W (hx.below h) (hy.below h) (ht.below h)
 have q3 := fun W => cvalid_any c hc W
 have q4 := fun W (h : Below w.heap.size w W) => ccheck_any c l.k hc W (ht.below h)
 have q5 := fun W (h : Below w.heap.size w W) => accepts_any l c t A l.x.l.length p B l.y.l.length q W (hx.below h) (hy.below h) (ht.below h)
 rw [h1] at q2
 rw [h2] at q3
 rw [h3] at q1
 rw [h7, h8] at q4
 rw [h9] at q5
 unfold errN at q1
 generalize lvB l = V at *
 generalize cvB c = V2 at *
 generalize timeB t = V3 at *
 generalize chkB c l.k = V4 at *
 generalize chkE c l.k = V5 at *
 generalize accB l c t = V6 at *
 generalize trueA t 0 = ta at *
 generalize trueB t 0 = tb at *
 unfold Lk.cells at k0 hw0 q2 q5  ⊢
 unfold Crd.cells at g0 hw0 q3 q4 q5  ⊢
 obtain ⟨ci, ck, cd, cn, cf, cu, cl, ce, cs⟩ := c
 obtain ⟨ld, lk, lr, lx, ly, lu⟩ := l
 dsimp only at *
 subst h6
 simp only [Bool.false_eq_true, reduceIte, if_true, if_false] at q1
 have ⟨Hbb0, Hk0, Hg0, Hr0, Hhw0, Hq1, Hq2, Hq3⟩ := hid8 bb0 k0 g0 r0 hw0 q1 q2 q3; clear bb0 k0 g0 r0 hw0 q1 q2 q3; have ⟨Hq4, Hq5, Hhx, Hhy, Hht, Hhc⟩ := hid6 q4 q5 hx hy ht hc; clear q4 q5 hx hy ht hc
 go_enter Tryz.func87, Tryz.ntmps87
 go_wp2_with fail
 rw [Hhw0.out]
 go_wp2_with fail
 (with_reducible refine (Hq1.out _).mono ?_)
 rintro e w1 ⟨rfl, b1⟩
 have c1 : Below w0.heap.size w0 w1 := Below.trans belt (b1.mono omh)
 have s1 := c1.size
 have bb1 := Hbb0.out.trans (c1.mono Hbb0.out.size)
 have k1 := Hk0.out.below c1
 have g1 := Hg0.out.below c1
 have r1 := Hr0.out.below c1
 have ⟨Hb1, Hc1, Hbb1, Hk1, Hg1, Hr1⟩ := hid6 b1 c1 bb1 k1 g1 r1; clear b1 c1 bb1 k1 g1 r1
 obtain ⟨y0, y1, y2, y3, y4, y5, y6, y7, y8, y9, y10, y11⟩ := at12_of Hk1.out
 have ly1 := (Hk1.out 0 _ rfl).lt
 go_wp2_with fail
 (with_reducible refine (Hq2.out _ ?_).mono ?_)
 ·exact Hbb1.out.trans ((show Below w1.heap.size w1 _ from belt).mono Hbb1.out.size)
 rintro e w2 ⟨rfl, b2⟩
 have c2 : Below w1.heap.size w1 w2 := Below.trans belt (b2.mono omh)
 have s2 := c2.size
 have bb2 := Hbb1.out.trans (c2.mono Hbb1.out.size)
 have k2 := Hk1.out.below c2
 have g2 := Hg1.out.below c2
 have r2 := Hr1.out.below c2
 have ⟨Hb2, Hc2, Hbb2, Hk2, Hg2, Hr2⟩ := hid6 b2 c2 bb2 k2 g2 r2; clear b2 c2 bb2 k2 g2 r2
 clear y0 y1 y2 y3 y4 y5 y6 y7 y8 y9 y10 y11
 obtain ⟨z0, z1, z2, z3, z4, z5, z6, z7, z8⟩ := at9_of Hg2.out
 go_wp2_with fail
 (with_reducible refine (Hq3.out _).mono ?_)
 rintro e w3 ⟨rfl, b3⟩
 have c3 : Below w2.heap.size w2 w3 := Below.trans belt (b3.mono omh)
 have s3 := c3.size
 have bb3 := Hbb2.out.trans (c3.mono Hbb2.out.size)
 have k3 := Hk2.out.below c3
 have g3 := Hg2.out.below c3
 have r3 := Hr2.out.below c3
 have ⟨Hb3, Hc3, Hbb3, Hk3, Hg3, Hr3⟩ := hid6 b3 c3 bb3 k3 g3 r3; clear b3 c3 bb3 k3 g3 r3
 clear z0 z1 z2 z3 z4 z5 z6 z7 z8
 obtain ⟨y0, y1, y2, y3, y4, y5, y6, y7, y8, y9, y10, y11⟩ := at12_of Hk3.out
 obtain ⟨z0, z1, z2, z3, z4, z5, z6, z7, z8⟩ := at9_of Hg3.out
 go_wp2_with fail
 (with_reducible refine (Hq4.out _ ?_).mono ?_)
 ·exact Hbb3.out.trans ((show Below w3.heap.size w3 _ from belt).mono Hbb3.out.size)
 rintro e w4 ⟨rfl, b4⟩
 have c4 : Below w3.heap.size w3 w4 := Below.trans belt (b4.mono omh)
 have s4 := c4.size
 have bb4 := Hbb3.out.trans (c4.mono Hbb3.out.size)
 have k4 := Hk3.out.below c4
 have g4 := Hg3.out.below c4
 have r4 := Hr3.out.below c4
 have ⟨Hb4, Hc4, Hbb4, Hk4, Hg4, Hr4⟩ := hid6 b4 c4 bb4 k4 g4 r4; clear b4 c4 bb4 k4 g4 r4
 clear y0 y1 y2 y3 y4 y5 y6 y7 y8 y9 y10 y11 z0 z1 z2 z3 z4 z5 z6 z7 z8
 obtain ⟨y0, y1, y2, y3, y4, y5, y6, y7, y8, y9, y10, y11⟩ := at12_of Hk4.out
 obtain ⟨z0, z1, z2, z3, z4, z5, z6, z7, z8⟩ := at9_of Hg4.out
 have ly4 := (Hk4.out 0 _ rfl).lt
 have lz4 := (Hg4.out 0 _ rfl).lt
 have d4 : Blk (w4.alloc (.cells #[.int .i64 ld, .int .i64 lk, .int .i64 lr, .int .i64 lx.s, .int .i64 lx.c, .slice A lx.l.length p, .int .u64 lx.u, .int .i64 ly.s, .int .i64 ly.c, .slice B ly.l.length q, .int .u64 ly.u, .bool true] 85)) w4.heap.size #[.int .i64 ld, .int .i64 lk, .int .i64 lr, .int .i64 lx.s, .int .i64 lx.c, .slice A lx.l.length p, .int .u64 lx.u, .int .i64 ly.s, .int .i64 ly.c, .slice B ly.l.length q, .int .u64 ly.u, .bool true] := blk_new rfl
 go_wp2_with fail
 (with_reducible refine (Hq5.out _ ?_).mono ?_)
 ·exact Hbb4.out.trans ((show Below w4.heap.size w4 _ from belt).mono Hbb4.out.size)
 rintro e w5 ⟨rfl, b5⟩
 have c5 : Below w4.heap.size w4 w5 := Below.trans belt (b5.mono omh)
 have s5 := c5.size
 have bb5 := Hbb4.out.trans (c5.mono Hbb4.out.size)
 have k5 := Hk4.out.below c5
 have g5 := Hg4.out.below c5
 have r5 := Hr4.out.below c5
 have ⟨Hb5, Hc5, Hbb5, Hk5, Hg5, Hr5⟩ := hid6 b5 c5 bb5 k5 g5 r5; clear b5 c5 bb5 k5 g5 r5
 have d5 := d4.below Hb5.out
 clear d4
 have Hd5 := Lib.hid d5; clear d5
 clear y0 y1 y2 y3 y4 y5 y6 y7 y8 y9 y10 y11 z0 z1 z2 z3 z4 z5 z6 z7 z8
 obtain ⟨x0, x1, x2, x3, x4, x5, x6, x7, x8, x9, x10, x11⟩ := at12_of Hr5.out
 have lx5 := (Hr5.out 0 _ rfl).lt
 have sz5 := Hbb5.out.size
 obtain ⟨f0, f1, f2, f3, f4, f5, f6, f7, f8, f9, f10, f11⟩ := free12_of Hr5.out
 have be : Below w.heap.size w (putL (w5) (w.heap.size + 1 + 1) 0 [.int .i64 0, .int .i64 0, .int .i64 0, .int .i64 0, .int .i64 0, .slice none 0 0, .int .u64 0, .int .i64 0, .int .i64 0, .slice none 0 0, .int .u64 0, .bool false]) := putL_below (by omega) _ _ _ Hbb5.out
 simp only [putL, Nat.reduceAdd] at be
 have Hbe := Lib.hid be; clear be
 go_wp2_with fail
 refine bodyPost_ret (v := .tuple #[.agg #[.int .i64 0, .int .i64 0, .int .i64 0, .int .i64 0, .int .i64 0, .slice none 0 0, .int .u64 0, .int .i64 0, .int .i64 0, .slice none 0 0, .int .u64 0, .bool false], .bool false, .int .i64 50]) (by simp [results, Tryz.results87, go_sem, *]) rfl (showErr_zero Hbe.out)
end Go.Proofs.YtclgncaghiinhaaGreatDoor

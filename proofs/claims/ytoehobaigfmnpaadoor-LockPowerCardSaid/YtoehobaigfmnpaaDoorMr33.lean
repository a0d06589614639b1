/- lock.Show: its errors. -/
import Derived.Test.YtoehobaigfmnpaaDoorMr28
import Derived.Test.YtoehobaigfmnpaaDoorMr30
import Derived.Test.YtoehobaigfmnpaaDoorMr32
namespace Go.Proofs.YtoehobaigfmnpaaDoor
set_option linter.unusedSimpArgs false
set_option linter.unusedVariables false
set_option maxRecDepth 100000
open Go.RowKit
/-- a lock, whether the door opened, and an error number; the lists' places known -/
def ShowPost (A0 : Option Addr) (l0 : List Int) (B0 : Option Addr) (m0 : List Int) (r : Lk) (o : Bool) (E : Int) (w : World) (e : Ending) (w' : World) : Prop :=
  ∃ A p B q, e = .returned (.tuple #[.agg (r.cells A r.x.l.length p B r.y.l.length q).toArray, .bool o, .int .i64 E]) ∧ Prov w w' A0 l0 A r.x.l ∧ Prov w w' B0 m0 B r.y.l ∧ Below w.heap.size w w'
theorem showErr_zero {A0 : Option Addr} {l0 : List Int} {B0 : Option Addr} {m0 : List Int} {E : Int} {w w' : World} (hb : Below w.heap.size w w') :
    ShowPost A0 l0 B0 m0 Lk.zero false E w (.returned (.tuple #[.agg #[.int .i64 0, .int .i64 0, .int .i64 0, .int .i64 0, .int .i64 0, .slice none 0 0, .int .u64 0, .int .i64 0, .int .i64 0, .slice none 0 0, .int .u64 0, .bool false], .bool false, .int .i64 E])) w' :=
  ⟨none, 0, none, 0, rfl, prov_nil _ _ _ _ _, prov_nil _ _ _ _ _, hb⟩
theorem read_time (t : Int) : readB t 0 = timeB t := by
  have : errB 0 = true := by decide
  simp [readB, this]
set_option maxHeartbeats 8000000 in
theorem show_e1 (l : Lk) (c : Crd) (t a : Int) (A : Option Addr) (n p : Nat) (B : Option Addr) (m q : Nat) (w : World) (hx : SlotIs w A n l.x) (hy : SlotIs w B m l.y) (ht : Tab w) (hc : CFit c) (h1 : lvB l = false) :
    Calls Tryd.prog 26 #[.agg (l.cells A n p B m q).toArray, .agg c.cells.toArray, .int .i64 t, .int .i64 a] w (ShowPost A l.x.l B l.y.l Lk.zero false 1 w) := by
  have hn := hx.len
  have hm := hy.len
  subst hn hm
  obtain ⟨w0, hw0⟩ : ∃ W, ((w.alloc (.cells (l.cells A l.x.l.length p B l.y.l.length q).toArray 55)).alloc (.cells c.cells.toArray 31)).alloc (.cells #[.int .i64 0, .int .i64 0, .int .i64 0, .int .i64 0, .int .i64 0, .slice none 0 0, .int .u64 0, .int .i64 0, .int .i64 0, .slice none 0 0, .int .u64 0, .bool false] 55) = W := ⟨_, rfl⟩
  have bb0 : Below w.heap.size w w0 := by rw [← hw0]; exact (((Below.refl _ _).alloc (Nat.le_refl _) _).alloc (by simp) _).alloc (by simp; omega) _
  have k0 : Blk w0 w.heap.size (l.cells A l.x.l.length p B l.y.l.length q).toArray := by rw [← hw0]; exact ((blk_new rfl).alloc _).alloc _
  have g0 : Blk w0 (w.heap.size + 1) c.cells.toArray := by rw [← hw0]; exact (blk_new (by simp)).alloc _
  have r0 : Blk w0 (w.heap.size + 1 + 1) #[.int .i64 0, .int .i64 0, .int .i64 0, .int .i64 0, .int .i64 0, .slice none 0 0, .int .u64 0, .int .i64 0, .int .i64 0, .slice none 0 0, .int .u64 0, .bool false] := by rw [← hw0]; exact blk_new (by simp)
  have q1 := fun W => clockTrue_any t 0 W
  rw [read_time] at q1
  have q2 := fun W (h : Below w.heap.size w W) => lvalid_any l A l.x.l.length p B l.y.l.length q W (hx.below h) (hy.below h) (ht.below h)
  have q3 := fun W => cvalid_any c hc W
  have q4 := fun W (h : Below w.heap.size w W) => ccheck_any c l.k hc W (ht.below h)
  have q5 := fun W (h : Below w.heap.size w W) => accepts_any l c t A l.x.l.length p B l.y.l.length q W (hx.below h) (hy.below h) (ht.below h)
  rw [h1] at q2
  unfold errN at q1
  generalize lvB l = V at *
  generalize cvB c = V2 at *
  generalize timeB t = V3 at *
  generalize chkB c l.k = V4 at *
  generalize chkE c l.k = V5 at *
  generalize accB l c t = V6 at *
  generalize trueA t 0 = ta at *
  generalize trueB t 0 = tb at *
  unfold Lk.cells at k0 hw0 q2 q5  ⊢
  unfold Crd.cells at g0 hw0 q3 q4 q5  ⊢
  obtain ⟨ci, ck, cd, cn, cf, cu, cl, ce, cs⟩ := c
  obtain ⟨ld, lk, lr, lx, ly, lu⟩ := l
  dsimp only at *
  cases V3
  all_goals
    simp only [Bool.false_eq_true, reduceIte, if_true, if_false] at q1
    have H_bb0 := Lib.hid bb0; clear bb0; have H_k0 := Lib.hid k0; clear k0; have H_g0 := Lib.hid g0; clear g0; have H_r0 := Lib.hid r0; clear r0; have H_hw0 := Lib.hid hw0; clear hw0; have H_q1 := Lib.hid q1; clear q1; have H_q2 := Lib.hid q2; clear q2; have H_q3 := Lib.hid q3; clear q3; have H_q4 := Lib.hid q4; clear q4; have H_q5 := Lib.hid q5; clear q5; have H_hx := Lib.hid hx; clear hx; have H_hy := Lib.hid hy; clear hy; have H_ht := Lib.hid ht; clear ht; have H_hc := Lib.hid hc; clear hc
    go_enter Tryd.func26, Tryd.ntmps26
    go_wp2_with fail
    rw [H_hw0.out]
    go_wp2_with fail
    (with_reducible refine (H_q1.out _).mono ?_)
    rintro e w1 ⟨rfl, b1⟩
    have c1 : Below w0.heap.size w0 w1 := Below.trans belt (b1.mono omh)
    have s1 := c1.size
    have bb1 := H_bb0.out.trans (c1.mono H_bb0.out.size)
    have k1 := H_k0.out.below c1
    have g1 := H_g0.out.below c1
    have r1 := H_r0.out.below c1
    have H_b1 := Lib.hid b1; clear b1; have H_c1 := Lib.hid c1; clear c1; have H_bb1 := Lib.hid bb1; clear bb1; have H_k1 := Lib.hid k1; clear k1; have H_g1 := Lib.hid g1; clear g1; have H_r1 := Lib.hid r1; clear r1
    have y0 := (H_k1.out 0 _ rfl).at
    have y1 := (H_k1.out 1 _ rfl).at
    have y2 := (H_k1.out 2 _ rfl).at
    have y3 := (H_k1.out 3 _ rfl).at
    have y4 := (H_k1.out 4 _ rfl).at
    have y5 := (H_k1.out 5 _ rfl).at
    have y6 := (H_k1.out 6 _ rfl).at
    have y7 := (H_k1.out 7 _ rfl).at
    have y8 := (H_k1.out 8 _ rfl).at
    have y9 := (H_k1.out 9 _ rfl).at
    have y10 := (H_k1.out 10 _ rfl).at
    have y11 := (H_k1.out 11 _ rfl).at
    have ly1 := (H_k1.out 0 _ rfl).lt
    go_wp2_with fail
    (with_reducible refine (H_q2.out _ ?_).mono ?_)
    · exact H_bb1.out.trans ((show Below w1.heap.size w1 _ from belt).mono H_bb1.out.size)
    rintro e w2 ⟨rfl, b2⟩
    have c2 : Below w1.heap.size w1 w2 := Below.trans belt (b2.mono omh)
    have s2 := c2.size
    have bb2 := H_bb1.out.trans (c2.mono H_bb1.out.size)
    have k2 := H_k1.out.below c2
    have g2 := H_g1.out.below c2
    have r2 := H_r1.out.below c2
    have H_b2 := Lib.hid b2; clear b2; have H_c2 := Lib.hid c2; clear c2; have H_bb2 := Lib.hid bb2; clear bb2; have H_k2 := Lib.hid k2; clear k2; have H_g2 := Lib.hid g2; clear g2; have H_r2 := Lib.hid r2; clear r2
    clear y0 y1 y2 y3 y4 y5 y6 y7 y8 y9 y10 y11
    have x0 := (H_r2.out 0 _ rfl).at
    have x1 := (H_r2.out 1 _ rfl).at
    have x2 := (H_r2.out 2 _ rfl).at
    have x3 := (H_r2.out 3 _ rfl).at
    have x4 := (H_r2.out 4 _ rfl).at
    have x5 := (H_r2.out 5 _ rfl).at
    have x6 := (H_r2.out 6 _ rfl).at
    have x7 := (H_r2.out 7 _ rfl).at
    have x8 := (H_r2.out 8 _ rfl).at
    have x9 := (H_r2.out 9 _ rfl).at
    have x10 := (H_r2.out 10 _ rfl).at
    have x11 := (H_r2.out 11 _ rfl).at
    have lx2 := (H_r2.out 0 _ rfl).lt
    have sz2 := H_bb2.out.size
    have f0 := (H_r2.out 0 _ rfl).free
    have f1 := (H_r2.out 1 _ rfl).free
    have f2 := (H_r2.out 2 _ rfl).free
    have f3 := (H_r2.out 3 _ rfl).free
    have f4 := (H_r2.out 4 _ rfl).free
    have f5 := (H_r2.out 5 _ rfl).free
    have f6 := (H_r2.out 6 _ rfl).free
    have f7 := (H_r2.out 7 _ rfl).free
    have f8 := (H_r2.out 8 _ rfl).free
    have f9 := (H_r2.out 9 _ rfl).free
    have f10 := (H_r2.out 10 _ rfl).free
    have f11 := (H_r2.out 11 _ rfl).free
    have be : Below w.heap.size w (putL (w2) (w.heap.size + 1 + 1) 0 [.int .i64 0, .int .i64 0, .int .i64 0, .int .i64 0, .int .i64 0, .slice none 0 0, .int .u64 0, .int .i64 0, .int .i64 0, .slice none 0 0, .int .u64 0, .bool false]) := putL_below (by omega) _ _ _ H_bb2.out
    simp only [putL, Nat.reduceAdd] at be
    have H_be := Lib.hid be; clear be
    go_wp2_with fail
    refine bodyPost_ret (v := .tuple #[.agg #[.int .i64 0, .int .i64 0, .int .i64 0, .int .i64 0, .int .i64 0, .slice none 0 0, .int .u64 0, .int .i64 0, .int .i64 0, .slice none 0 0, .int .u64 0, .bool false], .bool false, .int .i64 1]) (by simp [results, Tryd.results26, go_sem, *]) rfl (showErr_zero H_be.out)
set_option maxHeartbeats 8000000 in
theorem show_e2 (l : Lk) (c : Crd) (t a : Int) (A : Option Addr) (n p : Nat) (B : Option Addr) (m q : Nat) (w : World) (hx : SlotIs w A n l.x) (hy : SlotIs w B m l.y) (ht : Tab w) (hc : CFit c) (h1 : lvB l = true) (h2 : cvB c = false) :
    Calls Tryd.prog 26 #[.agg (l.cells A n p B m q).toArray, .agg c.cells.toArray, .int .i64 t, .int .i64 a] w (ShowPost A l.x.l B l.y.l Lk.zero false 1 w) := by
  have hn := hx.len
  have hm := hy.len
  subst hn hm
  obtain ⟨w0, hw0⟩ : ∃ W, ((w.alloc (.cells (l.cells A l.x.l.length p B l.y.l.length q).toArray 55)).alloc (.cells c.cells.toArray 31)).alloc (.cells #[.int .i64 0, .int .i64 0, .int .i64 0, .int .i64 0, .int .i64 0, .slice none 0 0, .int .u64 0, .int .i64 0, .int .i64 0, .slice none 0 0, .int .u64 0, .bool false] 55) = W := ⟨_, rfl⟩
  have bb0 : Below w.heap.size w w0 := by rw [← hw0]; exact (((Below.refl _ _).alloc (Nat.le_refl _) _).alloc (by simp) _).alloc (by simp; omega) _
  have k0 : Blk w0 w.heap.size (l.cells A l.x.l.length p B l.y.l.length q).toArray := by rw [← hw0]; exact ((blk_new rfl).alloc _).alloc _
  have g0 : Blk w0 (w.heap.size + 1) c.cells.toArray := by rw [← hw0]; exact (blk_new (by simp)).alloc _
  have r0 : Blk w0 (w.heap.size + 1 + 1) #[.int .i64 0, .int .i64 0, .int .i64 0, .int .i64 0, .int .i64 0, .slice none 0 0, .int .u64 0, .int .i64 0, .int .i64 0, .slice none 0 0, .int .u64 0, .bool false] := by rw [← hw0]; exact blk_new (by simp)
  have q1 := fun W => clockTrue_any t 0 W
  rw [read_time] at q1
  have q2 := fun W (h : Below w.heap.size w W) => lvalid_any l A l.x.l.length p B l.y.l.length q W (hx.below h) (hy.below h) (ht.below h)
  have q3 := fun W => cvalid_any c hc W
  have q4 := fun W (h : Below w.heap.size w W) => ccheck_any c l.k hc W (ht.below h)
  have q5 := fun W (h : Below w.heap.size w W) => accepts_any l c t A l.x.l.length p B l.y.l.length q W (hx.below h) (hy.below h) (ht.below h)
  rw [h1] at q2
  rw [h2] at q3
  unfold errN at q1
  generalize lvB l = V at *
  generalize cvB c = V2 at *
  generalize timeB t = V3 at *
  generalize chkB c l.k = V4 at *
  generalize chkE c l.k = V5 at *
  generalize accB l c t = V6 at *
  generalize trueA t 0 = ta at *
  generalize trueB t 0 = tb at *
  unfold Lk.cells at k0 hw0 q2 q5  ⊢
  unfold Crd.cells at g0 hw0 q3 q4 q5  ⊢
  obtain ⟨ci, ck, cd, cn, cf, cu, cl, ce, cs⟩ := c
  obtain ⟨ld, lk, lr, lx, ly, lu⟩ := l
  dsimp only at *
  cases V3
  all_goals
    simp only [Bool.false_eq_true, reduceIte, if_true, if_false] at q1
    have H_bb0 := Lib.hid bb0; clear bb0; have H_k0 := Lib.hid k0; clear k0; have H_g0 := Lib.hid g0; clear g0; have H_r0 := Lib.hid r0; clear r0; have H_hw0 := Lib.hid hw0; clear hw0; have H_q1 := Lib.hid q1; clear q1; have H_q2 := Lib.hid q2; clear q2; have H_q3 := Lib.hid q3; clear q3; have H_q4 := Lib.hid q4; clear q4; have H_q5 := Lib.hid q5; clear q5; have H_hx := Lib.hid hx; clear hx; have H_hy := Lib.hid hy; clear hy; have H_ht := Lib.hid ht; clear ht; have H_hc := Lib.hid hc; clear hc
    go_enter Tryd.func26, Tryd.ntmps26
    go_wp2_with fail
    rw [H_hw0.out]
    go_wp2_with fail
    (with_reducible refine (H_q1.out _).mono ?_)
    rintro e w1 ⟨rfl, b1⟩
    have c1 : Below w0.heap.size w0 w1 := Below.trans belt (b1.mono omh)
    have s1 := c1.size
    have bb1 := H_bb0.out.trans (c1.mono H_bb0.out.size)
    have k1 := H_k0.out.below c1
    have g1 := H_g0.out.below c1
    have r1 := H_r0.out.below c1
    have H_b1 := Lib.hid b1; clear b1; have H_c1 := Lib.hid c1; clear c1; have H_bb1 := Lib.hid bb1; clear bb1; have H_k1 := Lib.hid k1; clear k1; have H_g1 := Lib.hid g1; clear g1; have H_r1 := Lib.hid r1; clear r1
    have y0 := (H_k1.out 0 _ rfl).at
    have y1 := (H_k1.out 1 _ rfl).at
    have y2 := (H_k1.out 2 _ rfl).at
    have y3 := (H_k1.out 3 _ rfl).at
    have y4 := (H_k1.out 4 _ rfl).at
    have y5 := (H_k1.out 5 _ rfl).at
    have y6 := (H_k1.out 6 _ rfl).at
    have y7 := (H_k1.out 7 _ rfl).at
    have y8 := (H_k1.out 8 _ rfl).at
    have y9 := (H_k1.out 9 _ rfl).at
    have y10 := (H_k1.out 10 _ rfl).at
    have y11 := (H_k1.out 11 _ rfl).at
    have ly1 := (H_k1.out 0 _ rfl).lt
    go_wp2_with fail
    (with_reducible refine (H_q2.out _ ?_).mono ?_)
    · exact H_bb1.out.trans ((show Below w1.heap.size w1 _ from belt).mono H_bb1.out.size)
    rintro e w2 ⟨rfl, b2⟩
    have c2 : Below w1.heap.size w1 w2 := Below.trans belt (b2.mono omh)
    have s2 := c2.size
    have bb2 := H_bb1.out.trans (c2.mono H_bb1.out.size)
    have k2 := H_k1.out.below c2
    have g2 := H_g1.out.below c2
    have r2 := H_r1.out.below c2
    have H_b2 := Lib.hid b2; clear b2; have H_c2 := Lib.hid c2; clear c2; have H_bb2 := Lib.hid bb2; clear bb2; have H_k2 := Lib.hid k2; clear k2; have H_g2 := Lib.hid g2; clear g2; have H_r2 := Lib.hid r2; clear r2
    clear y0 y1 y2 y3 y4 y5 y6 y7 y8 y9 y10 y11
    have z0 := (H_g2.out 0 _ rfl).at
    have z1 := (H_g2.out 1 _ rfl).at
    have z2 := (H_g2.out 2 _ rfl).at
    have z3 := (H_g2.out 3 _ rfl).at
    have z4 := (H_g2.out 4 _ rfl).at
    have z5 := (H_g2.out 5 _ rfl).at
    have z6 := (H_g2.out 6 _ rfl).at
    have z7 := (H_g2.out 7 _ rfl).at
    have z8 := (H_g2.out 8 _ rfl).at
    go_wp2_with fail
    (with_reducible refine (H_q3.out _).mono ?_)
    rintro e w3 ⟨rfl, b3⟩
    have c3 : Below w2.heap.size w2 w3 := Below.trans belt (b3.mono omh)
    have s3 := c3.size
    have bb3 := H_bb2.out.trans (c3.mono H_bb2.out.size)
    have k3 := H_k2.out.below c3
    have g3 := H_g2.out.below c3
    have r3 := H_r2.out.below c3
    have H_b3 := Lib.hid b3; clear b3; have H_c3 := Lib.hid c3; clear c3; have H_bb3 := Lib.hid bb3; clear bb3; have H_k3 := Lib.hid k3; clear k3; have H_g3 := Lib.hid g3; clear g3; have H_r3 := Lib.hid r3; clear r3
    clear z0 z1 z2 z3 z4 z5 z6 z7 z8
    have x0 := (H_r3.out 0 _ rfl).at
    have x1 := (H_r3.out 1 _ rfl).at
    have x2 := (H_r3.out 2 _ rfl).at
    have x3 := (H_r3.out 3 _ rfl).at
    have x4 := (H_r3.out 4 _ rfl).at
    have x5 := (H_r3.out 5 _ rfl).at
    have x6 := (H_r3.out 6 _ rfl).at
    have x7 := (H_r3.out 7 _ rfl).at
    have x8 := (H_r3.out 8 _ rfl).at
    have x9 := (H_r3.out 9 _ rfl).at
    have x10 := (H_r3.out 10 _ rfl).at
    have x11 := (H_r3.out 11 _ rfl).at
    have lx3 := (H_r3.out 0 _ rfl).lt
    have sz3 := H_bb3.out.size
    have f0 := (H_r3.out 0 _ rfl).free
    have f1 := (H_r3.out 1 _ rfl).free
    have f2 := (H_r3.out 2 _ rfl).free
    have f3 := (H_r3.out 3 _ rfl).free
    have f4 := (H_r3.out 4 _ rfl).free
    have f5 := (H_r3.out 5 _ rfl).free
    have f6 := (H_r3.out 6 _ rfl).free
    have f7 := (H_r3.out 7 _ rfl).free
    have f8 := (H_r3.out 8 _ rfl).free
    have f9 := (H_r3.out 9 _ rfl).free
    have f10 := (H_r3.out 10 _ rfl).free
    have f11 := (H_r3.out 11 _ rfl).free
    have be : Below w.heap.size w (putL (w3) (w.heap.size + 1 + 1) 0 [.int .i64 0, .int .i64 0, .int .i64 0, .int .i64 0, .int .i64 0, .slice none 0 0, .int .u64 0, .int .i64 0, .int .i64 0, .slice none 0 0, .int .u64 0, .bool false]) := putL_below (by omega) _ _ _ H_bb3.out
    simp only [putL, Nat.reduceAdd] at be
    have H_be := Lib.hid be; clear be
    go_wp2_with fail
    refine bodyPost_ret (v := .tuple #[.agg #[.int .i64 0, .int .i64 0, .int .i64 0, .int .i64 0, .int .i64 0, .slice none 0 0, .int .u64 0, .int .i64 0, .int .i64 0, .slice none 0 0, .int .u64 0, .bool false], .bool false, .int .i64 1]) (by simp [results, Tryd.results26, go_sem, *]) rfl (showErr_zero H_be.out)
set_option maxHeartbeats 8000000 in
theorem show_e3 (l : Lk) (c : Crd) (t a : Int) (A : Option Addr) (n p : Nat) (B : Option Addr) (m q : Nat) (w : World) (hx : SlotIs w A n l.x) (hy : SlotIs w B m l.y) (ht : Tab w) (hc : CFit c) (h1 : lvB l = true) (h2 : cvB c = true) (h3 : timeB t = false) :
    Calls Tryd.prog 26 #[.agg (l.cells A n p B m q).toArray, .agg c.cells.toArray, .int .i64 t, .int .i64 a] w (ShowPost A l.x.l B l.y.l Lk.zero false 1 w) := by
  have hn := hx.len
  have hm := hy.len
  subst hn hm
  obtain ⟨w0, hw0⟩ : ∃ W, ((w.alloc (.cells (l.cells A l.x.l.length p B l.y.l.length q).toArray 55)).alloc (.cells c.cells.toArray 31)).alloc (.cells #[.int .i64 0, .int .i64 0, .int .i64 0, .int .i64 0, .int .i64 0, .slice none 0 0, .int .u64 0, .int .i64 0, .int .i64 0, .slice none 0 0, .int .u64 0, .bool false] 55) = W := ⟨_, rfl⟩
  have bb0 : Below w.heap.size w w0 := by rw [← hw0]; exact (((Below.refl _ _).alloc (Nat.le_refl _) _).alloc (by simp) _).alloc (by simp; omega) _
  have k0 : Blk w0 w.heap.size (l.cells A l.x.l.length p B l.y.l.length q).toArray := by rw [← hw0]; exact ((blk_new rfl).alloc _).alloc _
  have g0 : Blk w0 (w.heap.size + 1) c.cells.toArray := by rw [← hw0]; exact (blk_new (by simp)).alloc _
  have r0 : Blk w0 (w.heap.size + 1 + 1) #[.int .i64 0, .int .i64 0, .int .i64 0, .int .i64 0, .int .i64 0, .slice none 0 0, .int .u64 0, .int .i64 0, .int .i64 0, .slice none 0 0, .int .u64 0, .bool false] := by rw [← hw0]; exact blk_new (by simp)
  have q1 := fun W => clockTrue_any t 0 W
  rw [read_time] at q1
  have q2 := fun W (h : Below w.heap.size w W) => lvalid_any l A l.x.l.length p B l.y.l.length q W (hx.below h) (hy.below h) (ht.below h)
  have q3 := fun W => cvalid_any c hc W
  have q4 := fun W (h : Below w.heap.size w W) => ccheck_any c l.k hc W (ht.below h)
  have q5 := fun W (h : Below w.heap.size w W) => accepts_any l c t A l.x.l.length p B l.y.l.length q W (hx.below h) (hy.below h) (ht.below h)
  rw [h1] at q2
  rw [h2] at q3
  rw [h3] at q1
  unfold errN at q1
  generalize lvB l = V at *
  generalize cvB c = V2 at *
  generalize timeB t = V3 at *
  generalize chkB c l.k = V4 at *
  generalize chkE c l.k = V5 at *
  generalize accB l c t = V6 at *
  generalize trueA t 0 = ta at *
  generalize trueB t 0 = tb at *
  unfold Lk.cells at k0 hw0 q2 q5  ⊢
  unfold Crd.cells at g0 hw0 q3 q4 q5  ⊢
  obtain ⟨ci, ck, cd, cn, cf, cu, cl, ce, cs⟩ := c
  obtain ⟨ld, lk, lr, lx, ly, lu⟩ := l
  dsimp only at *
  simp only [Bool.false_eq_true, reduceIte, if_true, if_false] at q1
  have H_bb0 := Lib.hid bb0; clear bb0; have H_k0 := Lib.hid k0; clear k0; have H_g0 := Lib.hid g0; clear g0; have H_r0 := Lib.hid r0; clear r0; have H_hw0 := Lib.hid hw0; clear hw0; have H_q1 := Lib.hid q1; clear q1; have H_q2 := Lib.hid q2; clear q2; have H_q3 := Lib.hid q3; clear q3; have H_q4 := Lib.hid q4; clear q4; have H_q5 := Lib.hid q5; clear q5; have H_hx := Lib.hid hx; clear hx; have H_hy := Lib.hid hy; clear hy; have H_ht := Lib.hid ht; clear ht; have H_hc := Lib.hid hc; clear hc
  go_enter Tryd.func26, Tryd.ntmps26
  go_wp2_with fail
  rw [H_hw0.out]
  go_wp2_with fail
  (with_reducible refine (H_q1.out _).mono ?_)
  rintro e w1 ⟨rfl, b1⟩
  have c1 : Below w0.heap.size w0 w1 := Below.trans belt (b1.mono omh)
  have s1 := c1.size
  have bb1 := H_bb0.out.trans (c1.mono H_bb0.out.size)
  have k1 := H_k0.out.below c1
  have g1 := H_g0.out.below c1
  have r1 := H_r0.out.below c1
  have H_b1 := Lib.hid b1; clear b1; have H_c1 := Lib.hid c1; clear c1; have H_bb1 := Lib.hid bb1; clear bb1; have H_k1 := Lib.hid k1; clear k1; have H_g1 := Lib.hid g1; clear g1; have H_r1 := Lib.hid r1; clear r1
  have y0 := (H_k1.out 0 _ rfl).at
  have y1 := (H_k1.out 1 _ rfl).at
  have y2 := (H_k1.out 2 _ rfl).at
  have y3 := (H_k1.out 3 _ rfl).at
  have y4 := (H_k1.out 4 _ rfl).at
  have y5 := (H_k1.out 5 _ rfl).at
  have y6 := (H_k1.out 6 _ rfl).at
  have y7 := (H_k1.out 7 _ rfl).at
  have y8 := (H_k1.out 8 _ rfl).at
  have y9 := (H_k1.out 9 _ rfl).at
  have y10 := (H_k1.out 10 _ rfl).at
  have y11 := (H_k1.out 11 _ rfl).at
  have ly1 := (H_k1.out 0 _ rfl).lt
  go_wp2_with fail
  (with_reducible refine (H_q2.out _ ?_).mono ?_)
  · exact H_bb1.out.trans ((show Below w1.heap.size w1 _ from belt).mono H_bb1.out.size)
  rintro e w2 ⟨rfl, b2⟩
  have c2 : Below w1.heap.size w1 w2 := Below.trans belt (b2.mono omh)
  have s2 := c2.size
  have bb2 := H_bb1.out.trans (c2.mono H_bb1.out.size)
  have k2 := H_k1.out.below c2
  have g2 := H_g1.out.below c2
  have r2 := H_r1.out.below c2
  have H_b2 := Lib.hid b2; clear b2; have H_c2 := Lib.hid c2; clear c2; have H_bb2 := Lib.hid bb2; clear bb2; have H_k2 := Lib.hid k2; clear k2; have H_g2 := Lib.hid g2; clear g2; have H_r2 := Lib.hid r2; clear r2
  clear y0 y1 y2 y3 y4 y5 y6 y7 y8 y9 y10 y11
  have z0 := (H_g2.out 0 _ rfl).at
  have z1 := (H_g2.out 1 _ rfl).at
  have z2 := (H_g2.out 2 _ rfl).at
  have z3 := (H_g2.out 3 _ rfl).at
  have z4 := (H_g2.out 4 _ rfl).at
  have z5 := (H_g2.out 5 _ rfl).at
  have z6 := (H_g2.out 6 _ rfl).at
  have z7 := (H_g2.out 7 _ rfl).at
  have z8 := (H_g2.out 8 _ rfl).at
  go_wp2_with fail
  (with_reducible refine (H_q3.out _).mono ?_)
  rintro e w3 ⟨rfl, b3⟩
  have c3 : Below w2.heap.size w2 w3 := Below.trans belt (b3.mono omh)
  have s3 := c3.size
  have bb3 := H_bb2.out.trans (c3.mono H_bb2.out.size)
  have k3 := H_k2.out.below c3
  have g3 := H_g2.out.below c3
  have r3 := H_r2.out.below c3
  have H_b3 := Lib.hid b3; clear b3; have H_c3 := Lib.hid c3; clear c3; have H_bb3 := Lib.hid bb3; clear bb3; have H_k3 := Lib.hid k3; clear k3; have H_g3 := Lib.hid g3; clear g3; have H_r3 := Lib.hid r3; clear r3
  clear z0 z1 z2 z3 z4 z5 z6 z7 z8
  have x0 := (H_r3.out 0 _ rfl).at
  have x1 := (H_r3.out 1 _ rfl).at
  have x2 := (H_r3.out 2 _ rfl).at
  have x3 := (H_r3.out 3 _ rfl).at
  have x4 := (H_r3.out 4 _ rfl).at
  have x5 := (H_r3.out 5 _ rfl).at
  have x6 := (H_r3.out 6 _ rfl).at
  have x7 := (H_r3.out 7 _ rfl).at
  have x8 := (H_r3.out 8 _ rfl).at
  have x9 := (H_r3.out 9 _ rfl).at
  have x10 := (H_r3.out 10 _ rfl).at
  have x11 := (H_r3.out 11 _ rfl).at
  have lx3 := (H_r3.out 0 _ rfl).lt
  have sz3 := H_bb3.out.size
  have f0 := (H_r3.out 0 _ rfl).free
  have f1 := (H_r3.out 1 _ rfl).free
  have f2 := (H_r3.out 2 _ rfl).free
  have f3 := (H_r3.out 3 _ rfl).free
  have f4 := (H_r3.out 4 _ rfl).free
  have f5 := (H_r3.out 5 _ rfl).free
  have f6 := (H_r3.out 6 _ rfl).free
  have f7 := (H_r3.out 7 _ rfl).free
  have f8 := (H_r3.out 8 _ rfl).free
  have f9 := (H_r3.out 9 _ rfl).free
  have f10 := (H_r3.out 10 _ rfl).free
  have f11 := (H_r3.out 11 _ rfl).free
  have be : Below w.heap.size w (putL (w3) (w.heap.size + 1 + 1) 0 [.int .i64 0, .int .i64 0, .int .i64 0, .int .i64 0, .int .i64 0, .slice none 0 0, .int .u64 0, .int .i64 0, .int .i64 0, .slice none 0 0, .int .u64 0, .bool false]) := putL_below (by omega) _ _ _ H_bb3.out
  simp only [putL, Nat.reduceAdd] at be
  have H_be := Lib.hid be; clear be
  go_wp2_with fail
  refine bodyPost_ret (v := .tuple #[.agg #[.int .i64 0, .int .i64 0, .int .i64 0, .int .i64 0, .int .i64 0, .slice none 0 0, .int .u64 0, .int .i64 0, .int .i64 0, .slice none 0 0, .int .u64 0, .bool false], .bool false, .int .i64 1]) (by simp [results, Tryd.results26, go_sem, *]) rfl (showErr_zero H_be.out)
set_option maxHeartbeats 8000000 in
theorem show_e4 (l : Lk) (c : Crd) (t a : Int) (A : Option Addr) (n p : Nat) (B : Option Addr) (m q : Nat) (w : World) (hx : SlotIs w A n l.x) (hy : SlotIs w B m l.y) (ht : Tab w) (hc : CFit c) (h1 : lvB l = true) (h2 : cvB c = true) (h3 : timeB t = true) (h4 : a < 0) :
    Calls Tryd.prog 26 #[.agg (l.cells A n p B m q).toArray, .agg c.cells.toArray, .int .i64 t, .int .i64 a] w (ShowPost A l.x.l B l.y.l Lk.zero false 1 w) := by
  have hn := hx.len
  have hm := hy.len
  subst hn hm
  obtain ⟨w0, hw0⟩ : ∃ W, ((w.alloc (.cells (l.cells A l.x.l.length p B l.y.l.length q).toArray 55)).alloc (.cells c.cells.toArray 31)).alloc (.cells #[.int .i64 0, .int .i64 0, .int .i64 0, .int .i64 0, .int .i64 0, .slice none 0 0, .int .u64 0, .int .i64 0, .int .i64 0, .slice none 0 0, .int .u64 0, .bool false] 55) = W := ⟨_, rfl⟩
  have bb0 : Below w.heap.size w w0 := by rw [← hw0]; exact (((Below.refl _ _).alloc (Nat.le_refl _) _).alloc (by simp) _).alloc (by simp; omega) _
  have k0 : Blk w0 w.heap.size (l.cells A l.x.l.length p B l.y.l.length q).toArray := by rw [← hw0]; exact ((blk_new rfl).alloc _).alloc _
  have g0 : Blk w0 (w.heap.size + 1) c.cells.toArray := by rw [← hw0]; exact (blk_new (by simp)).alloc _
  have r0 : Blk w0 (w.heap.size + 1 + 1) #[.int .i64 0, .int .i64 0, .int .i64 0, .int .i64 0, .int .i64 0, .slice none 0 0, .int .u64 0, .int .i64 0, .int .i64 0, .slice none 0 0, .int .u64 0, .bool false] := by rw [← hw0]; exact blk_new (by simp)
  have q1 := fun W => clockTrue_any t 0 W
  rw [read_time] at q1
  have q2 := fun W (h : Below w.heap.size w W) => lvalid_any l A l.x.l.length p B l.y.l.length q W (hx.below h) (hy.below h) (ht.below h)
  have q3 := fun W => cvalid_any c hc W
  have q4 := fun W (h : Below w.heap.size w W) => ccheck_any c l.k hc W (ht.below h)
  have q5 := fun W (h : Below w.heap.size w W) => accepts_any l c t A l.x.l.length p B l.y.l.length q W (hx.below h) (hy.below h) (ht.below h)
  rw [h1] at q2
  rw [h2] at q3
  rw [h3] at q1
  unfold errN at q1
  generalize lvB l = V at *
  generalize cvB c = V2 at *
  generalize timeB t = V3 at *
  generalize chkB c l.k = V4 at *
  generalize chkE c l.k = V5 at *
  generalize accB l c t = V6 at *
  generalize trueA t 0 = ta at *
  generalize trueB t 0 = tb at *
  unfold Lk.cells at k0 hw0 q2 q5  ⊢
  unfold Crd.cells at g0 hw0 q3 q4 q5  ⊢
  obtain ⟨ci, ck, cd, cn, cf, cu, cl, ce, cs⟩ := c
  obtain ⟨ld, lk, lr, lx, ly, lu⟩ := l
  dsimp only at *
  simp only [Bool.false_eq_true, reduceIte, if_true, if_false] at q1
  have H_bb0 := Lib.hid bb0; clear bb0; have H_k0 := Lib.hid k0; clear k0; have H_g0 := Lib.hid g0; clear g0; have H_r0 := Lib.hid r0; clear r0; have H_hw0 := Lib.hid hw0; clear hw0; have H_q1 := Lib.hid q1; clear q1; have H_q2 := Lib.hid q2; clear q2; have H_q3 := Lib.hid q3; clear q3; have H_q4 := Lib.hid q4; clear q4; have H_q5 := Lib.hid q5; clear q5; have H_hx := Lib.hid hx; clear hx; have H_hy := Lib.hid hy; clear hy; have H_ht := Lib.hid ht; clear ht; have H_hc := Lib.hid hc; clear hc
  go_enter Tryd.func26, Tryd.ntmps26
  go_wp2_with fail
  rw [H_hw0.out]
  go_wp2_with fail
  (with_reducible refine (H_q1.out _).mono ?_)
  rintro e w1 ⟨rfl, b1⟩
  have c1 : Below w0.heap.size w0 w1 := Below.trans belt (b1.mono omh)
  have s1 := c1.size
  have bb1 := H_bb0.out.trans (c1.mono H_bb0.out.size)
  have k1 := H_k0.out.below c1
  have g1 := H_g0.out.below c1
  have r1 := H_r0.out.below c1
  have H_b1 := Lib.hid b1; clear b1; have H_c1 := Lib.hid c1; clear c1; have H_bb1 := Lib.hid bb1; clear bb1; have H_k1 := Lib.hid k1; clear k1; have H_g1 := Lib.hid g1; clear g1; have H_r1 := Lib.hid r1; clear r1
  have y0 := (H_k1.out 0 _ rfl).at
  have y1 := (H_k1.out 1 _ rfl).at
  have y2 := (H_k1.out 2 _ rfl).at
  have y3 := (H_k1.out 3 _ rfl).at
  have y4 := (H_k1.out 4 _ rfl).at
  have y5 := (H_k1.out 5 _ rfl).at
  have y6 := (H_k1.out 6 _ rfl).at
  have y7 := (H_k1.out 7 _ rfl).at
  have y8 := (H_k1.out 8 _ rfl).at
  have y9 := (H_k1.out 9 _ rfl).at
  have y10 := (H_k1.out 10 _ rfl).at
  have y11 := (H_k1.out 11 _ rfl).at
  have ly1 := (H_k1.out 0 _ rfl).lt
  go_wp2_with fail
  (with_reducible refine (H_q2.out _ ?_).mono ?_)
  · exact H_bb1.out.trans ((show Below w1.heap.size w1 _ from belt).mono H_bb1.out.size)
  rintro e w2 ⟨rfl, b2⟩
  have c2 : Below w1.heap.size w1 w2 := Below.trans belt (b2.mono omh)
  have s2 := c2.size
  have bb2 := H_bb1.out.trans (c2.mono H_bb1.out.size)
  have k2 := H_k1.out.below c2
  have g2 := H_g1.out.below c2
  have r2 := H_r1.out.below c2
  have H_b2 := Lib.hid b2; clear b2; have H_c2 := Lib.hid c2; clear c2; have H_bb2 := Lib.hid bb2; clear bb2; have H_k2 := Lib.hid k2; clear k2; have H_g2 := Lib.hid g2; clear g2; have H_r2 := Lib.hid r2; clear r2
  clear y0 y1 y2 y3 y4 y5 y6 y7 y8 y9 y10 y11
  have z0 := (H_g2.out 0 _ rfl).at
  have z1 := (H_g2.out 1 _ rfl).at
  have z2 := (H_g2.out 2 _ rfl).at
  have z3 := (H_g2.out 3 _ rfl).at
  have z4 := (H_g2.out 4 _ rfl).at
  have z5 := (H_g2.out 5 _ rfl).at
  have z6 := (H_g2.out 6 _ rfl).at
  have z7 := (H_g2.out 7 _ rfl).at
  have z8 := (H_g2.out 8 _ rfl).at
  go_wp2_with fail
  (with_reducible refine (H_q3.out _).mono ?_)
  rintro e w3 ⟨rfl, b3⟩
  have c3 : Below w2.heap.size w2 w3 := Below.trans belt (b3.mono omh)
  have s3 := c3.size
  have bb3 := H_bb2.out.trans (c3.mono H_bb2.out.size)
  have k3 := H_k2.out.below c3
  have g3 := H_g2.out.below c3
  have r3 := H_r2.out.below c3
  have H_b3 := Lib.hid b3; clear b3; have H_c3 := Lib.hid c3; clear c3; have H_bb3 := Lib.hid bb3; clear bb3; have H_k3 := Lib.hid k3; clear k3; have H_g3 := Lib.hid g3; clear g3; have H_r3 := Lib.hid r3; clear r3
  clear z0 z1 z2 z3 z4 z5 z6 z7 z8
  have x0 := (H_r3.out 0 _ rfl).at
  have x1 := (H_r3.out 1 _ rfl).at
  have x2 := (H_r3.out 2 _ rfl).at
  have x3 := (H_r3.out 3 _ rfl).at
  have x4 := (H_r3.out 4 _ rfl).at
  have x5 := (H_r3.out 5 _ rfl).at
  have x6 := (H_r3.out 6 _ rfl).at
  have x7 := (H_r3.out 7 _ rfl).at
  have x8 := (H_r3.out 8 _ rfl).at
  have x9 := (H_r3.out 9 _ rfl).at
  have x10 := (H_r3.out 10 _ rfl).at
  have x11 := (H_r3.out 11 _ rfl).at
  have lx3 := (H_r3.out 0 _ rfl).lt
  have sz3 := H_bb3.out.size
  have f0 := (H_r3.out 0 _ rfl).free
  have f1 := (H_r3.out 1 _ rfl).free
  have f2 := (H_r3.out 2 _ rfl).free
  have f3 := (H_r3.out 3 _ rfl).free
  have f4 := (H_r3.out 4 _ rfl).free
  have f5 := (H_r3.out 5 _ rfl).free
  have f6 := (H_r3.out 6 _ rfl).free
  have f7 := (H_r3.out 7 _ rfl).free
  have f8 := (H_r3.out 8 _ rfl).free
  have f9 := (H_r3.out 9 _ rfl).free
  have f10 := (H_r3.out 10 _ rfl).free
  have f11 := (H_r3.out 11 _ rfl).free
  have be : Below w.heap.size w (putL (w3) (w.heap.size + 1 + 1) 0 [.int .i64 0, .int .i64 0, .int .i64 0, .int .i64 0, .int .i64 0, .slice none 0 0, .int .u64 0, .int .i64 0, .int .i64 0, .slice none 0 0, .int .u64 0, .bool false]) := putL_below (by omega) _ _ _ H_bb3.out
  simp only [putL, Nat.reduceAdd] at be
  have H_be := Lib.hid be; clear be
  go_wp2_with fail
  refine bodyPost_ret (v := .tuple #[.agg #[.int .i64 0, .int .i64 0, .int .i64 0, .int .i64 0, .int .i64 0, .slice none 0 0, .int .u64 0, .int .i64 0, .int .i64 0, .slice none 0 0, .int .u64 0, .bool false], .bool false, .int .i64 1]) (by simp [results, Tryd.results26, go_sem, *]) rfl (showErr_zero H_be.out)
set_option maxHeartbeats 8000000 in
theorem show_e5 (l : Lk) (c : Crd) (t a : Int) (A : Option Addr) (n p : Nat) (B : Option Addr) (m q : Nat) (w : World) (hx : SlotIs w A n l.x) (hy : SlotIs w B m l.y) (ht : Tab w) (hc : CFit c) (h1 : lvB l = true) (h2 : cvB c = true) (h3 : timeB t = true) (h4 : ¬ a < 0) (h5 : 3 < a) :
    Calls Tryd.prog 26 #[.agg (l.cells A n p B m q).toArray, .agg c.cells.toArray, .int .i64 t, .int .i64 a] w (ShowPost A l.x.l B l.y.l Lk.zero false 1 w) := by
  have hn := hx.len
  have hm := hy.len
  subst hn hm
  obtain ⟨w0, hw0⟩ : ∃ W, ((w.alloc (.cells (l.cells A l.x.l.length p B l.y.l.length q).toArray 55)).alloc (.cells c.cells.toArray 31)).alloc (.cells #[.int .i64 0, .int .i64 0, .int .i64 0, .int .i64 0, .int .i64 0, .slice none 0 0, .int .u64 0, .int .i64 0, .int .i64 0, .slice none 0 0, .int .u64 0, .bool false] 55) = W := ⟨_, rfl⟩
  have bb0 : Below w.heap.size w w0 := by rw [← hw0]; exact (((Below.refl _ _).alloc (Nat.le_refl _) _).alloc (by simp) _).alloc (by simp; omega) _
  have k0 : Blk w0 w.heap.size (l.cells A l.x.l.length p B l.y.l.length q).toArray := by rw [← hw0]; exact ((blk_new rfl).alloc _).alloc _
  have g0 : Blk w0 (w.heap.size + 1) c.cells.toArray := by rw [← hw0]; exact (blk_new (by simp)).alloc _
  have r0 : Blk w0 (w.heap.size + 1 + 1) #[.int .i64 0, .int .i64 0, .int .i64 0, .int .i64 0, .int .i64 0, .slice none 0 0, .int .u64 0, .int .i64 0, .int .i64 0, .slice none 0 0, .int .u64 0, .bool false] := by rw [← hw0]; exact blk_new (by simp)
  have q1 := fun W => clockTrue_any t 0 W
  rw [read_time] at q1
  have q2 := fun W (h : Below w.heap.size w W) => lvalid_any l A l.x.l.length p B l.y.l.length q W (hx.below h) (hy.below h) (ht.below h)
  have q3 := fun W => cvalid_any c hc W
  have q4 := fun W (h : Below w.heap.size w W) => ccheck_any c l.k hc W (ht.below h)
  have q5 := fun W (h : Below w.heap.size w W) => accepts_any l c t A l.x.l.length p B l.y.l.length q W (hx.below h) (hy.below h) (ht.below h)
  rw [h1] at q2
  rw [h2] at q3
  rw [h3] at q1
  unfold errN at q1
  generalize lvB l = V at *
  generalize cvB c = V2 at *
  generalize timeB t = V3 at *
  generalize chkB c l.k = V4 at *
  generalize chkE c l.k = V5 at *
  generalize accB l c t = V6 at *
  generalize trueA t 0 = ta at *
  generalize trueB t 0 = tb at *
  unfold Lk.cells at k0 hw0 q2 q5  ⊢
  unfold Crd.cells at g0 hw0 q3 q4 q5  ⊢
  obtain ⟨ci, ck, cd, cn, cf, cu, cl, ce, cs⟩ := c
  obtain ⟨ld, lk, lr, lx, ly, lu⟩ := l
  dsimp only at *
  simp only [Bool.false_eq_true, reduceIte, if_true, if_false] at q1
  have H_bb0 := Lib.hid bb0; clear bb0; have H_k0 := Lib.hid k0; clear k0; have H_g0 := Lib.hid g0; clear g0; have H_r0 := Lib.hid r0; clear r0; have H_hw0 := Lib.hid hw0; clear hw0; have H_q1 := Lib.hid q1; clear q1; have H_q2 := Lib.hid q2; clear q2; have H_q3 := Lib.hid q3; clear q3; have H_q4 := Lib.hid q4; clear q4; have H_q5 := Lib.hid q5; clear q5; have H_hx := Lib.hid hx; clear hx; have H_hy := Lib.hid hy; clear hy; have H_ht := Lib.hid ht; clear ht; have H_hc := Lib.hid hc; clear hc
  go_enter Tryd.func26, Tryd.ntmps26
  go_wp2_with fail
  rw [H_hw0.out]
  go_wp2_with fail
  (with_reducible refine (H_q1.out _).mono ?_)
  rintro e w1 ⟨rfl, b1⟩
  have c1 : Below w0.heap.size w0 w1 := Below.trans belt (b1.mono omh)
  have s1 := c1.size
  have bb1 := H_bb0.out.trans (c1.mono H_bb0.out.size)
  have k1 := H_k0.out.below c1
  have g1 := H_g0.out.below c1
  have r1 := H_r0.out.below c1
  have H_b1 := Lib.hid b1; clear b1; have H_c1 := Lib.hid c1; clear c1; have H_bb1 := Lib.hid bb1; clear bb1; have H_k1 := Lib.hid k1; clear k1; have H_g1 := Lib.hid g1; clear g1; have H_r1 := Lib.hid r1; clear r1
  have y0 := (H_k1.out 0 _ rfl).at
  have y1 := (H_k1.out 1 _ rfl).at
  have y2 := (H_k1.out 2 _ rfl).at
  have y3 := (H_k1.out 3 _ rfl).at
  have y4 := (H_k1.out 4 _ rfl).at
  have y5 := (H_k1.out 5 _ rfl).at
  have y6 := (H_k1.out 6 _ rfl).at
  have y7 := (H_k1.out 7 _ rfl).at
  have y8 := (H_k1.out 8 _ rfl).at
  have y9 := (H_k1.out 9 _ rfl).at
  have y10 := (H_k1.out 10 _ rfl).at
  have y11 := (H_k1.out 11 _ rfl).at
  have ly1 := (H_k1.out 0 _ rfl).lt
  go_wp2_with fail
  (with_reducible refine (H_q2.out _ ?_).mono ?_)
  · exact H_bb1.out.trans ((show Below w1.heap.size w1 _ from belt).mono H_bb1.out.size)
  rintro e w2 ⟨rfl, b2⟩
  have c2 : Below w1.heap.size w1 w2 := Below.trans belt (b2.mono omh)
  have s2 := c2.size
  have bb2 := H_bb1.out.trans (c2.mono H_bb1.out.size)
  have k2 := H_k1.out.below c2
  have g2 := H_g1.out.below c2
  have r2 := H_r1.out.below c2
  have H_b2 := Lib.hid b2; clear b2; have H_c2 := Lib.hid c2; clear c2; have H_bb2 := Lib.hid bb2; clear bb2; have H_k2 := Lib.hid k2; clear k2; have H_g2 := Lib.hid g2; clear g2; have H_r2 := Lib.hid r2; clear r2
  clear y0 y1 y2 y3 y4 y5 y6 y7 y8 y9 y10 y11
  have z0 := (H_g2.out 0 _ rfl).at
  have z1 := (H_g2.out 1 _ rfl).at
  have z2 := (H_g2.out 2 _ rfl).at
  have z3 := (H_g2.out 3 _ rfl).at
  have z4 := (H_g2.out 4 _ rfl).at
  have z5 := (H_g2.out 5 _ rfl).at
  have z6 := (H_g2.out 6 _ rfl).at
  have z7 := (H_g2.out 7 _ rfl).at
  have z8 := (H_g2.out 8 _ rfl).at
  go_wp2_with fail
  (with_reducible refine (H_q3.out _).mono ?_)
  rintro e w3 ⟨rfl, b3⟩
  have c3 : Below w2.heap.size w2 w3 := Below.trans belt (b3.mono omh)
  have s3 := c3.size
  have bb3 := H_bb2.out.trans (c3.mono H_bb2.out.size)
  have k3 := H_k2.out.below c3
  have g3 := H_g2.out.below c3
  have r3 := H_r2.out.below c3
  have H_b3 := Lib.hid b3; clear b3; have H_c3 := Lib.hid c3; clear c3; have H_bb3 := Lib.hid bb3; clear bb3; have H_k3 := Lib.hid k3; clear k3; have H_g3 := Lib.hid g3; clear g3; have H_r3 := Lib.hid r3; clear r3
  clear z0 z1 z2 z3 z4 z5 z6 z7 z8
  have x0 := (H_r3.out 0 _ rfl).at
  have x1 := (H_r3.out 1 _ rfl).at
  have x2 := (H_r3.out 2 _ rfl).at
  have x3 := (H_r3.out 3 _ rfl).at
  have x4 := (H_r3.out 4 _ rfl).at
  have x5 := (H_r3.out 5 _ rfl).at
  have x6 := (H_r3.out 6 _ rfl).at
  have x7 := (H_r3.out 7 _ rfl).at
  have x8 := (H_r3.out 8 _ rfl).at
  have x9 := (H_r3.out 9 _ rfl).at
  have x10 := (H_r3.out 10 _ rfl).at
  have x11 := (H_r3.out 11 _ rfl).at
  have lx3 := (H_r3.out 0 _ rfl).lt
  have sz3 := H_bb3.out.size
  have f0 := (H_r3.out 0 _ rfl).free
  have f1 := (H_r3.out 1 _ rfl).free
  have f2 := (H_r3.out 2 _ rfl).free
  have f3 := (H_r3.out 3 _ rfl).free
  have f4 := (H_r3.out 4 _ rfl).free
  have f5 := (H_r3.out 5 _ rfl).free
  have f6 := (H_r3.out 6 _ rfl).free
  have f7 := (H_r3.out 7 _ rfl).free
  have f8 := (H_r3.out 8 _ rfl).free
  have f9 := (H_r3.out 9 _ rfl).free
  have f10 := (H_r3.out 10 _ rfl).free
  have f11 := (H_r3.out 11 _ rfl).free
  have be : Below w.heap.size w (putL (w3) (w.heap.size + 1 + 1) 0 [.int .i64 0, .int .i64 0, .int .i64 0, .int .i64 0, .int .i64 0, .slice none 0 0, .int .u64 0, .int .i64 0, .int .i64 0, .slice none 0 0, .int .u64 0, .bool false]) := putL_below (by omega) _ _ _ H_bb3.out
  simp only [putL, Nat.reduceAdd] at be
  have H_be := Lib.hid be; clear be
  go_wp2_with fail
  refine bodyPost_ret (v := .tuple #[.agg #[.int .i64 0, .int .i64 0, .int .i64 0, .int .i64 0, .int .i64 0, .slice none 0 0, .int .u64 0, .int .i64 0, .int .i64 0, .slice none 0 0, .int .u64 0, .bool false], .bool false, .int .i64 1]) (by simp [results, Tryd.results26, go_sem, *]) rfl (showErr_zero H_be.out)
set_option maxHeartbeats 8000000 in
theorem show_e6 (l : Lk) (c : Crd) (t a : Int) (A : Option Addr) (n p : Nat) (B : Option Addr) (m q : Nat) (w : World) (hx : SlotIs w A n l.x) (hy : SlotIs w B m l.y) (ht : Tab w) (hc : CFit c) (h1 : lvB l = true) (h2 : cvB c = true) (h3 : timeB t = true) (h4 : ¬ a < 0) (h5 : ¬ 3 < a) (h6 : l.up = false) :
    Calls Tryd.prog 26 #[.agg (l.cells A n p B m q).toArray, .agg c.cells.toArray, .int .i64 t, .int .i64 a] w (ShowPost A l.x.l B l.y.l Lk.zero false 51 w) := by
  have hn := hx.len
  have hm := hy.len
  subst hn hm
  obtain ⟨w0, hw0⟩ : ∃ W, ((w.alloc (.cells (l.cells A l.x.l.length p B l.y.l.length q).toArray 55)).alloc (.cells c.cells.toArray 31)).alloc (.cells #[.int .i64 0, .int .i64 0, .int .i64 0, .int .i64 0, .int .i64 0, .slice none 0 0, .int .u64 0, .int .i64 0, .int .i64 0, .slice none 0 0, .int .u64 0, .bool false] 55) = W := ⟨_, rfl⟩
  have bb0 : Below w.heap.size w w0 := by rw [← hw0]; exact (((Below.refl _ _).alloc (Nat.le_refl _) _).alloc (by simp) _).alloc (by simp; omega) _
  have k0 : Blk w0 w.heap.size (l.cells A l.x.l.length p B l.y.l.length q).toArray := by rw [← hw0]; exact ((blk_new rfl).alloc _).alloc _
  have g0 : Blk w0 (w.heap.size + 1) c.cells.toArray := by rw [← hw0]; exact (blk_new (by simp)).alloc _
  have r0 : Blk w0 (w.heap.size + 1 + 1) #[.int .i64 0, .int .i64 0, .int .i64 0, .int .i64 0, .int .i64 0, .slice none 0 0, .int .u64 0, .int .i64 0, .int .i64 0, .slice none 0 0, .int .u64 0, .bool false] := by rw [← hw0]; exact blk_new (by simp)
  have q1 := fun W => clockTrue_any t 0 W
  rw [read_time] at q1
  have q2 := fun W (h : Below w.heap.size w W) => lvalid_any l A l.x.l.length p B l.y.l.length q W (hx.below h) (hy.below h) (ht.below h)
  have q3 := fun W => cvalid_any c hc W
  have q4 := fun W (h : Below w.heap.size w W) => ccheck_any c l.k hc W (ht.below h)
  have q5 := fun W (h : Below w.heap.size w W) => accepts_any l c t A l.x.l.length p B l.y.l.length q W (hx.below h) (hy.below h) (ht.below h)
  rw [h1] at q2
  rw [h2] at q3
  rw [h3] at q1
  unfold errN at q1
  generalize lvB l = V at *
  generalize cvB c = V2 at *
  generalize timeB t = V3 at *
  generalize chkB c l.k = V4 at *
  generalize chkE c l.k = V5 at *
  generalize accB l c t = V6 at *
  generalize trueA t 0 = ta at *
  generalize trueB t 0 = tb at *
  unfold Lk.cells at k0 hw0 q2 q5  ⊢
  unfold Crd.cells at g0 hw0 q3 q4 q5  ⊢
  obtain ⟨ci, ck, cd, cn, cf, cu, cl, ce, cs⟩ := c
  obtain ⟨ld, lk, lr, lx, ly, lu⟩ := l
  dsimp only at *
  subst h6
  simp only [Bool.false_eq_true, reduceIte, if_true, if_false] at q1
  have H_bb0 := Lib.hid bb0; clear bb0; have H_k0 := Lib.hid k0; clear k0; have H_g0 := Lib.hid g0; clear g0; have H_r0 := Lib.hid r0; clear r0; have H_hw0 := Lib.hid hw0; clear hw0; have H_q1 := Lib.hid q1; clear q1; have H_q2 := Lib.hid q2; clear q2; have H_q3 := Lib.hid q3; clear q3; have H_q4 := Lib.hid q4; clear q4; have H_q5 := Lib.hid q5; clear q5; have H_hx := Lib.hid hx; clear hx; have H_hy := Lib.hid hy; clear hy; have H_ht := Lib.hid ht; clear ht; have H_hc := Lib.hid hc; clear hc
  go_enter Tryd.func26, Tryd.ntmps26
  go_wp2_with fail
  rw [H_hw0.out]
  go_wp2_with fail
  (with_reducible refine (H_q1.out _).mono ?_)
  rintro e w1 ⟨rfl, b1⟩
  have c1 : Below w0.heap.size w0 w1 := Below.trans belt (b1.mono omh)
  have s1 := c1.size
  have bb1 := H_bb0.out.trans (c1.mono H_bb0.out.size)
  have k1 := H_k0.out.below c1
  have g1 := H_g0.out.below c1
  have r1 := H_r0.out.below c1
  have H_b1 := Lib.hid b1; clear b1; have H_c1 := Lib.hid c1; clear c1; have H_bb1 := Lib.hid bb1; clear bb1; have H_k1 := Lib.hid k1; clear k1; have H_g1 := Lib.hid g1; clear g1; have H_r1 := Lib.hid r1; clear r1
  have y0 := (H_k1.out 0 _ rfl).at
  have y1 := (H_k1.out 1 _ rfl).at
  have y2 := (H_k1.out 2 _ rfl).at
  have y3 := (H_k1.out 3 _ rfl).at
  have y4 := (H_k1.out 4 _ rfl).at
  have y5 := (H_k1.out 5 _ rfl).at
  have y6 := (H_k1.out 6 _ rfl).at
  have y7 := (H_k1.out 7 _ rfl).at
  have y8 := (H_k1.out 8 _ rfl).at
  have y9 := (H_k1.out 9 _ rfl).at
  have y10 := (H_k1.out 10 _ rfl).at
  have y11 := (H_k1.out 11 _ rfl).at
  have ly1 := (H_k1.out 0 _ rfl).lt
  go_wp2_with fail
  (with_reducible refine (H_q2.out _ ?_).mono ?_)
  · exact H_bb1.out.trans ((show Below w1.heap.size w1 _ from belt).mono H_bb1.out.size)
  rintro e w2 ⟨rfl, b2⟩
  have c2 : Below w1.heap.size w1 w2 := Below.trans belt (b2.mono omh)
  have s2 := c2.size
  have bb2 := H_bb1.out.trans (c2.mono H_bb1.out.size)
  have k2 := H_k1.out.below c2
  have g2 := H_g1.out.below c2
  have r2 := H_r1.out.below c2
  have H_b2 := Lib.hid b2; clear b2; have H_c2 := Lib.hid c2; clear c2; have H_bb2 := Lib.hid bb2; clear bb2; have H_k2 := Lib.hid k2; clear k2; have H_g2 := Lib.hid g2; clear g2; have H_r2 := Lib.hid r2; clear r2
  clear y0 y1 y2 y3 y4 y5 y6 y7 y8 y9 y10 y11
  have z0 := (H_g2.out 0 _ rfl).at
  have z1 := (H_g2.out 1 _ rfl).at
  have z2 := (H_g2.out 2 _ rfl).at
  have z3 := (H_g2.out 3 _ rfl).at
  have z4 := (H_g2.out 4 _ rfl).at
  have z5 := (H_g2.out 5 _ rfl).at
  have z6 := (H_g2.out 6 _ rfl).at
  have z7 := (H_g2.out 7 _ rfl).at
  have z8 := (H_g2.out 8 _ rfl).at
  go_wp2_with fail
  (with_reducible refine (H_q3.out _).mono ?_)
  rintro e w3 ⟨rfl, b3⟩
  have c3 : Below w2.heap.size w2 w3 := Below.trans belt (b3.mono omh)
  have s3 := c3.size
  have bb3 := H_bb2.out.trans (c3.mono H_bb2.out.size)
  have k3 := H_k2.out.below c3
  have g3 := H_g2.out.below c3
  have r3 := H_r2.out.below c3
  have H_b3 := Lib.hid b3; clear b3; have H_c3 := Lib.hid c3; clear c3; have H_bb3 := Lib.hid bb3; clear bb3; have H_k3 := Lib.hid k3; clear k3; have H_g3 := Lib.hid g3; clear g3; have H_r3 := Lib.hid r3; clear r3
  clear z0 z1 z2 z3 z4 z5 z6 z7 z8
  have y0 := (H_k3.out 0 _ rfl).at
  have y1 := (H_k3.out 1 _ rfl).at
  have y2 := (H_k3.out 2 _ rfl).at
  have y3 := (H_k3.out 3 _ rfl).at
  have y4 := (H_k3.out 4 _ rfl).at
  have y5 := (H_k3.out 5 _ rfl).at
  have y6 := (H_k3.out 6 _ rfl).at
  have y7 := (H_k3.out 7 _ rfl).at
  have y8 := (H_k3.out 8 _ rfl).at
  have y9 := (H_k3.out 9 _ rfl).at
  have y10 := (H_k3.out 10 _ rfl).at
  have y11 := (H_k3.out 11 _ rfl).at
  have x0 := (H_r3.out 0 _ rfl).at
  have x1 := (H_r3.out 1 _ rfl).at
  have x2 := (H_r3.out 2 _ rfl).at
  have x3 := (H_r3.out 3 _ rfl).at
  have x4 := (H_r3.out 4 _ rfl).at
  have x5 := (H_r3.out 5 _ rfl).at
  have x6 := (H_r3.out 6 _ rfl).at
  have x7 := (H_r3.out 7 _ rfl).at
  have x8 := (H_r3.out 8 _ rfl).at
  have x9 := (H_r3.out 9 _ rfl).at
  have x10 := (H_r3.out 10 _ rfl).at
  have x11 := (H_r3.out 11 _ rfl).at
  have lx3 := (H_r3.out 0 _ rfl).lt
  have sz3 := H_bb3.out.size
  have f0 := (H_r3.out 0 _ rfl).free
  have f1 := (H_r3.out 1 _ rfl).free
  have f2 := (H_r3.out 2 _ rfl).free
  have f3 := (H_r3.out 3 _ rfl).free
  have f4 := (H_r3.out 4 _ rfl).free
  have f5 := (H_r3.out 5 _ rfl).free
  have f6 := (H_r3.out 6 _ rfl).free
  have f7 := (H_r3.out 7 _ rfl).free
  have f8 := (H_r3.out 8 _ rfl).free
  have f9 := (H_r3.out 9 _ rfl).free
  have f10 := (H_r3.out 10 _ rfl).free
  have f11 := (H_r3.out 11 _ rfl).free
  have be : Below w.heap.size w (putL (w3) (w.heap.size + 1 + 1) 0 [.int .i64 0, .int .i64 0, .int .i64 0, .int .i64 0, .int .i64 0, .slice none 0 0, .int .u64 0, .int .i64 0, .int .i64 0, .slice none 0 0, .int .u64 0, .bool false]) := putL_below (by omega) _ _ _ H_bb3.out
  simp only [putL, Nat.reduceAdd] at be
  have H_be := Lib.hid be; clear be
  go_wp2_with fail
  refine bodyPost_ret (v := .tuple #[.agg #[.int .i64 0, .int .i64 0, .int .i64 0, .int .i64 0, .int .i64 0, .slice none 0 0, .int .u64 0, .int .i64 0, .int .i64 0, .slice none 0 0, .int .u64 0, .bool false], .bool false, .int .i64 51]) (by simp [results, Tryd.results26, go_sem, *]) rfl (showErr_zero H_be.out)
set_option maxHeartbeats 8000000 in
theorem show_e7 (l : Lk) (c : Crd) (t a : Int) (A : Option Addr) (n p : Nat) (B : Option Addr) (m q : Nat) (w : World) (hx : SlotIs w A n l.x) (hy : SlotIs w B m l.y) (ht : Tab w) (hc : CFit c) (h1 : lvB l = true) (h2 : cvB c = true) (h3 : timeB t = true) (h4 : ¬ a < 0) (h5 : ¬ 3 < a) (h6 : l.up = true) (h7 : chkB c l.k = false) (h8 : chkE c l.k = 0) :
    Calls Tryd.prog 26 #[.agg (l.cells A n p B m q).toArray, .agg c.cells.toArray, .int .i64 t, .int .i64 a] w (ShowPost A l.x.l B l.y.l Lk.zero false 9 w) := by
  have hn := hx.len
  have hm := hy.len
  subst hn hm
  obtain ⟨w0, hw0⟩ : ∃ W, ((w.alloc (.cells (l.cells A l.x.l.length p B l.y.l.length q).toArray 55)).alloc (.cells c.cells.toArray 31)).alloc (.cells #[.int .i64 0, .int .i64 0, .int .i64 0, .int .i64 0, .int .i64 0, .slice none 0 0, .int .u64 0, .int .i64 0, .int .i64 0, .slice none 0 0, .int .u64 0, .bool false] 55) = W := ⟨_, rfl⟩
  have bb0 : Below w.heap.size w w0 := by rw [← hw0]; exact (((Below.refl _ _).alloc (Nat.le_refl _) _).alloc (by simp) _).alloc (by simp; omega) _
  have k0 : Blk w0 w.heap.size (l.cells A l.x.l.length p B l.y.l.length q).toArray := by rw [← hw0]; exact ((blk_new rfl).alloc _).alloc _
  have g0 : Blk w0 (w.heap.size + 1) c.cells.toArray := by rw [← hw0]; exact (blk_new (by simp)).alloc _
  have r0 : Blk w0 (w.heap.size + 1 + 1) #[.int .i64 0, .int .i64 0, .int .i64 0, .int .i64 0, .int .i64 0, .slice none 0 0, .int .u64 0, .int .i64 0, .int .i64 0, .slice none 0 0, .int .u64 0, .bool false] := by rw [← hw0]; exact blk_new (by simp)
  have q1 := fun W => clockTrue_any t 0 W
  rw [read_time] at q1
  have q2 := fun W (h : Below w.heap.size w W) => lvalid_any l A l.x.l.length p B l.y.l.length q W (hx.below h) (hy.below h) (ht.below h)
  have q3 := fun W => cvalid_any c hc W
  have q4 := fun W (h : Below w.heap.size w W) => ccheck_any c l.k hc W (ht.below h)
  have q5 := fun W (h : Below w.heap.size w W) => accepts_any l c t A l.x.l.length p B l.y.l.length q W (hx.below h) (hy.below h) (ht.below h)
  rw [h1] at q2
  rw [h2] at q3
  rw [h3] at q1
  rw [h7, h8] at q4
  unfold errN at q1
  generalize lvB l = V at *
  generalize cvB c = V2 at *
  generalize timeB t = V3 at *
  generalize chkB c l.k = V4 at *
  generalize chkE c l.k = V5 at *
  generalize accB l c t = V6 at *
  generalize trueA t 0 = ta at *
  generalize trueB t 0 = tb at *
  unfold Lk.cells at k0 hw0 q2 q5  ⊢
  unfold Crd.cells at g0 hw0 q3 q4 q5  ⊢
  obtain ⟨ci, ck, cd, cn, cf, cu, cl, ce, cs⟩ := c
  obtain ⟨ld, lk, lr, lx, ly, lu⟩ := l
  dsimp only at *
  subst h6
  simp only [Bool.false_eq_true, reduceIte, if_true, if_false] at q1
  have H_bb0 := Lib.hid bb0; clear bb0; have H_k0 := Lib.hid k0; clear k0; have H_g0 := Lib.hid g0; clear g0; have H_r0 := Lib.hid r0; clear r0; have H_hw0 := Lib.hid hw0; clear hw0; have H_q1 := Lib.hid q1; clear q1; have H_q2 := Lib.hid q2; clear q2; have H_q3 := Lib.hid q3; clear q3; have H_q4 := Lib.hid q4; clear q4; have H_q5 := Lib.hid q5; clear q5; have H_hx := Lib.hid hx; clear hx; have H_hy := Lib.hid hy; clear hy; have H_ht := Lib.hid ht; clear ht; have H_hc := Lib.hid hc; clear hc
  go_enter Tryd.func26, Tryd.ntmps26
  go_wp2_with fail
  rw [H_hw0.out]
  go_wp2_with fail
  (with_reducible refine (H_q1.out _).mono ?_)
  rintro e w1 ⟨rfl, b1⟩
  have c1 : Below w0.heap.size w0 w1 := Below.trans belt (b1.mono omh)
  have s1 := c1.size
  have bb1 := H_bb0.out.trans (c1.mono H_bb0.out.size)
  have k1 := H_k0.out.below c1
  have g1 := H_g0.out.below c1
  have r1 := H_r0.out.below c1
  have H_b1 := Lib.hid b1; clear b1; have H_c1 := Lib.hid c1; clear c1; have H_bb1 := Lib.hid bb1; clear bb1; have H_k1 := Lib.hid k1; clear k1; have H_g1 := Lib.hid g1; clear g1; have H_r1 := Lib.hid r1; clear r1
  have y0 := (H_k1.out 0 _ rfl).at
  have y1 := (H_k1.out 1 _ rfl).at
  have y2 := (H_k1.out 2 _ rfl).at
  have y3 := (H_k1.out 3 _ rfl).at
  have y4 := (H_k1.out 4 _ rfl).at
  have y5 := (H_k1.out 5 _ rfl).at
  have y6 := (H_k1.out 6 _ rfl).at
  have y7 := (H_k1.out 7 _ rfl).at
  have y8 := (H_k1.out 8 _ rfl).at
  have y9 := (H_k1.out 9 _ rfl).at
  have y10 := (H_k1.out 10 _ rfl).at
  have y11 := (H_k1.out 11 _ rfl).at
  have ly1 := (H_k1.out 0 _ rfl).lt
  go_wp2_with fail
  (with_reducible refine (H_q2.out _ ?_).mono ?_)
  · exact H_bb1.out.trans ((show Below w1.heap.size w1 _ from belt).mono H_bb1.out.size)
  rintro e w2 ⟨rfl, b2⟩
  have c2 : Below w1.heap.size w1 w2 := Below.trans belt (b2.mono omh)
  have s2 := c2.size
  have bb2 := H_bb1.out.trans (c2.mono H_bb1.out.size)
  have k2 := H_k1.out.below c2
  have g2 := H_g1.out.below c2
  have r2 := H_r1.out.below c2
  have H_b2 := Lib.hid b2; clear b2; have H_c2 := Lib.hid c2; clear c2; have H_bb2 := Lib.hid bb2; clear bb2; have H_k2 := Lib.hid k2; clear k2; have H_g2 := Lib.hid g2; clear g2; have H_r2 := Lib.hid r2; clear r2
  clear y0 y1 y2 y3 y4 y5 y6 y7 y8 y9 y10 y11
  have z0 := (H_g2.out 0 _ rfl).at
  have z1 := (H_g2.out 1 _ rfl).at
  have z2 := (H_g2.out 2 _ rfl).at
  have z3 := (H_g2.out 3 _ rfl).at
  have z4 := (H_g2.out 4 _ rfl).at
  have z5 := (H_g2.out 5 _ rfl).at
  have z6 := (H_g2.out 6 _ rfl).at
  have z7 := (H_g2.out 7 _ rfl).at
  have z8 := (H_g2.out 8 _ rfl).at
  go_wp2_with fail
  (with_reducible refine (H_q3.out _).mono ?_)
  rintro e w3 ⟨rfl, b3⟩
  have c3 : Below w2.heap.size w2 w3 := Below.trans belt (b3.mono omh)
  have s3 := c3.size
  have bb3 := H_bb2.out.trans (c3.mono H_bb2.out.size)
  have k3 := H_k2.out.below c3
  have g3 := H_g2.out.below c3
  have r3 := H_r2.out.below c3
  have H_b3 := Lib.hid b3; clear b3; have H_c3 := Lib.hid c3; clear c3; have H_bb3 := Lib.hid bb3; clear bb3; have H_k3 := Lib.hid k3; clear k3; have H_g3 := Lib.hid g3; clear g3; have H_r3 := Lib.hid r3; clear r3
  clear z0 z1 z2 z3 z4 z5 z6 z7 z8
  have y0 := (H_k3.out 0 _ rfl).at
  have y1 := (H_k3.out 1 _ rfl).at
  have y2 := (H_k3.out 2 _ rfl).at
  have y3 := (H_k3.out 3 _ rfl).at
  have y4 := (H_k3.out 4 _ rfl).at
  have y5 := (H_k3.out 5 _ rfl).at
  have y6 := (H_k3.out 6 _ rfl).at
  have y7 := (H_k3.out 7 _ rfl).at
  have y8 := (H_k3.out 8 _ rfl).at
  have y9 := (H_k3.out 9 _ rfl).at
  have y10 := (H_k3.out 10 _ rfl).at
  have y11 := (H_k3.out 11 _ rfl).at
  have z0 := (H_g3.out 0 _ rfl).at
  have z1 := (H_g3.out 1 _ rfl).at
  have z2 := (H_g3.out 2 _ rfl).at
  have z3 := (H_g3.out 3 _ rfl).at
  have z4 := (H_g3.out 4 _ rfl).at
  have z5 := (H_g3.out 5 _ rfl).at
  have z6 := (H_g3.out 6 _ rfl).at
  have z7 := (H_g3.out 7 _ rfl).at
  have z8 := (H_g3.out 8 _ rfl).at
  go_wp2_with fail
  (with_reducible refine (H_q4.out _ ?_).mono ?_)
  · exact H_bb3.out.trans ((show Below w3.heap.size w3 _ from belt).mono H_bb3.out.size)
  rintro e w4 ⟨rfl, b4⟩
  have c4 : Below w3.heap.size w3 w4 := Below.trans belt (b4.mono omh)
  have s4 := c4.size
  have bb4 := H_bb3.out.trans (c4.mono H_bb3.out.size)
  have k4 := H_k3.out.below c4
  have g4 := H_g3.out.below c4
  have r4 := H_r3.out.below c4
  have H_b4 := Lib.hid b4; clear b4; have H_c4 := Lib.hid c4; clear c4; have H_bb4 := Lib.hid bb4; clear bb4; have H_k4 := Lib.hid k4; clear k4; have H_g4 := Lib.hid g4; clear g4; have H_r4 := Lib.hid r4; clear r4
  clear y0 y1 y2 y3 y4 y5 y6 y7 y8 y9 y10 y11
  clear z0 z1 z2 z3 z4 z5 z6 z7 z8
  have x0 := (H_r4.out 0 _ rfl).at
  have x1 := (H_r4.out 1 _ rfl).at
  have x2 := (H_r4.out 2 _ rfl).at
  have x3 := (H_r4.out 3 _ rfl).at
  have x4 := (H_r4.out 4 _ rfl).at
  have x5 := (H_r4.out 5 _ rfl).at
  have x6 := (H_r4.out 6 _ rfl).at
  have x7 := (H_r4.out 7 _ rfl).at
  have x8 := (H_r4.out 8 _ rfl).at
  have x9 := (H_r4.out 9 _ rfl).at
  have x10 := (H_r4.out 10 _ rfl).at
  have x11 := (H_r4.out 11 _ rfl).at
  have lx4 := (H_r4.out 0 _ rfl).lt
  have sz4 := H_bb4.out.size
  have f0 := (H_r4.out 0 _ rfl).free
  have f1 := (H_r4.out 1 _ rfl).free
  have f2 := (H_r4.out 2 _ rfl).free
  have f3 := (H_r4.out 3 _ rfl).free
  have f4 := (H_r4.out 4 _ rfl).free
  have f5 := (H_r4.out 5 _ rfl).free
  have f6 := (H_r4.out 6 _ rfl).free
  have f7 := (H_r4.out 7 _ rfl).free
  have f8 := (H_r4.out 8 _ rfl).free
  have f9 := (H_r4.out 9 _ rfl).free
  have f10 := (H_r4.out 10 _ rfl).free
  have f11 := (H_r4.out 11 _ rfl).free
  have be : Below w.heap.size w (putL (w4) (w.heap.size + 1 + 1) 0 [.int .i64 0, .int .i64 0, .int .i64 0, .int .i64 0, .int .i64 0, .slice none 0 0, .int .u64 0, .int .i64 0, .int .i64 0, .slice none 0 0, .int .u64 0, .bool false]) := putL_below (by omega) _ _ _ H_bb4.out
  simp only [putL, Nat.reduceAdd] at be
  have H_be := Lib.hid be; clear be
  go_wp2_with fail
  refine bodyPost_ret (v := .tuple #[.agg #[.int .i64 0, .int .i64 0, .int .i64 0, .int .i64 0, .int .i64 0, .slice none 0 0, .int .u64 0, .int .i64 0, .int .i64 0, .slice none 0 0, .int .u64 0, .bool false], .bool false, .int .i64 9]) (by simp [results, Tryd.results26, go_sem, *]) rfl (showErr_zero H_be.out)
set_option maxHeartbeats 8000000 in
theorem show_e8 (l : Lk) (c : Crd) (t a : Int) (A : Option Addr) (n p : Nat) (B : Option Addr) (m q : Nat) (w : World) (hx : SlotIs w A n l.x) (hy : SlotIs w B m l.y) (ht : Tab w) (hc : CFit c) (h1 : lvB l = true) (h2 : cvB c = true) (h3 : timeB t = true) (h4 : ¬ a < 0) (h5 : ¬ 3 < a) (h6 : l.up = true) (h7 : chkB c l.k = true) (h8 : chkE c l.k = 0) (h9 : accB l c t = false) :
    Calls Tryd.prog 26 #[.agg (l.cells A n p B m q).toArray, .agg c.cells.toArray, .int .i64 t, .int .i64 a] w (ShowPost A l.x.l B l.y.l Lk.zero false 50 w) := by
  have hn := hx.len
  have hm := hy.len
  subst hn hm
  obtain ⟨w0, hw0⟩ : ∃ W, ((w.alloc (.cells (l.cells A l.x.l.length p B l.y.l.length q).toArray 55)).alloc (.cells c.cells.toArray 31)).alloc (.cells #[.int .i64 0, .int .i64 0, .int .i64 0, .int .i64 0, .int .i64 0, .slice none 0 0, .int .u64 0, .int .i64 0, .int .i64 0, .slice none 0 0, .int .u64 0, .bool false] 55) = W := ⟨_, rfl⟩
  have bb0 : Below w.heap.size w w0 := by rw [← hw0]; exact (((Below.refl _ _).alloc (Nat.le_refl _) _).alloc (by simp) _).alloc (by simp; omega) _
  have k0 : Blk w0 w.heap.size (l.cells A l.x.l.length p B l.y.l.length q).toArray := by rw [← hw0]; exact ((blk_new rfl).alloc _).alloc _
  have g0 : Blk w0 (w.heap.size + 1) c.cells.toArray := by rw [← hw0]; exact (blk_new (by simp)).alloc _
  have r0 : Blk w0 (w.heap.size + 1 + 1) #[.int .i64 0, .int .i64 0, .int .i64 0, .int .i64 0, .int .i64 0, .slice none 0 0, .int .u64 0, .int .i64 0, .int .i64 0, .slice none 0 0, .int .u64 0, .bool false] := by rw [← hw0]; exact blk_new (by simp)
  have q1 := fun W => clockTrue_any t 0 W
  rw [read_time] at q1
  have q2 := fun W (h : Below w.heap.size w W) => lvalid_any l A l.x.l.length p B l.y.l.length q W (hx.below h) (hy.below h) (ht.below h)
  have q3 := fun W => cvalid_any c hc W
  have q4 := fun W (h : Below w.heap.size w W) => ccheck_any c l.k hc W (ht.below h)
  have q5 := fun W (h : Below w.heap.size w W) => accepts_any l c t A l.x.l.length p B l.y.l.length q W (hx.below h) (hy.below h) (ht.below h)
  rw [h1] at q2
  rw [h2] at q3
  rw [h3] at q1
  rw [h7, h8] at q4
  rw [h9] at q5
  unfold errN at q1
  generalize lvB l = V at *
  generalize cvB c = V2 at *
  generalize timeB t = V3 at *
  generalize chkB c l.k = V4 at *
  generalize chkE c l.k = V5 at *
  generalize accB l c t = V6 at *
  generalize trueA t 0 = ta at *
  generalize trueB t 0 = tb at *
  unfold Lk.cells at k0 hw0 q2 q5  ⊢
  unfold Crd.cells at g0 hw0 q3 q4 q5  ⊢
  obtain ⟨ci, ck, cd, cn, cf, cu, cl, ce, cs⟩ := c
  obtain ⟨ld, lk, lr, lx, ly, lu⟩ := l
  dsimp only at *
  subst h6
  simp only [Bool.false_eq_true, reduceIte, if_true, if_false] at q1
  have H_bb0 := Lib.hid bb0; clear bb0; have H_k0 := Lib.hid k0; clear k0; have H_g0 := Lib.hid g0; clear g0; have H_r0 := Lib.hid r0; clear r0; have H_hw0 := Lib.hid hw0; clear hw0; have H_q1 := Lib.hid q1; clear q1; have H_q2 := Lib.hid q2; clear q2; have H_q3 := Lib.hid q3; clear q3; have H_q4 := Lib.hid q4; clear q4; have H_q5 := Lib.hid q5; clear q5; have H_hx := Lib.hid hx; clear hx; have H_hy := Lib.hid hy; clear hy; have H_ht := Lib.hid ht; clear ht; have H_hc := Lib.hid hc; clear hc
  go_enter Tryd.func26, Tryd.ntmps26
  go_wp2_with fail
  rw [H_hw0.out]
  go_wp2_with fail
  (with_reducible refine (H_q1.out _).mono ?_)
  rintro e w1 ⟨rfl, b1⟩
  have c1 : Below w0.heap.size w0 w1 := Below.trans belt (b1.mono omh)
  have s1 := c1.size
  have bb1 := H_bb0.out.trans (c1.mono H_bb0.out.size)
  have k1 := H_k0.out.below c1
  have g1 := H_g0.out.below c1
  have r1 := H_r0.out.below c1
  have H_b1 := Lib.hid b1; clear b1; have H_c1 := Lib.hid c1; clear c1; have H_bb1 := Lib.hid bb1; clear bb1; have H_k1 := Lib.hid k1; clear k1; have H_g1 := Lib.hid g1; clear g1; have H_r1 := Lib.hid r1; clear r1
  have y0 := (H_k1.out 0 _ rfl).at
  have y1 := (H_k1.out 1 _ rfl).at
  have y2 := (H_k1.out 2 _ rfl).at
  have y3 := (H_k1.out 3 _ rfl).at
  have y4 := (H_k1.out 4 _ rfl).at
  have y5 := (H_k1.out 5 _ rfl).at
  have y6 := (H_k1.out 6 _ rfl).at
  have y7 := (H_k1.out 7 _ rfl).at
  have y8 := (H_k1.out 8 _ rfl).at
  have y9 := (H_k1.out 9 _ rfl).at
  have y10 := (H_k1.out 10 _ rfl).at
  have y11 := (H_k1.out 11 _ rfl).at
  have ly1 := (H_k1.out 0 _ rfl).lt
  go_wp2_with fail
  (with_reducible refine (H_q2.out _ ?_).mono ?_)
  · exact H_bb1.out.trans ((show Below w1.heap.size w1 _ from belt).mono H_bb1.out.size)
  rintro e w2 ⟨rfl, b2⟩
  have c2 : Below w1.heap.size w1 w2 := Below.trans belt (b2.mono omh)
  have s2 := c2.size
  have bb2 := H_bb1.out.trans (c2.mono H_bb1.out.size)
  have k2 := H_k1.out.below c2
  have g2 := H_g1.out.below c2
  have r2 := H_r1.out.below c2
  have H_b2 := Lib.hid b2; clear b2; have H_c2 := Lib.hid c2; clear c2; have H_bb2 := Lib.hid bb2; clear bb2; have H_k2 := Lib.hid k2; clear k2; have H_g2 := Lib.hid g2; clear g2; have H_r2 := Lib.hid r2; clear r2
  clear y0 y1 y2 y3 y4 y5 y6 y7 y8 y9 y10 y11
  have z0 := (H_g2.out 0 _ rfl).at
  have z1 := (H_g2.out 1 _ rfl).at
  have z2 := (H_g2.out 2 _ rfl).at
  have z3 := (H_g2.out 3 _ rfl).at
  have z4 := (H_g2.out 4 _ rfl).at
  have z5 := (H_g2.out 5 _ rfl).at
  have z6 := (H_g2.out 6 _ rfl).at
  have z7 := (H_g2.out 7 _ rfl).at
  have z8 := (H_g2.out 8 _ rfl).at
  go_wp2_with fail
  (with_reducible refine (H_q3.out _).mono ?_)
  rintro e w3 ⟨rfl, b3⟩
  have c3 : Below w2.heap.size w2 w3 := Below.trans belt (b3.mono omh)
  have s3 := c3.size
  have bb3 := H_bb2.out.trans (c3.mono H_bb2.out.size)
  have k3 := H_k2.out.below c3
  have g3 := H_g2.out.below c3
  have r3 := H_r2.out.below c3
  have H_b3 := Lib.hid b3; clear b3; have H_c3 := Lib.hid c3; clear c3; have H_bb3 := Lib.hid bb3; clear bb3; have H_k3 := Lib.hid k3; clear k3; have H_g3 := Lib.hid g3; clear g3; have H_r3 := Lib.hid r3; clear r3
  clear z0 z1 z2 z3 z4 z5 z6 z7 z8
  have y0 := (H_k3.out 0 _ rfl).at
  have y1 := (H_k3.out 1 _ rfl).at
  have y2 := (H_k3.out 2 _ rfl).at
  have y3 := (H_k3.out 3 _ rfl).at
  have y4 := (H_k3.out 4 _ rfl).at
  have y5 := (H_k3.out 5 _ rfl).at
  have y6 := (H_k3.out 6 _ rfl).at
  have y7 := (H_k3.out 7 _ rfl).at
  have y8 := (H_k3.out 8 _ rfl).at
  have y9 := (H_k3.out 9 _ rfl).at
  have y10 := (H_k3.out 10 _ rfl).at
  have y11 := (H_k3.out 11 _ rfl).at
  have z0 := (H_g3.out 0 _ rfl).at
  have z1 := (H_g3.out 1 _ rfl).at
  have z2 := (H_g3.out 2 _ rfl).at
  have z3 := (H_g3.out 3 _ rfl).at
  have z4 := (H_g3.out 4 _ rfl).at
  have z5 := (H_g3.out 5 _ rfl).at
  have z6 := (H_g3.out 6 _ rfl).at
  have z7 := (H_g3.out 7 _ rfl).at
  have z8 := (H_g3.out 8 _ rfl).at
  go_wp2_with fail
  (with_reducible refine (H_q4.out _ ?_).mono ?_)
  · exact H_bb3.out.trans ((show Below w3.heap.size w3 _ from belt).mono H_bb3.out.size)
  rintro e w4 ⟨rfl, b4⟩
  have c4 : Below w3.heap.size w3 w4 := Below.trans belt (b4.mono omh)
  have s4 := c4.size
  have bb4 := H_bb3.out.trans (c4.mono H_bb3.out.size)
  have k4 := H_k3.out.below c4
  have g4 := H_g3.out.below c4
  have r4 := H_r3.out.below c4
  have H_b4 := Lib.hid b4; clear b4; have H_c4 := Lib.hid c4; clear c4; have H_bb4 := Lib.hid bb4; clear bb4; have H_k4 := Lib.hid k4; clear k4; have H_g4 := Lib.hid g4; clear g4; have H_r4 := Lib.hid r4; clear r4
  clear y0 y1 y2 y3 y4 y5 y6 y7 y8 y9 y10 y11
  clear z0 z1 z2 z3 z4 z5 z6 z7 z8
  have y0 := (H_k4.out 0 _ rfl).at
  have y1 := (H_k4.out 1 _ rfl).at
  have y2 := (H_k4.out 2 _ rfl).at
  have y3 := (H_k4.out 3 _ rfl).at
  have y4 := (H_k4.out 4 _ rfl).at
  have y5 := (H_k4.out 5 _ rfl).at
  have y6 := (H_k4.out 6 _ rfl).at
  have y7 := (H_k4.out 7 _ rfl).at
  have y8 := (H_k4.out 8 _ rfl).at
  have y9 := (H_k4.out 9 _ rfl).at
  have y10 := (H_k4.out 10 _ rfl).at
  have y11 := (H_k4.out 11 _ rfl).at
  have z0 := (H_g4.out 0 _ rfl).at
  have z1 := (H_g4.out 1 _ rfl).at
  have z2 := (H_g4.out 2 _ rfl).at
  have z3 := (H_g4.out 3 _ rfl).at
  have z4 := (H_g4.out 4 _ rfl).at
  have z5 := (H_g4.out 5 _ rfl).at
  have z6 := (H_g4.out 6 _ rfl).at
  have z7 := (H_g4.out 7 _ rfl).at
  have z8 := (H_g4.out 8 _ rfl).at
  have ly4 := (H_k4.out 0 _ rfl).lt
  have lz4 := (H_g4.out 0 _ rfl).lt
  have d4 : Blk (w4.alloc (.cells #[.int .i64 ld, .int .i64 lk, .int .i64 lr, .int .i64 lx.s, .int .i64 lx.c, .slice A lx.l.length p, .int .u64 lx.u, .int .i64 ly.s, .int .i64 ly.c, .slice B ly.l.length q, .int .u64 ly.u, .bool true] 103)) w4.heap.size #[.int .i64 ld, .int .i64 lk, .int .i64 lr, .int .i64 lx.s, .int .i64 lx.c, .slice A lx.l.length p, .int .u64 lx.u, .int .i64 ly.s, .int .i64 ly.c, .slice B ly.l.length q, .int .u64 ly.u, .bool true] := blk_new rfl
  go_wp2_with fail
  (with_reducible refine (H_q5.out _ ?_).mono ?_)
  · exact H_bb4.out.trans ((show Below w4.heap.size w4 _ from belt).mono H_bb4.out.size)
  rintro e w5 ⟨rfl, b5⟩
  have c5 : Below w4.heap.size w4 w5 := Below.trans belt (b5.mono omh)
  have s5 := c5.size
  have bb5 := H_bb4.out.trans (c5.mono H_bb4.out.size)
  have k5 := H_k4.out.below c5
  have g5 := H_g4.out.below c5
  have r5 := H_r4.out.below c5
  have H_b5 := Lib.hid b5; clear b5; have H_c5 := Lib.hid c5; clear c5; have H_bb5 := Lib.hid bb5; clear bb5; have H_k5 := Lib.hid k5; clear k5; have H_g5 := Lib.hid g5; clear g5; have H_r5 := Lib.hid r5; clear r5
  have d5 := d4.below H_b5.out
  clear d4
  have H_d5 := Lib.hid d5; clear d5
  clear y0 y1 y2 y3 y4 y5 y6 y7 y8 y9 y10 y11
  clear z0 z1 z2 z3 z4 z5 z6 z7 z8
  have x0 := (H_r5.out 0 _ rfl).at
  have x1 := (H_r5.out 1 _ rfl).at
  have x2 := (H_r5.out 2 _ rfl).at
  have x3 := (H_r5.out 3 _ rfl).at
  have x4 := (H_r5.out 4 _ rfl).at
  have x5 := (H_r5.out 5 _ rfl).at
  have x6 := (H_r5.out 6 _ rfl).at
  have x7 := (H_r5.out 7 _ rfl).at
  have x8 := (H_r5.out 8 _ rfl).at
  have x9 := (H_r5.out 9 _ rfl).at
  have x10 := (H_r5.out 10 _ rfl).at
  have x11 := (H_r5.out 11 _ rfl).at
  have lx5 := (H_r5.out 0 _ rfl).lt
  have sz5 := H_bb5.out.size
  have f0 := (H_r5.out 0 _ rfl).free
  have f1 := (H_r5.out 1 _ rfl).free
  have f2 := (H_r5.out 2 _ rfl).free
  have f3 := (H_r5.out 3 _ rfl).free
  have f4 := (H_r5.out 4 _ rfl).free
  have f5 := (H_r5.out 5 _ rfl).free
  have f6 := (H_r5.out 6 _ rfl).free
  have f7 := (H_r5.out 7 _ rfl).free
  have f8 := (H_r5.out 8 _ rfl).free
  have f9 := (H_r5.out 9 _ rfl).free
  have f10 := (H_r5.out 10 _ rfl).free
  have f11 := (H_r5.out 11 _ rfl).free
  have be : Below w.heap.size w (putL (w5) (w.heap.size + 1 + 1) 0 [.int .i64 0, .int .i64 0, .int .i64 0, .int .i64 0, .int .i64 0, .slice none 0 0, .int .u64 0, .int .i64 0, .int .i64 0, .slice none 0 0, .int .u64 0, .bool false]) := putL_below (by omega) _ _ _ H_bb5.out
  simp only [putL, Nat.reduceAdd] at be
  have H_be := Lib.hid be; clear be
  go_wp2_with fail
  refine bodyPost_ret (v := .tuple #[.agg #[.int .i64 0, .int .i64 0, .int .i64 0, .int .i64 0, .int .i64 0, .slice none 0 0, .int .u64 0, .int .i64 0, .int .i64 0, .slice none 0 0, .int .u64 0, .bool false], .bool false, .int .i64 50]) (by simp [results, Tryd.results26, go_sem, *]) rfl (showErr_zero H_be.out)
end Go.Proofs.YtoehobaigfmnpaaDoor

/- Keeps, the helpers of innkeeperlaw37: kept, guest, right. -/
import Derived.Test.YtoehobaigfmnpaaDoorMr24
import Derived.Test.YtoehobaigfmnpaaDoorMr45
namespace Go.Proofs.YtoehobaigfmnpaaDoor
set_option linter.unusedSimpArgs false
set_option linter.unusedVariables false
set_option maxRecDepth 100000
open Go.RowKit
set_option maxHeartbeats 4000000 in
theorem rlkeeps_any (l : Lk) (A : Option Addr) (n p : Nat) (B : Option Addr) (m q : Nat) (w : World) (hx : SlotIs w A n l.x) (hy : SlotIs w B m l.y) :
    Calls Tryd.prog 30 #[.agg (l.cells A n p B m q).toArray] w fun e w' => e = .returned (.agg (if bestI l.x l.y = 1 then #[.int .i64 l.y.s, .int .i64 l.y.c, .slice B m q, .int .u64 l.y.u] else #[.int .i64 l.x.s, .int .i64 l.x.c, .slice A n p, .int .u64 l.x.u])) ∧ Below w.heap.size w w' := by
  obtain ⟨w0, hw0⟩ : ∃ W, (w.alloc (.cells (l.cells A n p B m q).toArray 55)).alloc (.cells #[.int .i64 0, .int .i64 0, .slice none 0 0, .int .u64 0] 52) = W := ⟨_, rfl⟩
  have bb0 : Below w.heap.size w w0 := by rw [← hw0]; exact ((Below.refl _ _).alloc (Nat.le_refl _) _).alloc (by simp) _
  have k0 : Blk w0 w.heap.size (l.cells A n p B m q).toArray := by rw [← hw0]; exact (blk_new rfl).alloc _
  have g0 : Blk w0 (w.heap.size + 1) #[.int .i64 0, .int .i64 0, .slice none 0 0, .int .u64 0] := by rw [← hw0]; exact blk_new (by simp)
  have q1 := rbest_any l.x l.y A n p B m q w0 (hx.below bb0) (hy.below bb0)
  have hI := best01 l.x l.y
  generalize bestI l.x l.y = I at *
  generalize bestB l.x l.y = T at *
  unfold Lk.cells at k0 hw0 ⊢
  have H_bb0 := Lib.hid bb0; clear bb0; have H_k0 := Lib.hid k0; clear k0; have H_g0 := Lib.hid g0; clear g0; have H_hw0 := Lib.hid hw0; clear hw0; have H_q1 := Lib.hid q1; clear q1; have H_hx := Lib.hid hx; clear hx; have H_hy := Lib.hid hy; clear hy
  go_enter Tryd.func30, Tryd.ntmps30
  go_wp2_with fail
  rw [H_hw0.out]
  have y0 := (H_k0.out 0 _ rfl).at
  have y1 := (H_k0.out 1 _ rfl).at
  have y2 := (H_k0.out 2 _ rfl).at
  have y3 := (H_k0.out 3 _ rfl).at
  have y4 := (H_k0.out 4 _ rfl).at
  have y5 := (H_k0.out 5 _ rfl).at
  have y6 := (H_k0.out 6 _ rfl).at
  have y7 := (H_k0.out 7 _ rfl).at
  have y8 := (H_k0.out 8 _ rfl).at
  have y9 := (H_k0.out 9 _ rfl).at
  have y10 := (H_k0.out 10 _ rfl).at
  have y11 := (H_k0.out 11 _ rfl).at
  go_wp2_with fail
  (with_reducible refine (H_q1.out).mono ?_)
  rintro e w1 ⟨rfl, b1⟩
  have c1 : Below w0.heap.size w0 w1 := Below.trans belt (b1.mono omh)
  have s1 := c1.size
  have bb1 := H_bb0.out.trans (c1.mono H_bb0.out.size)
  have k1 := H_k0.out.below c1
  have g1 := H_g0.out.below c1
  have H_b1 := Lib.hid b1; clear b1; have H_c1 := Lib.hid c1; clear c1; have H_bb1 := Lib.hid bb1; clear bb1; have H_k1 := Lib.hid k1; clear k1; have H_g1 := Lib.hid g1; clear g1
  clear y0 y1 y2 y3 y4 y5 y6 y7 y8 y9 y10 y11
  have y0 := (H_k1.out 0 _ rfl).at
  have y1 := (H_k1.out 1 _ rfl).at
  have y2 := (H_k1.out 2 _ rfl).at
  have y3 := (H_k1.out 3 _ rfl).at
  have y4 := (H_k1.out 4 _ rfl).at
  have y5 := (H_k1.out 5 _ rfl).at
  have y6 := (H_k1.out 6 _ rfl).at
  have y7 := (H_k1.out 7 _ rfl).at
  have y8 := (H_k1.out 8 _ rfl).at
  have y9 := (H_k1.out 9 _ rfl).at
  have y10 := (H_k1.out 10 _ rfl).at
  have y11 := (H_k1.out 11 _ rfl).at
  have z0 := (H_g1.out 0 _ rfl).at
  have z1 := (H_g1.out 1 _ rfl).at
  have z2 := (H_g1.out 2 _ rfl).at
  have z3 := (H_g1.out 3 _ rfl).at
  have f0 := (H_g1.out 0 _ rfl).free
  have f1 := (H_g1.out 1 _ rfl).free
  have f2 := (H_g1.out 2 _ rfl).free
  have f3 := (H_g1.out 3 _ rfl).free
  have ly := (H_k1.out 0 _ rfl).lt
  have lz := (H_g1.out 0 _ rfl).lt
  rcases hI with rfl | rfl
  · have b2 : Below w.heap.size w (putL w1 (w.heap.size + 1) 0 [.int .i64 l.x.s, .int .i64 l.x.c, .slice A n p, .int .u64 l.x.u]) := putL_below (by omega) _ _ _ H_bb1.out
    simp only [putL, Nat.reduceAdd] at b2
    have H_b2 := Lib.hid b2; clear b2
    go_wp2_with fail
    refine bodyPost_ret (v := .agg #[.int .i64 l.x.s, .int .i64 l.x.c, .slice A n p, .int .u64 l.x.u]) (by simp [results, Tryd.results30, go_sem, *]) rfl ⟨rfl, H_b2.out⟩
  · have b2 : Below w.heap.size w (putL w1 (w.heap.size + 1) 0 [.int .i64 l.y.s, .int .i64 l.y.c, .slice B m q, .int .u64 l.y.u]) := putL_below (by omega) _ _ _ H_bb1.out
    simp only [putL, Nat.reduceAdd] at b2
    have H_b2 := Lib.hid b2; clear b2
    go_wp2_with fail
    refine bodyPost_ret (v := .agg #[.int .i64 l.y.s, .int .i64 l.y.c, .slice B m q, .int .u64 l.y.u]) (by simp [results, Tryd.results30, go_sem, *]) rfl ⟨rfl, H_b2.out⟩
/-- Keeps, one slot -/
theorem rlkeeps_as (l : Lk) (A : Option Addr) (n p : Nat) (B : Option Addr) (m q : Nat) (w : World) (hx : SlotIs w A n l.x) (hy : SlotIs w B m l.y) :
    ∃ K t, SlotIs w K (keepS l).l.length (keepS l) ∧ ∀ W, Below w.heap.size w W → Calls Tryd.prog 30 #[.agg (l.cells A n p B m q).toArray] W fun e w' => e = .returned (.agg #[.int .i64 (keepS l).s, .int .i64 (keepS l).c, .slice K (keepS l).l.length t, .int .u64 (keepS l).u]) ∧ Below W.heap.size W w' := by
  have hn := hx.len
  have hm := hy.len
  subst hn hm
  by_cases h : bestI l.x l.y = 1
  · have e : keepS l = l.y := by rw [keepS, if_pos h]
    rw [e]
    refine ⟨B, q, hy, fun W hW => ?_⟩
    have := rlkeeps_any l A _ p B _ q W (hx.below hW) (hy.below hW)
    rw [if_pos h] at this
    exact this
  · have e : keepS l = l.x := by rw [keepS, if_neg h]
    rw [e]
    refine ⟨A, p, hx, fun W hW => ?_⟩
    have := rlkeeps_any l A _ p B _ q W (hx.below hW) (hy.below hW)
    rw [if_neg h] at this
    exact this
set_option maxHeartbeats 4000000 in
theorem lkept_any (l : Lk) (A : Option Addr) (n p : Nat) (B : Option Addr) (m q : Nat) (w : World) (hx : SlotIs w A n l.x) (hy : SlotIs w B m l.y) :
    Calls Tryd.prog 51 #[.agg (l.cells A n p B m q).toArray] w fun e w' => e = .returned (.int .i64 (keepS l).c) ∧ Below w.heap.size w w' := by
  obtain ⟨w0, hw0⟩ : ∃ W, w.alloc (.cells (l.cells A n p B m q).toArray 55) = W := ⟨_, rfl⟩
  have bb0 : Below w.heap.size w w0 := by rw [← hw0]; exact (Below.refl _ _).alloc (Nat.le_refl _) _
  have k0 : Blk w0 w.heap.size (l.cells A n p B m q).toArray := by rw [← hw0]; exact blk_new rfl
  obtain ⟨K, t, _, q1⟩ := rlkeeps_as l A n p B m q w hx hy
  generalize keepS l = s at *
  unfold Lk.cells at k0 hw0 q1 ⊢
  have hfd : ∀ W : World, (Instr.field 52 (.agg #[.int .i64 s.s, .int .i64 s.c, .slice K s.l.length t, .int .u64 s.u]) 1).run Tryd.prog W = .ok (.int .i64 s.c) W := fun _ => by kernel_rfl
  have H_bb0 := Lib.hid bb0; clear bb0; have H_k0 := Lib.hid k0; clear k0; have H_hw0 := Lib.hid hw0; clear hw0; have H_q1 := Lib.hid q1; clear q1; have H_hx := Lib.hid hx; clear hx; have H_hy := Lib.hid hy; clear hy
  go_enter Tryd.func51, Tryd.ntmps51
  go_wp2_with fail
  rw [H_hw0.out]
  have y0 := (H_k0.out 0 _ rfl).at
  have y1 := (H_k0.out 1 _ rfl).at
  have y2 := (H_k0.out 2 _ rfl).at
  have y3 := (H_k0.out 3 _ rfl).at
  have y4 := (H_k0.out 4 _ rfl).at
  have y5 := (H_k0.out 5 _ rfl).at
  have y6 := (H_k0.out 6 _ rfl).at
  have y7 := (H_k0.out 7 _ rfl).at
  have y8 := (H_k0.out 8 _ rfl).at
  have y9 := (H_k0.out 9 _ rfl).at
  have y10 := (H_k0.out 10 _ rfl).at
  have y11 := (H_k0.out 11 _ rfl).at
  go_wp2_with fail
  (with_reducible refine (H_q1.out _ ?_).mono ?_)
  · exact H_bb0.out
  rintro e w1 ⟨rfl, b1⟩
  have c1 : Below w0.heap.size w0 w1 := Below.trans belt (b1.mono omh)
  have s1 := c1.size
  have bb1 := H_bb0.out.trans (c1.mono H_bb0.out.size)
  have H_b1 := Lib.hid b1; clear b1; have H_c1 := Lib.hid c1; clear c1; have H_bb1 := Lib.hid bb1; clear bb1
  clear y0 y1 y2 y3 y4 y5 y6 y7 y8 y9 y10 y11
  go_wp2_with fail
  go_ret
  exact ⟨rfl, H_bb1.out⟩
set_option maxHeartbeats 4000000 in
theorem lguest37_any (id n : Int) (h1 : 1 ≤ id ∧ id ≤ 1000000) (h2 : 1 ≤ n ∧ n ≤ 1000000000) (w : World) (ht : Tab w) :
    Calls Tryd.prog 49 #[.int .i64 id, .int .i64 n] w fun e w' => e = .returned (.tuple #[.agg (hcd id n).cells.toArray, .bool true]) ∧ Below w.heap.size w w' := by
  obtain ⟨w0, hw0⟩ : ∃ W, w.alloc (.cells #[.int .i64 0, .int .i64 0, .int .i64 0, .int .i64 0, .int .i64 0, .int .i64 0, .int .i64 0, .int .i64 0, .int .i64 0] 31) = W := ⟨_, rfl⟩
  have bb0 : Below w.heap.size w w0 := by rw [← hw0]; exact (Below.refl _ _).alloc (Nat.le_refl _) _
  have g0 : Blk w0 w.heap.size #[.int .i64 0, .int .i64 0, .int .i64 0, .int .i64 0, .int .i64 0, .int .i64 0, .int .i64 0, .int .i64 0, .int .i64 0] := by rw [← hw0]; exact blk_new rfl
  have q1 := cmake_any (gst id 12 n) 5 7 (gst_fit (by omega) (by omega) (by omega)) w0 (ht.below bb0)
  have e1 : mkdE (gst id 12 n) 5 7 = 0 := by rw [mkdE, if_pos (hcd_may h1 h2)]
  rw [e1] at q1
  unfold hcd
  generalize mkdC (gst id 12 n) 5 7 = C at *
  unfold Crd.cells at q1 ⊢
  simp only [gst] at q1
  clear e1
  have H_bb0 := Lib.hid bb0; clear bb0; have H_g0 := Lib.hid g0; clear g0; have H_hw0 := Lib.hid hw0; clear hw0; have H_q1 := Lib.hid q1; clear q1; have H_ht := Lib.hid ht; clear ht; have H_h1 := Lib.hid h1; clear h1; have H_h2 := Lib.hid h2; clear h2
  go_enter Tryd.func49, Tryd.ntmps49
  go_wp2_with fail
  rw [H_hw0.out]
  go_wp2_with fail
  (with_reducible refine (H_q1.out).mono ?_)
  rintro e w1 ⟨rfl, b1⟩
  have c1 : Below w0.heap.size w0 w1 := Below.trans belt (b1.mono omh)
  have s1 := c1.size
  have bb1 := H_bb0.out.trans (c1.mono H_bb0.out.size)
  have g1 := H_g0.out.below c1
  have H_b1 := Lib.hid b1; clear b1; have H_c1 := Lib.hid c1; clear c1; have H_bb1 := Lib.hid bb1; clear bb1; have H_g1 := Lib.hid g1; clear g1
  have z0 := (H_g1.out 0 _ rfl).at
  have z1 := (H_g1.out 1 _ rfl).at
  have z2 := (H_g1.out 2 _ rfl).at
  have z3 := (H_g1.out 3 _ rfl).at
  have z4 := (H_g1.out 4 _ rfl).at
  have z5 := (H_g1.out 5 _ rfl).at
  have z6 := (H_g1.out 6 _ rfl).at
  have z7 := (H_g1.out 7 _ rfl).at
  have z8 := (H_g1.out 8 _ rfl).at
  have f0 := (H_g1.out 0 _ rfl).free
  have f1 := (H_g1.out 1 _ rfl).free
  have f2 := (H_g1.out 2 _ rfl).free
  have f3 := (H_g1.out 3 _ rfl).free
  have f4 := (H_g1.out 4 _ rfl).free
  have f5 := (H_g1.out 5 _ rfl).free
  have f6 := (H_g1.out 6 _ rfl).free
  have f7 := (H_g1.out 7 _ rfl).free
  have f8 := (H_g1.out 8 _ rfl).free
  have lz := (H_g1.out 0 _ rfl).lt
  have b2 : Below w.heap.size w ((putL w1 w.heap.size 0 [.int .i64 C.i, .int .i64 C.k, .int .i64 C.d, .int .i64 C.n, .int .i64 C.f, .int .i64 C.u, .int .i64 C.l, .int .i64 C.e, .int .i64 C.s]).alloc (.cells #[.int .i64 C.i, .int .i64 C.k, .int .i64 C.d, .int .i64 C.n, .int .i64 C.f, .int .i64 C.u, .int .i64 C.l, .int .i64 C.e, .int .i64 C.s] 31)) := (putL_below (Nat.le_refl _) _ _ _ H_bb1.out).alloc (by rw [putL_size]; exact H_bb1.out.size) _
  simp only [putL, Nat.reduceAdd] at b2
  have H_b2 := Lib.hid b2; clear b2
  go_wp2_with fail
  refine bodyPost_ret (v := .tuple #[.agg #[.int .i64 C.i, .int .i64 C.k, .int .i64 C.d, .int .i64 C.n, .int .i64 C.f, .int .i64 C.u, .int .i64 C.l, .int .i64 C.e, .int .i64 C.s], .bool true]) (by simp [results, Tryd.results49, go_sem, *]) rfl ⟨rfl, H_b2.out⟩
/-- what the statements ask for first -/
def rgtB (l : Lk) (c : Crd) (t : Int) (n m : Nat) : Bool := len40B n && len40B m && lvB l && cvB c && timeB t
set_option maxHeartbeats 4000000 in
theorem lright_any (l : Lk) (c : Crd) (t : Int) (A : Option Addr) (n p : Nat) (B : Option Addr) (m q : Nat) (w : World) (hn : n ≤ 9223372036854775807) (hm : m ≤ 9223372036854775807) (hx : n ≤ 40 → SlotIs w A n l.x) (hy : m ≤ 40 → SlotIs w B m l.y) (hc : CFit c) :
    Calls Tryd.prog 25 #[.agg (l.cells A n p B m q).toArray, .agg c.cells.toArray, .int .i64 t] w fun e w' => e = .returned (.bool (rgtB l c t n m)) ∧ Below w.heap.size w w' := by
  obtain ⟨w0, hw0⟩ : ∃ W, (w.alloc (.cells (l.cells A n p B m q).toArray 55)).alloc (.cells c.cells.toArray 31) = W := ⟨_, rfl⟩
  have bb0 : Below w.heap.size w w0 := by rw [← hw0]; exact ((Below.refl _ _).alloc (Nat.le_refl _) _).alloc (by simp) _
  have k0 : Blk w0 w.heap.size (l.cells A n p B m q).toArray := by rw [← hw0]; exact (blk_new rfl).alloc _
  have g0 : Blk w0 (w.heap.size + 1) c.cells.toArray := by rw [← hw0]; exact blk_new (by simp)
  have q1 := rlfew_any l A n p B m q w0 hn hm
  have q2 := fun (h1 : n ≤ 40) (h2 : m ≤ 40) W (h : Below w.heap.size w W) => rlvalid_any l A n p B m q W ((hx h1).below h) ((hy h2).below h)
  have q3 := fun W => rcvalid_any c hc W
  have q4 := fun W => (rTime_any t W).mono belowPost
  have fin : rgtB l c t n m = (len40B n && len40B m && lvB l && cvB c && timeB t) := rfl
  have e40 : (len40B n && len40B m) = true → n ≤ 40 ∧ m ≤ 40 := by simp [len40B]
  generalize lvB l = V at *
  generalize cvB c = V2 at *
  generalize timeB t = V3 at *
  generalize rgtB l c t n m = R at *
  generalize (len40B n && len40B m) = F at *
  unfold Lk.cells at k0 hw0 q1 q2 ⊢
  unfold Crd.cells at g0 hw0 q3 ⊢
  cases F with
  | false =>
    simp only [Bool.false_and] at fin
    have H_bb0 := Lib.hid bb0; clear bb0; have H_k0 := Lib.hid k0; clear k0; have H_g0 := Lib.hid g0; clear g0; have H_hw0 := Lib.hid hw0; clear hw0; have H_q1 := Lib.hid q1; clear q1; have H_q2 := Lib.hid q2; clear q2; have H_q3 := Lib.hid q3; clear q3; have H_q4 := Lib.hid q4; clear q4; have H_fin := Lib.hid fin; clear fin; have H_hx := Lib.hid hx; clear hx; have H_hy := Lib.hid hy; clear hy; have H_hc := Lib.hid hc; clear hc; have H_e40 := Lib.hid e40; clear e40
    go_enter Tryd.func25, Tryd.ntmps25
    go_wp2_with fail
    rw [H_hw0.out]
    have y0 := (H_k0.out 0 _ rfl).at
    have y1 := (H_k0.out 1 _ rfl).at
    have y2 := (H_k0.out 2 _ rfl).at
    have y3 := (H_k0.out 3 _ rfl).at
    have y4 := (H_k0.out 4 _ rfl).at
    have y5 := (H_k0.out 5 _ rfl).at
    have y6 := (H_k0.out 6 _ rfl).at
    have y7 := (H_k0.out 7 _ rfl).at
    have y8 := (H_k0.out 8 _ rfl).at
    have y9 := (H_k0.out 9 _ rfl).at
    have y10 := (H_k0.out 10 _ rfl).at
    have y11 := (H_k0.out 11 _ rfl).at
    have ly := (H_k0.out 0 _ rfl).lt
    go_wp2_with fail
    (with_reducible refine (H_q1.out).mono ?_)
    rintro e w1 ⟨rfl, b1⟩
    have c1 : Below w0.heap.size w0 w1 := Below.trans belt (b1.mono omh)
    have s1 := c1.size
    have bb1 := H_bb0.out.trans (c1.mono H_bb0.out.size)
    have k1 := H_k0.out.below c1
    have g1 := H_g0.out.below c1
    have H_b1 := Lib.hid b1; clear b1; have H_c1 := Lib.hid c1; clear c1; have H_bb1 := Lib.hid bb1; clear bb1; have H_k1 := Lib.hid k1; clear k1; have H_g1 := Lib.hid g1; clear g1
    go_wp2_with fail
    go_ret
    exact ⟨ret_bool H_fin.out.symm, H_bb1.out⟩
  | true =>
    obtain ⟨h1, h2⟩ := e40 rfl
    have q2 := q2 h1 h2
    simp only [Bool.true_and] at fin
    cases V with
    | false =>
      simp only [Bool.false_and] at fin
      have H_bb0 := Lib.hid bb0; clear bb0; have H_k0 := Lib.hid k0; clear k0; have H_g0 := Lib.hid g0; clear g0; have H_hw0 := Lib.hid hw0; clear hw0; have H_q1 := Lib.hid q1; clear q1; have H_q2 := Lib.hid q2; clear q2; have H_q3 := Lib.hid q3; clear q3; have H_q4 := Lib.hid q4; clear q4; have H_fin := Lib.hid fin; clear fin; have H_hx := Lib.hid hx; clear hx; have H_hy := Lib.hid hy; clear hy; have H_hc := Lib.hid hc; clear hc; have H_e40 := Lib.hid e40; clear e40
      go_enter Tryd.func25, Tryd.ntmps25
      go_wp2_with fail
      rw [H_hw0.out]
      have y0 := (H_k0.out 0 _ rfl).at
      have y1 := (H_k0.out 1 _ rfl).at
      have y2 := (H_k0.out 2 _ rfl).at
      have y3 := (H_k0.out 3 _ rfl).at
      have y4 := (H_k0.out 4 _ rfl).at
      have y5 := (H_k0.out 5 _ rfl).at
      have y6 := (H_k0.out 6 _ rfl).at
      have y7 := (H_k0.out 7 _ rfl).at
      have y8 := (H_k0.out 8 _ rfl).at
      have y9 := (H_k0.out 9 _ rfl).at
      have y10 := (H_k0.out 10 _ rfl).at
      have y11 := (H_k0.out 11 _ rfl).at
      go_wp2_with fail
      (with_reducible refine (H_q1.out).mono ?_)
      rintro e w1 ⟨rfl, b1⟩
      have c1 : Below w0.heap.size w0 w1 := Below.trans belt (b1.mono omh)
      have s1 := c1.size
      have bb1 := H_bb0.out.trans (c1.mono H_bb0.out.size)
      have k1 := H_k0.out.below c1
      have g1 := H_g0.out.below c1
      have H_b1 := Lib.hid b1; clear b1; have H_c1 := Lib.hid c1; clear c1; have H_bb1 := Lib.hid bb1; clear bb1; have H_k1 := Lib.hid k1; clear k1; have H_g1 := Lib.hid g1; clear g1
      clear y0 y1 y2 y3 y4 y5 y6 y7 y8 y9 y10 y11
      have y0 := (H_k1.out 0 _ rfl).at
      have y1 := (H_k1.out 1 _ rfl).at
      have y2 := (H_k1.out 2 _ rfl).at
      have y3 := (H_k1.out 3 _ rfl).at
      have y4 := (H_k1.out 4 _ rfl).at
      have y5 := (H_k1.out 5 _ rfl).at
      have y6 := (H_k1.out 6 _ rfl).at
      have y7 := (H_k1.out 7 _ rfl).at
      have y8 := (H_k1.out 8 _ rfl).at
      have y9 := (H_k1.out 9 _ rfl).at
      have y10 := (H_k1.out 10 _ rfl).at
      have y11 := (H_k1.out 11 _ rfl).at
      go_wp2_with fail
      (with_reducible refine (H_q2.out _ ?_).mono ?_)
      · exact H_bb1.out
      rintro e w2 ⟨rfl, b2⟩
      have c2 : Below w1.heap.size w1 w2 := Below.trans belt (b2.mono omh)
      have s2 := c2.size
      have bb2 := H_bb1.out.trans (c2.mono H_bb1.out.size)
      have k2 := H_k1.out.below c2
      have g2 := H_g1.out.below c2
      have H_b2 := Lib.hid b2; clear b2; have H_c2 := Lib.hid c2; clear c2; have H_bb2 := Lib.hid bb2; clear bb2; have H_k2 := Lib.hid k2; clear k2; have H_g2 := Lib.hid g2; clear g2
      go_wp2_with fail
      go_ret
      exact ⟨ret_bool H_fin.out.symm, H_bb2.out⟩
    | true =>
      simp only [Bool.true_and] at fin
      cases V2 with
      | false =>
        simp only [Bool.false_and] at fin
        have H_bb0 := Lib.hid bb0; clear bb0; have H_k0 := Lib.hid k0; clear k0; have H_g0 := Lib.hid g0; clear g0; have H_hw0 := Lib.hid hw0; clear hw0; have H_q1 := Lib.hid q1; clear q1; have H_q2 := Lib.hid q2; clear q2; have H_q3 := Lib.hid q3; clear q3; have H_q4 := Lib.hid q4; clear q4; have H_fin := Lib.hid fin; clear fin; have H_hx := Lib.hid hx; clear hx; have H_hy := Lib.hid hy; clear hy; have H_hc := Lib.hid hc; clear hc; have H_e40 := Lib.hid e40; clear e40
        go_enter Tryd.func25, Tryd.ntmps25
        go_wp2_with fail
        rw [H_hw0.out]
        have y0 := (H_k0.out 0 _ rfl).at
        have y1 := (H_k0.out 1 _ rfl).at
        have y2 := (H_k0.out 2 _ rfl).at
        have y3 := (H_k0.out 3 _ rfl).at
        have y4 := (H_k0.out 4 _ rfl).at
        have y5 := (H_k0.out 5 _ rfl).at
        have y6 := (H_k0.out 6 _ rfl).at
        have y7 := (H_k0.out 7 _ rfl).at
        have y8 := (H_k0.out 8 _ rfl).at
        have y9 := (H_k0.out 9 _ rfl).at
        have y10 := (H_k0.out 10 _ rfl).at
        have y11 := (H_k0.out 11 _ rfl).at
        go_wp2_with fail
        (with_reducible refine (H_q1.out).mono ?_)
        rintro e w1 ⟨rfl, b1⟩
        have c1 : Below w0.heap.size w0 w1 := Below.trans belt (b1.mono omh)
        have s1 := c1.size
        have bb1 := H_bb0.out.trans (c1.mono H_bb0.out.size)
        have k1 := H_k0.out.below c1
        have g1 := H_g0.out.below c1
        have H_b1 := Lib.hid b1; clear b1; have H_c1 := Lib.hid c1; clear c1; have H_bb1 := Lib.hid bb1; clear bb1; have H_k1 := Lib.hid k1; clear k1; have H_g1 := Lib.hid g1; clear g1
        clear y0 y1 y2 y3 y4 y5 y6 y7 y8 y9 y10 y11
        have y0 := (H_k1.out 0 _ rfl).at
        have y1 := (H_k1.out 1 _ rfl).at
        have y2 := (H_k1.out 2 _ rfl).at
        have y3 := (H_k1.out 3 _ rfl).at
        have y4 := (H_k1.out 4 _ rfl).at
        have y5 := (H_k1.out 5 _ rfl).at
        have y6 := (H_k1.out 6 _ rfl).at
        have y7 := (H_k1.out 7 _ rfl).at
        have y8 := (H_k1.out 8 _ rfl).at
        have y9 := (H_k1.out 9 _ rfl).at
        have y10 := (H_k1.out 10 _ rfl).at
        have y11 := (H_k1.out 11 _ rfl).at
        go_wp2_with fail
        (with_reducible refine (H_q2.out _ ?_).mono ?_)
        · exact H_bb1.out
        rintro e w2 ⟨rfl, b2⟩
        have c2 : Below w1.heap.size w1 w2 := Below.trans belt (b2.mono omh)
        have s2 := c2.size
        have bb2 := H_bb1.out.trans (c2.mono H_bb1.out.size)
        have k2 := H_k1.out.below c2
        have g2 := H_g1.out.below c2
        have H_b2 := Lib.hid b2; clear b2; have H_c2 := Lib.hid c2; clear c2; have H_bb2 := Lib.hid bb2; clear bb2; have H_k2 := Lib.hid k2; clear k2; have H_g2 := Lib.hid g2; clear g2
        clear y0 y1 y2 y3 y4 y5 y6 y7 y8 y9 y10 y11
        have z0 := (H_g2.out 0 _ rfl).at
        have z1 := (H_g2.out 1 _ rfl).at
        have z2 := (H_g2.out 2 _ rfl).at
        have z3 := (H_g2.out 3 _ rfl).at
        have z4 := (H_g2.out 4 _ rfl).at
        have z5 := (H_g2.out 5 _ rfl).at
        have z6 := (H_g2.out 6 _ rfl).at
        have z7 := (H_g2.out 7 _ rfl).at
        have z8 := (H_g2.out 8 _ rfl).at
        go_wp2_with fail
        (with_reducible refine (H_q3.out _).mono ?_)
        rintro e w3 ⟨rfl, b3⟩
        have c3 : Below w2.heap.size w2 w3 := Below.trans belt (b3.mono omh)
        have s3 := c3.size
        have bb3 := H_bb2.out.trans (c3.mono H_bb2.out.size)
        have k3 := H_k2.out.below c3
        have g3 := H_g2.out.below c3
        have H_b3 := Lib.hid b3; clear b3; have H_c3 := Lib.hid c3; clear c3; have H_bb3 := Lib.hid bb3; clear bb3; have H_k3 := Lib.hid k3; clear k3; have H_g3 := Lib.hid g3; clear g3
        go_wp2_with fail
        go_ret
        exact ⟨ret_bool H_fin.out.symm, H_bb3.out⟩
      | true =>
        simp only [Bool.true_and] at fin
        have H_bb0 := Lib.hid bb0; clear bb0; have H_k0 := Lib.hid k0; clear k0; have H_g0 := Lib.hid g0; clear g0; have H_hw0 := Lib.hid hw0; clear hw0; have H_q1 := Lib.hid q1; clear q1; have H_q2 := Lib.hid q2; clear q2; have H_q3 := Lib.hid q3; clear q3; have H_q4 := Lib.hid q4; clear q4; have H_fin := Lib.hid fin; clear fin; have H_hx := Lib.hid hx; clear hx; have H_hy := Lib.hid hy; clear hy; have H_hc := Lib.hid hc; clear hc; have H_e40 := Lib.hid e40; clear e40
        go_enter Tryd.func25, Tryd.ntmps25
        go_wp2_with fail
        rw [H_hw0.out]
        have y0 := (H_k0.out 0 _ rfl).at
        have y1 := (H_k0.out 1 _ rfl).at
        have y2 := (H_k0.out 2 _ rfl).at
        have y3 := (H_k0.out 3 _ rfl).at
        have y4 := (H_k0.out 4 _ rfl).at
        have y5 := (H_k0.out 5 _ rfl).at
        have y6 := (H_k0.out 6 _ rfl).at
        have y7 := (H_k0.out 7 _ rfl).at
        have y8 := (H_k0.out 8 _ rfl).at
        have y9 := (H_k0.out 9 _ rfl).at
        have y10 := (H_k0.out 10 _ rfl).at
        have y11 := (H_k0.out 11 _ rfl).at
        go_wp2_with fail
        (with_reducible refine (H_q1.out).mono ?_)
        rintro e w1 ⟨rfl, b1⟩
        have c1 : Below w0.heap.size w0 w1 := Below.trans belt (b1.mono omh)
        have s1 := c1.size
        have bb1 := H_bb0.out.trans (c1.mono H_bb0.out.size)
        have k1 := H_k0.out.below c1
        have g1 := H_g0.out.below c1
        have H_b1 := Lib.hid b1; clear b1; have H_c1 := Lib.hid c1; clear c1; have H_bb1 := Lib.hid bb1; clear bb1; have H_k1 := Lib.hid k1; clear k1; have H_g1 := Lib.hid g1; clear g1
        clear y0 y1 y2 y3 y4 y5 y6 y7 y8 y9 y10 y11
        have y0 := (H_k1.out 0 _ rfl).at
        have y1 := (H_k1.out 1 _ rfl).at
        have y2 := (H_k1.out 2 _ rfl).at
        have y3 := (H_k1.out 3 _ rfl).at
        have y4 := (H_k1.out 4 _ rfl).at
        have y5 := (H_k1.out 5 _ rfl).at
        have y6 := (H_k1.out 6 _ rfl).at
        have y7 := (H_k1.out 7 _ rfl).at
        have y8 := (H_k1.out 8 _ rfl).at
        have y9 := (H_k1.out 9 _ rfl).at
        have y10 := (H_k1.out 10 _ rfl).at
        have y11 := (H_k1.out 11 _ rfl).at
        go_wp2_with fail
        (with_reducible refine (H_q2.out _ ?_).mono ?_)
        · exact H_bb1.out
        rintro e w2 ⟨rfl, b2⟩
        have c2 : Below w1.heap.size w1 w2 := Below.trans belt (b2.mono omh)
        have s2 := c2.size
        have bb2 := H_bb1.out.trans (c2.mono H_bb1.out.size)
        have k2 := H_k1.out.below c2
        have g2 := H_g1.out.below c2
        have H_b2 := Lib.hid b2; clear b2; have H_c2 := Lib.hid c2; clear c2; have H_bb2 := Lib.hid bb2; clear bb2; have H_k2 := Lib.hid k2; clear k2; have H_g2 := Lib.hid g2; clear g2
        clear y0 y1 y2 y3 y4 y5 y6 y7 y8 y9 y10 y11
        have z0 := (H_g2.out 0 _ rfl).at
        have z1 := (H_g2.out 1 _ rfl).at
        have z2 := (H_g2.out 2 _ rfl).at
        have z3 := (H_g2.out 3 _ rfl).at
        have z4 := (H_g2.out 4 _ rfl).at
        have z5 := (H_g2.out 5 _ rfl).at
        have z6 := (H_g2.out 6 _ rfl).at
        have z7 := (H_g2.out 7 _ rfl).at
        have z8 := (H_g2.out 8 _ rfl).at
        go_wp2_with fail
        (with_reducible refine (H_q3.out _).mono ?_)
        rintro e w3 ⟨rfl, b3⟩
        have c3 : Below w2.heap.size w2 w3 := Below.trans belt (b3.mono omh)
        have s3 := c3.size
        have bb3 := H_bb2.out.trans (c3.mono H_bb2.out.size)
        have k3 := H_k2.out.below c3
        have g3 := H_g2.out.below c3
        have H_b3 := Lib.hid b3; clear b3; have H_c3 := Lib.hid c3; clear c3; have H_bb3 := Lib.hid bb3; clear bb3; have H_k3 := Lib.hid k3; clear k3; have H_g3 := Lib.hid g3; clear g3
        clear z0 z1 z2 z3 z4 z5 z6 z7 z8
        go_wp2_with fail
        (with_reducible refine (H_q4.out _).mono ?_)
        rintro e w4 ⟨rfl, b4⟩
        have c4 : Below w3.heap.size w3 w4 := Below.trans belt (b4.mono omh)
        have s4 := c4.size
        have bb4 := H_bb3.out.trans (c4.mono H_bb3.out.size)
        have H_b4 := Lib.hid b4; clear b4; have H_c4 := Lib.hid c4; clear c4; have H_bb4 := Lib.hid bb4; clear bb4
        go_wp2_with fail
        go_ret
        exact ⟨ret_bool H_fin.out.symm, H_bb4.out⟩
end Go.Proofs.YtoehobaigfmnpaaDoor

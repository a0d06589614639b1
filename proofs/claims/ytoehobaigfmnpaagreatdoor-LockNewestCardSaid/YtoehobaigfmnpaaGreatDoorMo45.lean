/- Keeps, the helpers of innkeeperlaw37: kept, guest, right. -/
import Derived.Test.YtoehobaigfmnpaaGreatDoorMo24
import Derived.Test.YtoehobaigfmnpaaGreatDoorMo44
namespace Go.Proofs.YtoehobaigfmnpaaGreatDoor
set_option linter.unusedSimpArgs false
set_option linter.unusedVariables false
set_option maxRecDepth 100000
open Go.RowKit
set_option maxHeartbeats 4000000 in
theorem rlkeeps_any (l : Lk) (A : Option Addr) (n p : Nat) (B : Option Addr) (m q : Nat) (w : World) (hx : SlotIs w A n l.x) (hy : SlotIs w B m l.y) :
    Calls Tryz.prog 39 #[.agg (l.cells A n p B m q).toArray] w fun e w' => e = .returned (.agg (if bestI l.x l.y = 1 then #[.int .i64 l.y.s, .int .i64 l.y.c, .slice B m q, .int .u64 l.y.u] else #[.int .i64 l.x.s, .int .i64 l.x.c, .slice A n p, .int .u64 l.x.u])) ∧ Below w.heap.size w w' := by
  obtain ⟨w0, hw0⟩ : ∃ W, (w.alloc (.cells (l.cells A n p B m q).toArray 28)).alloc (.cells #[.int .i64 0, .int .i64 0, .slice none 0 0, .int .u64 0] 25) = W := ⟨_, rfl⟩
  have bb0 : Below w.heap.size w w0 := by rw [← hw0]; exact ((Below.refl _ _).alloc (Nat.le_refl _) _).alloc (by simp) _
  have k0 : Blk w0 w.heap.size (l.cells A n p B m q).toArray := by rw [← hw0]; exact (blk_new rfl).alloc _
  have g0 : Blk w0 (w.heap.size + 1) #[.int .i64 0, .int .i64 0, .slice none 0 0, .int .u64 0] := by rw [← hw0]; exact blk_new (by simp)
  have q1 := rbest_any l.x l.y A n p B m q w0 (hx.below bb0) (hy.below bb0)
  have hI := best01 l.x l.y
  generalize bestI l.x l.y = I at *
  generalize bestB l.x l.y = T at *
  unfold Lk.cells at k0 hw0 ⊢
  have ⟨H_bb0, H_k0, H_g0, H_hw0, H_q1, H_hx, H_hy⟩ := hid7 bb0 k0 g0 hw0 q1 hx hy; clear bb0 k0 g0 hw0 q1 hx hy
  go_enter Tryz.func39, Tryz.ntmps39
  go_wp2_with fail
  rw [H_hw0.out]
  obtain ⟨y0, y1, y2, y3, y4, y5, y6, y7, y8, y9, y10, y11⟩ := at12_of H_k0.out
  go_wp2_with fail
  (with_reducible refine (H_q1.out).mono ?_)
  rintro e w1 ⟨rfl, b1⟩
  have c1 : Below w0.heap.size w0 w1 := Below.trans belt (b1.mono omh)
  have s1 := c1.size
  have bb1 := H_bb0.out.trans (c1.mono H_bb0.out.size)
  have k1 := H_k0.out.below c1
  have g1 := H_g0.out.below c1
  have ⟨H_b1, H_c1, H_bb1, H_k1, H_g1⟩ := hid5 b1 c1 bb1 k1 g1; clear b1 c1 bb1 k1 g1
  clear y0 y1 y2 y3 y4 y5 y6 y7 y8 y9 y10 y11
  obtain ⟨y0, y1, y2, y3, y4, y5, y6, y7, y8, y9, y10, y11⟩ := at12_of H_k1.out
  obtain ⟨z0, z1, z2, z3⟩ := at4_of H_g1.out
  obtain ⟨f0, f1, f2, f3⟩ := free4_of H_g1.out
  have ly := (H_k1.out 0 _ rfl).lt
  have lz := (H_g1.out 0 _ rfl).lt
  rcases hI with rfl | rfl
  · have b2 : Below w.heap.size w (putL w1 (w.heap.size + 1) 0 [.int .i64 l.x.s, .int .i64 l.x.c, .slice A n p, .int .u64 l.x.u]) := putL_below (by omega) _ _ _ H_bb1.out
    simp only [putL, Nat.reduceAdd] at b2
    have H_b2 := Lib.hid b2; clear b2
    go_wp2_with fail
    refine bodyPost_ret (v := .agg #[.int .i64 l.x.s, .int .i64 l.x.c, .slice A n p, .int .u64 l.x.u]) (by simp [results, Tryz.results39, go_sem, *]) rfl ⟨rfl, H_b2.out⟩
  · have b2 : Below w.heap.size w (putL w1 (w.heap.size + 1) 0 [.int .i64 l.y.s, .int .i64 l.y.c, .slice B m q, .int .u64 l.y.u]) := putL_below (by omega) _ _ _ H_bb1.out
    simp only [putL, Nat.reduceAdd] at b2
    have H_b2 := Lib.hid b2; clear b2
    go_wp2_with fail
    refine bodyPost_ret (v := .agg #[.int .i64 l.y.s, .int .i64 l.y.c, .slice B m q, .int .u64 l.y.u]) (by simp [results, Tryz.results39, go_sem, *]) rfl ⟨rfl, H_b2.out⟩
/-- Keeps, one slot -/
theorem rlkeeps_as (l : Lk) (A : Option Addr) (n p : Nat) (B : Option Addr) (m q : Nat) (w : World) (hx : SlotIs w A n l.x) (hy : SlotIs w B m l.y) :
    ∃ K t, SlotIs w K (keepS l).l.length (keepS l) ∧ ∀ W, Below w.heap.size w W → Calls Tryz.prog 39 #[.agg (l.cells A n p B m q).toArray] W fun e w' => e = .returned (.agg #[.int .i64 (keepS l).s, .int .i64 (keepS l).c, .slice K (keepS l).l.length t, .int .u64 (keepS l).u]) ∧ Below W.heap.size W w' := by
  have hn := hx.len
  have hm := hy.len
  subst hn hm
  by_cases h : bestI l.x l.y = 1
  · have e : keepS l = l.y := by rw [keepS, if_pos h]
    rw [e]
    refine ⟨B, q, hy, fun W hW => ?_⟩
    have := rlkeeps_any l A _ p B _ q W (hx.below hW) (hy.below hW)
    rw [if_pos h] at this
    exact this
  · have e : keepS l = l.x := by rw [keepS, if_neg h]
    rw [e]
    refine ⟨A, p, hx, fun W hW => ?_⟩
    have := rlkeeps_any l A _ p B _ q W (hx.below hW) (hy.below hW)
    rw [if_neg h] at this
    exact this
set_option maxHeartbeats 4000000 in
theorem lkept_any (l : Lk) (A : Option Addr) (n p : Nat) (B : Option Addr) (m q : Nat) (w : World) (hx : SlotIs w A n l.x) (hy : SlotIs w B m l.y) :
    Calls Tryz.prog 20 #[.agg (l.cells A n p B m q).toArray] w fun e w' => e = .returned (.int .i64 (keepS l).c) ∧ Below w.heap.size w w' := by
  obtain ⟨w0, hw0⟩ : ∃ W, w.alloc (.cells (l.cells A n p B m q).toArray 28) = W := ⟨_, rfl⟩
  have bb0 : Below w.heap.size w w0 := by rw [← hw0]; exact (Below.refl _ _).alloc (Nat.le_refl _) _
  have k0 : Blk w0 w.heap.size (l.cells A n p B m q).toArray := by rw [← hw0]; exact blk_new rfl
  obtain ⟨K, t, _, q1⟩ := rlkeeps_as l A n p B m q w hx hy
  generalize keepS l = s at *
  unfold Lk.cells at k0 hw0 q1 ⊢
  have hfd : ∀ W : World, (Instr.field 25 (.agg #[.int .i64 s.s, .int .i64 s.c, .slice K s.l.length t, .int .u64 s.u]) 1).run Tryz.prog W = .ok (.int .i64 s.c) W := fun _ => by kernel_rfl
  have ⟨H_bb0, H_k0, H_hw0, H_q1, H_hx, H_hy⟩ := hid6 bb0 k0 hw0 q1 hx hy; clear bb0 k0 hw0 q1 hx hy
  go_enter Tryz.func20, Tryz.ntmps20
  go_wp2_with fail
  rw [H_hw0.out]
  obtain ⟨y0, y1, y2, y3, y4, y5, y6, y7, y8, y9, y10, y11⟩ := at12_of H_k0.out
  go_wp2_with fail
  (with_reducible refine (H_q1.out _ ?_).mono ?_)
  · exact H_bb0.out
  rintro e w1 ⟨rfl, b1⟩
  have c1 : Below w0.heap.size w0 w1 := Below.trans belt (b1.mono omh)
  have s1 := c1.size
  have bb1 := H_bb0.out.trans (c1.mono H_bb0.out.size)
  have ⟨H_b1, H_c1, H_bb1⟩ := hid3 b1 c1 bb1; clear b1 c1 bb1
  clear y0 y1 y2 y3 y4 y5 y6 y7 y8 y9 y10 y11
  go_wp2_with fail
  go_ret
  exact ⟨rfl, H_bb1.out⟩
set_option maxHeartbeats 4000000 in
theorem lguest37_any (id n : Int) (h1 : 1 ≤ id ∧ id ≤ 1000000) (h2 : 1 ≤ n ∧ n ≤ 1000000000) (w : World) (ht : Tab w) :
    Calls Tryz.prog 21 #[.int .i64 id, .int .i64 n] w fun e w' => e = .returned (.tuple #[.agg (hcd id n).cells.toArray, .bool true]) ∧ Below w.heap.size w w' := by
  obtain ⟨w0, hw0⟩ : ∃ W, w.alloc (.cells #[.int .i64 0, .int .i64 0, .int .i64 0, .int .i64 0, .int .i64 0, .int .i64 0, .int .i64 0, .int .i64 0, .int .i64 0] 32) = W := ⟨_, rfl⟩
  have bb0 : Below w.heap.size w w0 := by rw [← hw0]; exact (Below.refl _ _).alloc (Nat.le_refl _) _
  have g0 : Blk w0 w.heap.size #[.int .i64 0, .int .i64 0, .int .i64 0, .int .i64 0, .int .i64 0, .int .i64 0, .int .i64 0, .int .i64 0, .int .i64 0] := by rw [← hw0]; exact blk_new rfl
  have q1 := cmake_any (gst id 12 n) 5 7 (gst_fit (by omega) (by omega) (by omega)) w0 (ht.below bb0)
  have e1 : mkdE (gst id 12 n) 5 7 = 0 := by rw [mkdE, if_pos (hcd_may h1 h2)]
  rw [e1] at q1
  unfold hcd
  generalize mkdC (gst id 12 n) 5 7 = C at *
  unfold Crd.cells at q1 ⊢
  simp only [gst] at q1
  clear e1
  have ⟨H_bb0, H_g0, H_hw0, H_q1, H_ht, H_h1, H_h2⟩ := hid7 bb0 g0 hw0 q1 ht h1 h2; clear bb0 g0 hw0 q1 ht h1 h2
  go_enter Tryz.func21, Tryz.ntmps21
  go_wp2_with fail
  rw [H_hw0.out]
  go_wp2_with fail
  (with_reducible refine (H_q1.out).mono ?_)
  rintro e w1 ⟨rfl, b1⟩
  have c1 : Below w0.heap.size w0 w1 := Below.trans belt (b1.mono omh)
  have s1 := c1.size
  have bb1 := H_bb0.out.trans (c1.mono H_bb0.out.size)
  have g1 := H_g0.out.below c1
  have ⟨H_b1, H_c1, H_bb1, H_g1⟩ := hid4 b1 c1 bb1 g1; clear b1 c1 bb1 g1
  obtain ⟨z0, z1, z2, z3, z4, z5, z6, z7, z8⟩ := at9_of H_g1.out
  obtain ⟨f0, f1, f2, f3, f4, f5, f6, f7, f8⟩ := free9_of H_g1.out
  have lz := (H_g1.out 0 _ rfl).lt
  have b2 : Below w.heap.size w ((putL w1 w.heap.size 0 [.int .i64 C.i, .int .i64 C.k, .int .i64 C.d, .int .i64 C.n, .int .i64 C.f, .int .i64 C.u, .int .i64 C.l, .int .i64 C.e, .int .i64 C.s]).alloc (.cells #[.int .i64 C.i, .int .i64 C.k, .int .i64 C.d, .int .i64 C.n, .int .i64 C.f, .int .i64 C.u, .int .i64 C.l, .int .i64 C.e, .int .i64 C.s] 32)) := (putL_below (Nat.le_refl _) _ _ _ H_bb1.out).alloc (by rw [putL_size]; exact H_bb1.out.size) _
  simp only [putL, Nat.reduceAdd] at b2
  have H_b2 := Lib.hid b2; clear b2
  go_wp2_with fail
  refine bodyPost_ret (v := .tuple #[.agg #[.int .i64 C.i, .int .i64 C.k, .int .i64 C.d, .int .i64 C.n, .int .i64 C.f, .int .i64 C.u, .int .i64 C.l, .int .i64 C.e, .int .i64 C.s], .bool true]) (by simp [results, Tryz.results21, go_sem, *]) rfl ⟨rfl, H_b2.out⟩
/-- what the statements ask for first -/
def rgtB (l : Lk) (c : Crd) (t : Int) (n m : Nat) : Bool := len40B n && len40B m && lvB l && cvB c && timeB t
set_option maxHeartbeats 4000000 in
theorem lright_any (l : Lk) (c : Crd) (t : Int) (A : Option Addr) (n p : Nat) (B : Option Addr) (m q : Nat) (w : World) (hn : n ≤ 9223372036854775807) (hm : m ≤ 9223372036854775807) (hx : n ≤ 40 → SlotIs w A n l.x) (hy : m ≤ 40 → SlotIs w B m l.y) (hc : CFit c) :
    Calls Tryz.prog 17 #[.agg (l.cells A n p B m q).toArray, .agg c.cells.toArray, .int .i64 t] w fun e w' => e = .returned (.bool (rgtB l c t n m)) ∧ Below w.heap.size w w' := by
  obtain ⟨w0, hw0⟩ : ∃ W, (w.alloc (.cells (l.cells A n p B m q).toArray 28)).alloc (.cells c.cells.toArray 32) = W := ⟨_, rfl⟩
  have bb0 : Below w.heap.size w w0 := by rw [← hw0]; exact ((Below.refl _ _).alloc (Nat.le_refl _) _).alloc (by simp) _
  have k0 : Blk w0 w.heap.size (l.cells A n p B m q).toArray := by rw [← hw0]; exact (blk_new rfl).alloc _
  have g0 : Blk w0 (w.heap.size + 1) c.cells.toArray := by rw [← hw0]; exact blk_new (by simp)
  have q1 := rlfew_any l A n p B m q w0 hn hm
  have q2 := fun (h1 : n ≤ 40) (h2 : m ≤ 40) W (h : Below w.heap.size w W) => rlvalid_any l A n p B m q W ((hx h1).below h) ((hy h2).below h)
  have q3 := fun W => rcvalid_any c hc W
  have q4 := fun W => (rTime_any t W).mono belowPost
  have fin : rgtB l c t n m = (len40B n && len40B m && lvB l && cvB c && timeB t) := rfl
  have e40 : (len40B n && len40B m) = true → n ≤ 40 ∧ m ≤ 40 := by simp [len40B]
  generalize lvB l = V at *
  generalize cvB c = V2 at *
  generalize timeB t = V3 at *
  generalize rgtB l c t n m = R at *
  generalize (len40B n && len40B m) = F at *
  unfold Lk.cells at k0 hw0 q1 q2 ⊢
  unfold Crd.cells at g0 hw0 q3 ⊢
  cases F with
  | false =>
    simp only [Bool.false_and] at fin
    have ⟨H_bb0, H_k0, H_g0, H_hw0, H_q1, H_q2, H_q3, H_q4⟩ := hid8 bb0 k0 g0 hw0 q1 q2 q3 q4; clear bb0 k0 g0 hw0 q1 q2 q3 q4; have ⟨H_fin, H_hx, H_hy, H_hc, H_e40⟩ := hid5 fin hx hy hc e40; clear fin hx hy hc e40
    go_enter Tryz.func17, Tryz.ntmps17
    go_wp2_with fail
    rw [H_hw0.out]
    obtain ⟨y0, y1, y2, y3, y4, y5, y6, y7, y8, y9, y10, y11⟩ := at12_of H_k0.out
    have ly := (H_k0.out 0 _ rfl).lt
    go_wp2_with fail
    (with_reducible refine (H_q1.out).mono ?_)
    rintro e w1 ⟨rfl, b1⟩
    have c1 : Below w0.heap.size w0 w1 := Below.trans belt (b1.mono omh)
    have s1 := c1.size
    have bb1 := H_bb0.out.trans (c1.mono H_bb0.out.size)
    have k1 := H_k0.out.below c1
    have g1 := H_g0.out.below c1
    have ⟨H_b1, H_c1, H_bb1, H_k1, H_g1⟩ := hid5 b1 c1 bb1 k1 g1; clear b1 c1 bb1 k1 g1
    go_wp2_with fail
    go_ret
    exact ⟨ret_bool H_fin.out.symm, H_bb1.out⟩
  | true =>
    obtain ⟨h1, h2⟩ := e40 rfl
    have q2 := q2 h1 h2
    simp only [Bool.true_and] at fin
    cases V with
    | false =>
      simp only [Bool.false_and] at fin
      have ⟨H_bb0, H_k0, H_g0, H_hw0, H_q1, H_q2, H_q3, H_q4⟩ := hid8 bb0 k0 g0 hw0 q1 q2 q3 q4; clear bb0 k0 g0 hw0 q1 q2 q3 q4; have ⟨H_fin, H_hx, H_hy, H_hc, H_e40⟩ := hid5 fin hx hy hc e40; clear fin hx hy hc e40
      go_enter Tryz.func17, Tryz.ntmps17
      go_wp2_with fail
      rw [H_hw0.out]
      obtain ⟨y0, y1, y2, y3, y4, y5, y6, y7, y8, y9, y10, y11⟩ := at12_of H_k0.out
      go_wp2_with fail
      (with_reducible refine (H_q1.out).mono ?_)
      rintro e w1 ⟨rfl, b1⟩
      have c1 : Below w0.heap.size w0 w1 := Below.trans belt (b1.mono omh)
      have s1 := c1.size
      have bb1 := H_bb0.out.trans (c1.mono H_bb0.out.size)
      have k1 := H_k0.out.below c1
      have g1 := H_g0.out.below c1
      have ⟨H_b1, H_c1, H_bb1, H_k1, H_g1⟩ := hid5 b1 c1 bb1 k1 g1; clear b1 c1 bb1 k1 g1
      clear y0 y1 y2 y3 y4 y5 y6 y7 y8 y9 y10 y11
      obtain ⟨y0, y1, y2, y3, y4, y5, y6, y7, y8, y9, y10, y11⟩ := at12_of H_k1.out
      go_wp2_with fail
      (with_reducible refine (H_q2.out _ ?_).mono ?_)
      · exact H_bb1.out
      rintro e w2 ⟨rfl, b2⟩
      have c2 : Below w1.heap.size w1 w2 := Below.trans belt (b2.mono omh)
      have s2 := c2.size
      have bb2 := H_bb1.out.trans (c2.mono H_bb1.out.size)
      have k2 := H_k1.out.below c2
      have g2 := H_g1.out.below c2
      have ⟨H_b2, H_c2, H_bb2, H_k2, H_g2⟩ := hid5 b2 c2 bb2 k2 g2; clear b2 c2 bb2 k2 g2
      go_wp2_with fail
      go_ret
      exact ⟨ret_bool H_fin.out.symm, H_bb2.out⟩
    | true =>
      simp only [Bool.true_and] at fin
      cases V2 with
      | false =>
        simp only [Bool.false_and] at fin
        have ⟨H_bb0, H_k0, H_g0, H_hw0, H_q1, H_q2, H_q3, H_q4⟩ := hid8 bb0 k0 g0 hw0 q1 q2 q3 q4; clear bb0 k0 g0 hw0 q1 q2 q3 q4; have ⟨H_fin, H_hx, H_hy, H_hc, H_e40⟩ := hid5 fin hx hy hc e40; clear fin hx hy hc e40
        go_enter Tryz.func17, Tryz.ntmps17
        go_wp2_with fail
        rw [H_hw0.out]
        obtain ⟨y0, y1, y2, y3, y4, y5, y6, y7, y8, y9, y10, y11⟩ := at12_of H_k0.out
        go_wp2_with fail
        (with_reducible refine (H_q1.out).mono ?_)
        rintro e w1 ⟨rfl, b1⟩
        have c1 : Below w0.heap.size w0 w1 := Below.trans belt (b1.mono omh)
        have s1 := c1.size
        have bb1 := H_bb0.out.trans (c1.mono H_bb0.out.size)
        have k1 := H_k0.out.below c1
        have g1 := H_g0.out.below c1
        have ⟨H_b1, H_c1, H_bb1, H_k1, H_g1⟩ := hid5 b1 c1 bb1 k1 g1; clear b1 c1 bb1 k1 g1
        clear y0 y1 y2 y3 y4 y5 y6 y7 y8 y9 y10 y11
        obtain ⟨y0, y1, y2, y3, y4, y5, y6, y7, y8, y9, y10, y11⟩ := at12_of H_k1.out
        go_wp2_with fail
        (with_reducible refine (H_q2.out _ ?_).mono ?_)
        · exact H_bb1.out
        rintro e w2 ⟨rfl, b2⟩
        have c2 : Below w1.heap.size w1 w2 := Below.trans belt (b2.mono omh)
        have s2 := c2.size
        have bb2 := H_bb1.out.trans (c2.mono H_bb1.out.size)
        have k2 := H_k1.out.below c2
        have g2 := H_g1.out.below c2
        have ⟨H_b2, H_c2, H_bb2, H_k2, H_g2⟩ := hid5 b2 c2 bb2 k2 g2; clear b2 c2 bb2 k2 g2
        clear y0 y1 y2 y3 y4 y5 y6 y7 y8 y9 y10 y11
        obtain ⟨z0, z1, z2, z3, z4, z5, z6, z7, z8⟩ := at9_of H_g2.out
        go_wp2_with fail
        (with_reducible refine (H_q3.out _).mono ?_)
        rintro e w3 ⟨rfl, b3⟩
        have c3 : Below w2.heap.size w2 w3 := Below.trans belt (b3.mono omh)
        have s3 := c3.size
        have bb3 := H_bb2.out.trans (c3.mono H_bb2.out.size)
        have k3 := H_k2.out.below c3
        have g3 := H_g2.out.below c3
        have ⟨H_b3, H_c3, H_bb3, H_k3, H_g3⟩ := hid5 b3 c3 bb3 k3 g3; clear b3 c3 bb3 k3 g3
        go_wp2_with fail
        go_ret
        exact ⟨ret_bool H_fin.out.symm, H_bb3.out⟩
      | true =>
        simp only [Bool.true_and] at fin
        have ⟨H_bb0, H_k0, H_g0, H_hw0, H_q1, H_q2, H_q3, H_q4⟩ := hid8 bb0 k0 g0 hw0 q1 q2 q3 q4; clear bb0 k0 g0 hw0 q1 q2 q3 q4; have ⟨H_fin, H_hx, H_hy, H_hc, H_e40⟩ := hid5 fin hx hy hc e40; clear fin hx hy hc e40
        go_enter Tryz.func17, Tryz.ntmps17
        go_wp2_with fail
        rw [H_hw0.out]
        obtain ⟨y0, y1, y2, y3, y4, y5, y6, y7, y8, y9, y10, y11⟩ := at12_of H_k0.out
        go_wp2_with fail
        (with_reducible refine (H_q1.out).mono ?_)
        rintro e w1 ⟨rfl, b1⟩
        have c1 : Below w0.heap.size w0 w1 := Below.trans belt (b1.mono omh)
        have s1 := c1.size
        have bb1 := H_bb0.out.trans (c1.mono H_bb0.out.size)
        have k1 := H_k0.out.below c1
        have g1 := H_g0.out.below c1
        have ⟨H_b1, H_c1, H_bb1, H_k1, H_g1⟩ := hid5 b1 c1 bb1 k1 g1; clear b1 c1 bb1 k1 g1
        clear y0 y1 y2 y3 y4 y5 y6 y7 y8 y9 y10 y11
        obtain ⟨y0, y1, y2, y3, y4, y5, y6, y7, y8, y9, y10, y11⟩ := at12_of H_k1.out
        go_wp2_with fail
        (with_reducible refine (H_q2.out _ ?_).mono ?_)
        · exact H_bb1.out
        rintro e w2 ⟨rfl, b2⟩
        have c2 : Below w1.heap.size w1 w2 := Below.trans belt (b2.mono omh)
        have s2 := c2.size
        have bb2 := H_bb1.out.trans (c2.mono H_bb1.out.size)
        have k2 := H_k1.out.below c2
        have g2 := H_g1.out.below c2
        have ⟨H_b2, H_c2, H_bb2, H_k2, H_g2⟩ := hid5 b2 c2 bb2 k2 g2; clear b2 c2 bb2 k2 g2
        clear y0 y1 y2 y3 y4 y5 y6 y7 y8 y9 y10 y11
        obtain ⟨z0, z1, z2, z3, z4, z5, z6, z7, z8⟩ := at9_of H_g2.out
        go_wp2_with fail
        (with_reducible refine (H_q3.out _).mono ?_)
        rintro e w3 ⟨rfl, b3⟩
        have c3 : Below w2.heap.size w2 w3 := Below.trans belt (b3.mono omh)
        have s3 := c3.size
        have bb3 := H_bb2.out.trans (c3.mono H_bb2.out.size)
        have k3 := H_k2.out.below c3
        have g3 := H_g2.out.below c3
        have ⟨H_b3, H_c3, H_bb3, H_k3, H_g3⟩ := hid5 b3 c3 bb3 k3 g3; clear b3 c3 bb3 k3 g3
        clear z0 z1 z2 z3 z4 z5 z6 z7 z8
        go_wp2_with fail
        (with_reducible refine (H_q4.out _).mono ?_)
        rintro e w4 ⟨rfl, b4⟩
        have c4 : Below w3.heap.size w3 w4 := Below.trans belt (b4.mono omh)
        have s4 := c4.size
        have bb4 := H_bb3.out.trans (c4.mono H_bb3.out.size)
        have ⟨H_b4, H_c4, H_bb4⟩ := hid3 b4 c4 bb4; clear b4 c4 bb4
        go_wp2_with fail
        go_ret
        exact ⟨ret_bool H_fin.out.symm, H_bb4.out⟩
end Go.Proofs.YtoehobaigfmnpaaGreatDoor

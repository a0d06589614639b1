/- The walk of SlotMatchesReference. -/
import Derived.Test.YtncfilbpgomncaaDoorSlL1
namespace Go.Proofs.YtncfilbpgomncaaDoor
set_option linter.unusedSimpArgs false
set_option linter.unusedVariables false
set_option maxRecDepth 100000
open Go.RowKit

theorem mkS_len (s c : Int) (l : List Int) : (mkS s c l).l.length ≤ 500 := by
  unfold mkS
  by_cases h : mkE s c l = 0
  · rw [if_pos h]
    unfold mkE at h
    by_cases h5 : 500 < l.length
    · rw [if_pos h5] at h; omega
    · simp only [Slt.made]; omega
  · rw [if_neg h]; simp [Slt.zero]
theorem wrE_len {x y : Slt} {c a : Int} {l : List Int} (h : wrE x y c l a = 0) : l.length ≤ 500 := by
  unfold wrE at h
  by_cases h5 : l.length > 500
  · rw [if_pos h5] at h; omega
  · omega
theorem wr_len {x y : Slt} {c a : Int} {l : List Int} (hx : x.l.length ≤ 500) (hy : y.l.length ≤ 500) : (wr0 x y c l a).l.length ≤ 500 ∧ (wr1 x y c l a).l.length ≤ 500 := by
  unfold wr0 wr1
  by_cases h : wrE x y c l a = 0
  · have hl := wrE_len h
    rw [if_pos h, if_pos h]
    constructor
    · split
      · simp only [wrS]; exact hl
      · exact hx
    · split
      · simp only [wrS]; exact hl
      · exact hy
  · rw [if_neg h, if_neg h]; simp [Slt.zero]

set_option maxHeartbeats 8000000 in
theorem slotMatches_walk (x y : Slt) (A : Option Addr) (n p : Nat) (B : Option Addr) (m q : Nat) (s c : Int) (D' : Option Addr) (r : Nat) (l : List Int) (at_ : Int) (w : World) (hx : SlotArg w A n p x) (hy : SlotArg w B m q y) (hsw : (Lit.int .i64 s).wf = true) (hcw : (Lit.int .i64 c).wf = true)
    (hl : IntsAt w D' .i64 l) (hlc : l.length ≤ r) (hcm : r ≤ maxLen) (hlw : ∀ n ∈ l, (Lit.int .i64 n).wf = true) (haw : (Lit.int .i64 at_).wf = true) (ht : Tab w) :
    Calls Tryd.prog 9 #[.agg #[.int .i64 x.s, .int .i64 x.c, .slice A n p, .int .u64 x.u, .int .i64 y.s, .int .i64 y.c, .slice B m q, .int .u64 y.u], .int .i64 s, .int .i64 c, .slice D' l.length r, .int .i64 at_] w fun e w' => e = .returned (.bool true) ∧ Below w.heap.size w w' := by
  have hs := wf_i64 hsw
  have hc := wf_i64 hcw
  have hf := fit_wf hlw
  unfold maxLen at hcm
  generalize hN : l.length = N at *
  obtain ⟨w0, hw0⟩ : ∃ w0, w.alloc (.cells #[.int .i64 x.s, .int .i64 x.c, .slice A n p, .int .u64 x.u, .int .i64 y.s, .int .i64 y.c, .slice B m q, .int .u64 y.u] 51) = w0 := ⟨_, rfl⟩
  have bw : Below w.heap.size w w0 := by rw [← hw0]; exact (Below.refl _ _).alloc (Nat.le_refl _) _
  have g0 : Blk w0 w.heap.size #[.int .i64 x.s, .int .i64 x.c, .slice A n p, .int .u64 x.u, .int .i64 y.s, .int .i64 y.c, .slice B m q, .int .u64 y.u] := by rw [← hw0]; exact blk_new rfl
  have bb0 := Below.refl w0.heap.size w0
  have t0 := ht.below bw
  have x0 := hx.below bw
  have y0 := hy.below bw
  have l0 := hl.below bw
  have q1 := head36_any w0 t0
  have lq := hx.room
  have lm := hx.max
  have lq' := hy.room
  have lm' := hy.max
  have q2 := fun W => rfew_any x.s x.c x.u y.s y.c y.u A n p B m q W (by omega) (by omega)
  have hnl := hx.len
  have hml := hy.len
  have H_hsw := Lib.hid hsw; clear hsw; have H_hcw := Lib.hid hcw; clear hcw; have H_hl := Lib.hid hl; clear hl; have H_hlw := Lib.hid hlw; clear hlw; have H_hx := Lib.hid hx; clear hx; have H_hy := Lib.hid hy; clear hy; have H_ht := Lib.hid ht; clear ht; have H_hs := Lib.hid hs; clear hs; have H_hc := Lib.hid hc; clear hc; have H_hf := Lib.hid hf; clear hf; have H_bw := Lib.hid bw; clear bw; have H_g0 := Lib.hid g0; clear g0; have H_bb0 := Lib.hid bb0; clear bb0; have H_t0 := Lib.hid t0; clear t0; have H_x0 := Lib.hid x0; clear x0; have H_y0 := Lib.hid y0; clear y0; have H_l0 := Lib.hid l0; clear l0; have H_q1 := Lib.hid q1; clear q1; have H_q2 := Lib.hid q2; clear q2; have H_hN := Lib.hid hN; clear hN; have H_hw0 := Lib.hid hw0; clear hw0; have H_haw := Lib.hid haw; clear haw; have H_hnl := Lib.hid hnl; clear hnl; have H_hml := Lib.hid hml; clear hml
  go_enter Tryd.func9, Tryd.ntmps9
  go_wp2_with fail
  rw [H_hw0.out]
  go_wp2_with fail
  (with_reducible refine (H_q1.out).mono ?_)
  rintro e w1 ⟨rfl, b1⟩
  have c1 : Below w0.heap.size w0 w1 := Below.trans (by (repeat (first | with_reducible exact Below.refl _ _ | with_reducible exact Nat.le_refl _ | with_reducible assumption | with_reducible refine Below.drew ?_ | with_reducible refine below_drewN ?_ _ | with_reducible refine Below.alloc ?_ ?_ _ | with_reducible refine Below.setCell ?_ ?_ _ | with_reducible exact And.right (by assumption) | with_reducible refine Below.trans ?_ (Below.mono (by assumption) ?_) | with_reducible exact Below.size (And.right (by assumption)) | (focus omega) | (focus (simp; done)) | (focus (simp; omega)) | (focus (simp at *; omega))))) (b1.mono (by first | exact Nat.le_refl _ | omega | (simp; done) | (simp; omega)))
  have s1 := c1.size
  have bb1 := H_bb0.out.trans (c1.mono H_bb0.out.size)
  have t1 := H_t0.out.below c1
  have x1 := H_x0.out.below c1
  have y1 := H_y0.out.below c1
  have l1 := H_l0.out.below c1
  have g1 := H_g0.out.below c1
  have H_b1 := Lib.hid b1; clear b1; have H_c1 := Lib.hid c1; clear c1; have H_bb1 := Lib.hid bb1; clear bb1; have H_t1 := Lib.hid t1; clear t1; have H_x1 := Lib.hid x1; clear x1; have H_y1 := Lib.hid y1; clear y1; have H_l1 := Lib.hid l1; clear l1; have H_g1 := Lib.hid g1; clear g1
  have lt1 := (H_g1.out 0 _ rfl).lt
  have g0 := (H_g1.out 0 _ rfl).at
  have g1 := (H_g1.out 1 _ rfl).at
  have g2 := (H_g1.out 2 _ rfl).at
  have g3 := (H_g1.out 3 _ rfl).at
  have g4 := (H_g1.out 4 _ rfl).at
  have g5 := (H_g1.out 5 _ rfl).at
  have g6 := (H_g1.out 6 _ rfl).at
  have g7 := (H_g1.out 7 _ rfl).at
  by_cases n40 : n ≤ 40 ∧ m ≤ 40
  rotate_left
  · have hFew : (len40B n && len40B m) = false := by
      rw [Bool.eq_false_iff]; intro h
      simp only [len40B, Bool.and_eq_true, decide_eq_true_eq] at h
      exact n40 h
    have q2' := fun W => H_q2.out W
    rw [hFew] at q2'
    have H_q2' := Lib.hid q2'; clear q2'; have H_hFew := Lib.hid hFew; clear hFew; have H_n40 := Lib.hid n40; clear n40
    go_wp2_with fail
    (with_reducible refine (H_q2'.out _).mono ?_)
    rintro e w2 ⟨rfl, b2⟩
    have c2 : Below w1.heap.size w1 w2 := Below.trans (by (repeat (first | with_reducible exact Below.refl _ _ | with_reducible exact Nat.le_refl _ | with_reducible assumption | with_reducible refine Below.drew ?_ | with_reducible refine below_drewN ?_ _ | with_reducible refine Below.alloc ?_ ?_ _ | with_reducible refine Below.setCell ?_ ?_ _ | with_reducible exact And.right (by assumption) | with_reducible refine Below.trans ?_ (Below.mono (by assumption) ?_) | with_reducible exact Below.size (And.right (by assumption)) | (focus omega) | (focus (simp; done)) | (focus (simp; omega)) | (focus (simp at *; omega))))) (b2.mono (by first | exact Nat.le_refl _ | omega | (simp; done) | (simp; omega)))
    have s2 := c2.size
    have bb2 := H_bb1.out.trans (c2.mono H_bb1.out.size)
    have t2 := H_t1.out.below c2
    have H_b2 := Lib.hid b2; clear b2; have H_c2 := Lib.hid c2; clear c2; have H_bb2 := Lib.hid bb2; clear bb2; have H_t2 := Lib.hid t2; clear t2
    go_wp2_with fail
    go_ret
    exact ⟨rfl, H_bw.out.trans (H_bb2.out.mono H_bw.out.size)⟩
  have hFew : (len40B n && len40B m) = true := by simp only [len40B, Bool.and_eq_true, decide_eq_true_eq]; exact n40
  have q2' := fun W => H_q2.out W
  rw [hFew] at q2'
  obtain ⟨n40, m40⟩ := n40
  have z1 := H_x1.out.is n40
  have u1 := H_y1.out.is m40
  have H_q2' := Lib.hid q2'; clear q2'; have H_hFew := Lib.hid hFew; clear hFew; have H_z1 := Lib.hid z1; clear z1; have H_u1 := Lib.hid u1; clear u1
  go_wp2_with fail
  (with_reducible refine (H_q2'.out _).mono ?_)
  rintro e w2 ⟨rfl, b2⟩
  have c2 : Below w1.heap.size w1 w2 := Below.trans (by (repeat (first | with_reducible exact Below.refl _ _ | with_reducible exact Nat.le_refl _ | with_reducible assumption | with_reducible refine Below.drew ?_ | with_reducible refine below_drewN ?_ _ | with_reducible refine Below.alloc ?_ ?_ _ | with_reducible refine Below.setCell ?_ ?_ _ | with_reducible exact And.right (by assumption) | with_reducible refine Below.trans ?_ (Below.mono (by assumption) ?_) | with_reducible exact Below.size (And.right (by assumption)) | (focus omega) | (focus (simp; done)) | (focus (simp; omega)) | (focus (simp at *; omega))))) (b2.mono (by first | exact Nat.le_refl _ | omega | (simp; done) | (simp; omega)))
  have s2 := c2.size
  have bb2 := H_bb1.out.trans (c2.mono H_bb1.out.size)
  have t2 := H_t1.out.below c2
  have z2 := H_z1.out.below c2
  have u2 := H_u1.out.below c2
  have l2 := H_l1.out.below c2
  have g2 := H_g1.out.below c2
  have H_b2 := Lib.hid b2; clear b2; have H_c2 := Lib.hid c2; clear c2; have H_bb2 := Lib.hid bb2; clear bb2; have H_t2 := Lib.hid t2; clear t2; have H_z2 := Lib.hid z2; clear z2; have H_u2 := Lib.hid u2; clear u2; have H_l2 := Lib.hid l2; clear l2; have H_g2 := Lib.hid g2; clear g2
  clear g0 g1 g2 g3 g4 g5 g6 g7
  by_cases h1 : 40 < N
  · by_cases h2 : N ≤ 500
    · have d1 : decide ((40 : Int) < (N : Int)) = true := decide_eq_true (by omega)
      have d2 : decide ((N : Int) ≤ 500) = true := decide_eq_true (by omega)
      go_wp2_with fail
      go_ret
      exact ⟨rfl, H_bw.out.trans (H_bb2.out.mono H_bw.out.size)⟩
    have d1 : decide ((40 : Int) < (N : Int)) = true := decide_eq_true (by omega)
    have d2 : decide ((N : Int) ≤ 500) = false := decide_eq_false (by omega)
    have q3 := fun W (h : IntsAt W D' .i64 l) h2 => make_any s c D' r N l H_hN.out W H_hs.out H_hc.out h (by omega) H_hf.out h2
    have q4 := fun W (h : IntsAt W D' .i64 l) => rmake_any s c D' r N l H_hN.out W H_hs.out H_hc.out h (by omega) H_hf.out
    have mlen := mkS_len s c l
    have q5 := fun W (h : SlotIs W A n x) h2 => valid_at p h h2
    have q6 := fun W (h : SlotIs W A n x) => rvalid_at p h
    have q8 := fun W (h : SlotIs W A n x) (h2 : SlotIs W B m y) h3 => best_any x y A n p B m q W h h2 h3
    have q9 := fun W (h : SlotIs W A n x) (h2 : SlotIs W B m y) => rbest_any x y A n p B m q W h h2
    have q10 := fun W (h : SlotIs W A n x) (h2 : SlotIs W B m y) (h0 : IntsAt W D' .i64 l) h3 => write_any x y c at_ A n p B m q D' N r l H_hN.out W h h2 H_hc.out h0 (by omega) H_hf.out h3
    have q11 := fun W (h : SlotIs W A n x) (h2 : SlotIs W B m y) (h0 : IntsAt W D' .i64 l) => rwrite_any x y c at_ A n p B m q D' N r l H_hN.out W h h2 H_hc.out h0 (by omega) H_hf.out
    have wlen := wr_len (x := x) (y := y) (c := c) (a := at_) (l := l) (by rw [H_hnl.out]; omega) (by rw [H_hml.out]; omega)
    generalize mkS s c l = M at *
    generalize mkE s c l = E at *
    generalize x.ok = V at *
    generalize bestI x y = BI at *
    generalize bestB x y = BB at *
    generalize wr0 x y c l at_ = Z0 at *
    generalize wr1 x y c l at_ = Z1 at *
    generalize wrE x y c l at_ = EE at *
    have q7 := fun W X cx Y cy (h : IntsAt W X .i64 M.l) (h2 : IntsAt W Y .i64 M.l) => rsame_at M M X M.l.length cx rfl Y M.l.length cy rfl W (by omega) (by omega) h h2
    have q12 := fun W X cx X' cx' Y cy Y' cy' (h : IntsAt W X .i64 Z0.l) (h1 : IntsAt W X' .i64 Z1.l) (h2 : IntsAt W Y .i64 Z0.l) (h3 : IntsAt W Y' .i64 Z1.l) => rsameBoth_any Z0 Z1 Z0 Z1 X Z0.l.length cx rfl X' Z1.l.length cx' rfl Y Z0.l.length cy rfl Y' Z1.l.length cy' rfl W (by omega) (by omega) (by omega) (by omega) h h1 h2 h3
    rw [sameS_self] at q7
    rw [sameS_self, sameS_self] at q12
    have e1 : (V == V) = true := by simp
    have e2 : (E == E) = true := by simp
    have e3 : (BI == BI) = true := by simp
    have e4 : (BB == BB) = true := by simp
    have e5 : (EE == EE) = true := by simp
    unfold SlotErr at q3 q4
    unfold SlotsErr at q10 q11
    have H_q3 := Lib.hid q3; clear q3; have H_q4 := Lib.hid q4; clear q4; have H_q5 := Lib.hid q5; clear q5; have H_q6 := Lib.hid q6; clear q6; have H_q7 := Lib.hid q7; clear q7; have H_q8 := Lib.hid q8; clear q8; have H_q9 := Lib.hid q9; clear q9; have H_q10 := Lib.hid q10; clear q10; have H_q11 := Lib.hid q11; clear q11; have H_q12 := Lib.hid q12; clear q12; have H_mlen := Lib.hid mlen; clear mlen; have H_wlen := Lib.hid wlen; clear wlen
    go_wp2_with fail
    (with_reducible refine (H_q3.out _ ?_ ?_).mono ?_)
    · exact H_l2.out.below (show Below w2.heap.size w2 _ by (repeat (first | with_reducible exact Below.refl _ _ | with_reducible exact Nat.le_refl _ | with_reducible assumption | with_reducible refine Below.drew ?_ | with_reducible refine below_drewN ?_ _ | with_reducible refine Below.alloc ?_ ?_ _ | with_reducible refine Below.setCell ?_ ?_ _ | with_reducible exact And.right (by assumption) | with_reducible refine Below.trans ?_ (Below.mono (by assumption) ?_) | with_reducible exact Below.size (And.right (by assumption)) | (focus omega) | (focus (simp; done)) | (focus (simp; omega)) | (focus (simp at *; omega)))))
    · exact H_t2.out.below (show Below w2.heap.size w2 _ by (repeat (first | with_reducible exact Below.refl _ _ | with_reducible exact Nat.le_refl _ | with_reducible assumption | with_reducible refine Below.drew ?_ | with_reducible refine below_drewN ?_ _ | with_reducible refine Below.alloc ?_ ?_ _ | with_reducible refine Below.setCell ?_ ?_ _ | with_reducible exact And.right (by assumption) | with_reducible refine Below.trans ?_ (Below.mono (by assumption) ?_) | with_reducible exact Below.size (And.right (by assumption)) | (focus omega) | (focus (simp; done)) | (focus (simp; omega)) | (focus (simp at *; omega)))))
    rintro e w3 ⟨X, cx, rfl, ho, b3⟩
    have c3 : Below w2.heap.size w2 w3 := Below.trans (by (repeat (first | with_reducible exact Below.refl _ _ | with_reducible exact Nat.le_refl _ | with_reducible assumption | with_reducible refine Below.drew ?_ | with_reducible refine below_drewN ?_ _ | with_reducible refine Below.alloc ?_ ?_ _ | with_reducible refine Below.setCell ?_ ?_ _ | with_reducible exact And.right (by assumption) | with_reducible refine Below.trans ?_ (Below.mono (by assumption) ?_) | with_reducible exact Below.size (And.right (by assumption)) | (focus omega) | (focus (simp; done)) | (focus (simp; omega)) | (focus (simp at *; omega))))) (b3.mono (by first | exact Nat.le_refl _ | omega | (simp; done) | (simp; omega)))
    have s3 := c3.size
    have bb3 := H_bb2.out.trans (c3.mono H_bb2.out.size)
    have t3 := H_t2.out.below c3
    have z3 := H_z2.out.below c3
    have u3 := H_u2.out.below c3
    have l3 := H_l2.out.below c3
    have g3 := H_g2.out.below c3
    have H_b3 := Lib.hid b3; clear b3; have H_c3 := Lib.hid c3; clear c3; have H_bb3 := Lib.hid bb3; clear bb3; have H_t3 := Lib.hid t3; clear t3; have H_z3 := Lib.hid z3; clear z3; have H_u3 := Lib.hid u3; clear u3; have H_l3 := Lib.hid l3; clear l3; have H_g3 := Lib.hid g3; clear g3
    have o3 := ho.ints
    have H_ho := Lib.hid ho; clear ho; have H_o3 := Lib.hid o3; clear o3
    go_wp2_with fail
    (with_reducible refine (H_q4.out _ ?_).mono ?_)
    · exact H_l3.out.below (show Below w3.heap.size w3 _ by (repeat (first | with_reducible exact Below.refl _ _ | with_reducible exact Nat.le_refl _ | with_reducible assumption | with_reducible refine Below.drew ?_ | with_reducible refine below_drewN ?_ _ | with_reducible refine Below.alloc ?_ ?_ _ | with_reducible refine Below.setCell ?_ ?_ _ | with_reducible exact And.right (by assumption) | with_reducible refine Below.trans ?_ (Below.mono (by assumption) ?_) | with_reducible exact Below.size (And.right (by assumption)) | (focus omega) | (focus (simp; done)) | (focus (simp; omega)) | (focus (simp at *; omega)))))
    rintro e w4 ⟨Y, cy, rfl, hp, b4⟩
    have c4 : Below w3.heap.size w3 w4 := Below.trans (by (repeat (first | with_reducible exact Below.refl _ _ | with_reducible exact Nat.le_refl _ | with_reducible assumption | with_reducible refine Below.drew ?_ | with_reducible refine below_drewN ?_ _ | with_reducible refine Below.alloc ?_ ?_ _ | with_reducible refine Below.setCell ?_ ?_ _ | with_reducible exact And.right (by assumption) | with_reducible refine Below.trans ?_ (Below.mono (by assumption) ?_) | with_reducible exact Below.size (And.right (by assumption)) | (focus omega) | (focus (simp; done)) | (focus (simp; omega)) | (focus (simp at *; omega))))) (b4.mono (by first | exact Nat.le_refl _ | omega | (simp; done) | (simp; omega)))
    have s4 := c4.size
    have bb4 := H_bb3.out.trans (c4.mono H_bb3.out.size)
    have t4 := H_t3.out.below c4
    have z4 := H_z3.out.below c4
    have u4 := H_u3.out.below c4
    have l4 := H_l3.out.below c4
    have g4 := H_g3.out.below c4
    have o4 := H_o3.out.below c4
    have H_b4 := Lib.hid b4; clear b4; have H_c4 := Lib.hid c4; clear c4; have H_bb4 := Lib.hid bb4; clear bb4; have H_t4 := Lib.hid t4; clear t4; have H_z4 := Lib.hid z4; clear z4; have H_u4 := Lib.hid u4; clear u4; have H_l4 := Lib.hid l4; clear l4; have H_g4 := Lib.hid g4; clear g4; have H_o4 := Lib.hid o4; clear o4
    have i4 := hp.ints
    have a4 : Blk w4 w3.heap.size #[.int .i64 M.s, .int .i64 M.c, .slice X M.l.length cx, .int .u64 M.u] := (blk_new rfl).below H_b4.out
    have H_hp := Lib.hid hp; clear hp; have H_i4 := Lib.hid i4; clear i4; have H_a4 := Lib.hid a4; clear a4
    go_wp2_with fail
    obtain ⟨w5, hw5⟩ : ∃ W, w4.alloc (.cells #[.int .i64 M.s, .int .i64 M.c, .slice Y M.l.length cy, .int .u64 M.u] 50) = W := ⟨_, rfl⟩
    rw [hw5]
    have c5 : Below w4.heap.size w4 w5 := by rw [← hw5]; exact (Below.refl _ _).alloc (Nat.le_refl _) _
    have v5 : Blk w5 w4.heap.size #[.int .i64 M.s, .int .i64 M.c, .slice Y M.l.length cy, .int .u64 M.u] := by rw [← hw5]; exact blk_new rfl
    have s5 := c5.size
    have bb5 := H_bb4.out.trans (c5.mono H_bb4.out.size)
    have t5 := H_t4.out.below c5
    have z5 := H_z4.out.below c5
    have u5 := H_u4.out.below c5
    have l5 := H_l4.out.below c5
    have g5 := H_g4.out.below c5
    have o5 := H_o4.out.below c5
    have i5 := H_i4.out.below c5
    have a5 := H_a4.out.below c5
    have H_hw5 := Lib.hid hw5; clear hw5; have H_c5 := Lib.hid c5; clear c5; have H_v5 := Lib.hid v5; clear v5; have H_bb5 := Lib.hid bb5; clear bb5; have H_t5 := Lib.hid t5; clear t5; have H_z5 := Lib.hid z5; clear z5; have H_u5 := Lib.hid u5; clear u5; have H_l5 := Lib.hid l5; clear l5; have H_g5 := Lib.hid g5; clear g5; have H_o5 := Lib.hid o5; clear o5; have H_i5 := Lib.hid i5; clear i5; have H_a5 := Lib.hid a5; clear a5
    have g0 := (H_g5.out 0 _ rfl).at
    have g1 := (H_g5.out 1 _ rfl).at
    have g2 := (H_g5.out 2 _ rfl).at
    have g3 := (H_g5.out 3 _ rfl).at
    have g4 := (H_g5.out 4 _ rfl).at
    have g5 := (H_g5.out 5 _ rfl).at
    have g6 := (H_g5.out 6 _ rfl).at
    have g7 := (H_g5.out 7 _ rfl).at
    have a0 := (H_a5.out 0 _ rfl).at
    have a1 := (H_a5.out 1 _ rfl).at
    have a2 := (H_a5.out 2 _ rfl).at
    have a3 := (H_a5.out 3 _ rfl).at
    have v0 := (H_v5.out 0 _ rfl).at
    have v1 := (H_v5.out 1 _ rfl).at
    have v2 := (H_v5.out 2 _ rfl).at
    have v3 := (H_v5.out 3 _ rfl).at
    have lg := (H_g5.out 0 _ rfl).lt; have la := (H_a5.out 0 _ rfl).lt; have lv := (H_v5.out 0 _ rfl).lt
    go_region_held3 (fun W => (∀ b o, b < w5.heap.size → W.cell? ⟨b, o, none⟩ = w5.cell? ⟨b, o, none⟩) ∧ Below w5.heap.size w5 W) (first | (refine ext_mk ?_; (repeat (first | with_reducible exact Below.refl _ _ | with_reducible exact Nat.le_refl _ | with_reducible assumption | with_reducible refine Below.drew ?_ | with_reducible refine below_drewN ?_ _ | with_reducible refine Below.alloc ?_ ?_ _ | with_reducible refine Below.setCell ?_ ?_ _ | with_reducible exact And.right (by assumption) | with_reducible refine Below.trans ?_ (Below.mono (by assumption) ?_) | with_reducible exact Below.size (And.right (by assumption)) | (focus omega) | (focus (simp; done)) | (focus (simp; omega)) | (focus (simp at *; omega)))))) (first | (go_at_call 34; (with_reducible refine (H_q5.out _ ?_ ?_).mono ?_); (focus (exact H_z5.out.below (And.right (by assumption : _ ∧ Below w5.heap.size w5 _)))); (focus (exact H_t5.out.below (And.right (by assumption : _ ∧ Below w5.heap.size w5 _)))); rintro e w6 ⟨rfl, hbw6⟩; have gw6 := Below.trans (And.right (by assumption : _ ∧ Below w5.heap.size w5 _)) (hbw6.mono (Below.size (And.right (by assumption : _ ∧ Below w5.heap.size w5 _)))); have gsw6 := gw6.size; have hcf := bcell hbw6; have hcw6 := hcf.1; have hfw6 := hcf.2; have hsw6 := hbw6.size; (try simp only [World.size_alloc, World.heap_drewN, heap_drew] at hsw6); clear hbw6 hcf; (try have hzw6 : w5.heap.size < w6.heap.size := by omega)) | (go_at_call 35; (with_reducible refine (H_q6.out _ ?_).mono ?_); (focus (exact H_z5.out.below (And.right (by assumption : _ ∧ Below w5.heap.size w5 _)))); rintro e w7 ⟨rfl, hbw7⟩; have gw7 := Below.trans (And.right (by assumption : _ ∧ Below w5.heap.size w5 _)) (hbw7.mono (Below.size (And.right (by assumption : _ ∧ Below w5.heap.size w5 _)))); have gsw7 := gw7.size; have hcf := bcell hbw7; have hcw7 := hcf.1; have hfw7 := hcf.2; have hsw7 := hbw7.size; (try simp only [World.size_alloc, World.heap_drewN, heap_drew] at hsw7); clear hbw7 hcf; (try have hzw7 : w5.heap.size < w7.heap.size := by omega)) | (go_at_call 36; (with_reducible refine (H_q7.out _ X cx Y cy ?_ ?_).mono ?_); (focus (exact H_o5.out.below (And.right (by assumption : _ ∧ Below w5.heap.size w5 _)))); (focus (exact H_i5.out.below (And.right (by assumption : _ ∧ Below w5.heap.size w5 _)))); rintro e w8 ⟨rfl, hbw8⟩; have gw8 := Below.trans (And.right (by assumption : _ ∧ Below w5.heap.size w5 _)) (hbw8.mono (Below.size (And.right (by assumption : _ ∧ Below w5.heap.size w5 _)))); have gsw8 := gw8.size; have hcf := bcell hbw8; have hcw8 := hcf.1; have hfw8 := hcf.2; have hsw8 := hbw8.size; (try simp only [World.size_alloc, World.heap_drewN, heap_drew] at hsw8); clear hbw8 hcf; (try have hzw8 : w5.heap.size < w8.heap.size := by omega)))
    have c8 : Below w5.heap.size w5 w8 := And.right (by assumption)
    clear lg la lv hcw6 hfw6 hcw7 hfw7 hcw8 hfw8
    clear g0 g1 g2 g3 g4 g5 g6 g7
    clear a0 a1 a2 a3
    clear v0 v1 v2 v3
    have s8 := c8.size
    have bb8 := H_bb5.out.trans (c8.mono H_bb5.out.size)
    have t8 := H_t5.out.below c8
    have z8 := H_z5.out.below c8
    have u8 := H_u5.out.below c8
    have l8 := H_l5.out.below c8
    have g8 := H_g5.out.below c8
    clear gw6 gw7 gw8 gsw6 gsw7 gsw8
    have H_c8 := Lib.hid c8; clear c8; have H_bb8 := Lib.hid bb8; clear bb8; have H_t8 := Lib.hid t8; clear t8; have H_z8 := Lib.hid z8; clear z8; have H_u8 := Lib.hid u8; clear u8; have H_l8 := Lib.hid l8; clear l8; have H_g8 := Lib.hid g8; clear g8
    have g0 := (H_g8.out 0 _ rfl).at
    have g1 := (H_g8.out 1 _ rfl).at
    have g2 := (H_g8.out 2 _ rfl).at
    have g3 := (H_g8.out 3 _ rfl).at
    have g4 := (H_g8.out 4 _ rfl).at
    have g5 := (H_g8.out 5 _ rfl).at
    have g6 := (H_g8.out 6 _ rfl).at
    have g7 := (H_g8.out 7 _ rfl).at
    go_wp2_with fail
    (with_reducible refine (H_q8.out _ ?_ ?_ ?_).mono ?_)
    · exact H_z8.out.below (show Below w8.heap.size w8 _ by (repeat (first | with_reducible exact Below.refl _ _ | with_reducible exact Nat.le_refl _ | with_reducible assumption | with_reducible refine Below.drew ?_ | with_reducible refine below_drewN ?_ _ | with_reducible refine Below.alloc ?_ ?_ _ | with_reducible refine Below.setCell ?_ ?_ _ | with_reducible exact And.right (by assumption) | with_reducible refine Below.trans ?_ (Below.mono (by assumption) ?_) | with_reducible exact Below.size (And.right (by assumption)) | (focus omega) | (focus (simp; done)) | (focus (simp; omega)) | (focus (simp at *; omega)))))
    · exact H_u8.out.below (show Below w8.heap.size w8 _ by (repeat (first | with_reducible exact Below.refl _ _ | with_reducible exact Nat.le_refl _ | with_reducible assumption | with_reducible refine Below.drew ?_ | with_reducible refine below_drewN ?_ _ | with_reducible refine Below.alloc ?_ ?_ _ | with_reducible refine Below.setCell ?_ ?_ _ | with_reducible exact And.right (by assumption) | with_reducible refine Below.trans ?_ (Below.mono (by assumption) ?_) | with_reducible exact Below.size (And.right (by assumption)) | (focus omega) | (focus (simp; done)) | (focus (simp; omega)) | (focus (simp at *; omega)))))
    · exact H_t8.out.below (show Below w8.heap.size w8 _ by (repeat (first | with_reducible exact Below.refl _ _ | with_reducible exact Nat.le_refl _ | with_reducible assumption | with_reducible refine Below.drew ?_ | with_reducible refine below_drewN ?_ _ | with_reducible refine Below.alloc ?_ ?_ _ | with_reducible refine Below.setCell ?_ ?_ _ | with_reducible exact And.right (by assumption) | with_reducible refine Below.trans ?_ (Below.mono (by assumption) ?_) | with_reducible exact Below.size (And.right (by assumption)) | (focus omega) | (focus (simp; done)) | (focus (simp; omega)) | (focus (simp at *; omega)))))
    rintro e w9 ⟨rfl, b9⟩
    have c9 : Below w8.heap.size w8 w9 := Below.trans (by (repeat (first | with_reducible exact Below.refl _ _ | with_reducible exact Nat.le_refl _ | with_reducible assumption | with_reducible refine Below.drew ?_ | with_reducible refine below_drewN ?_ _ | with_reducible refine Below.alloc ?_ ?_ _ | with_reducible refine Below.setCell ?_ ?_ _ | with_reducible exact And.right (by assumption) | with_reducible refine Below.trans ?_ (Below.mono (by assumption) ?_) | with_reducible exact Below.size (And.right (by assumption)) | (focus omega) | (focus (simp; done)) | (focus (simp; omega)) | (focus (simp at *; omega))))) (b9.mono (by first | exact Nat.le_refl _ | omega | (simp; done) | (simp; omega)))
    have s9 := c9.size
    have bb9 := H_bb8.out.trans (c9.mono H_bb8.out.size)
    have t9 := H_t8.out.below c9
    have z9 := H_z8.out.below c9
    have u9 := H_u8.out.below c9
    have l9 := H_l8.out.below c9
    have g9 := H_g8.out.below c9
    have H_b9 := Lib.hid b9; clear b9; have H_c9 := Lib.hid c9; clear c9; have H_bb9 := Lib.hid bb9; clear bb9; have H_t9 := Lib.hid t9; clear t9; have H_z9 := Lib.hid z9; clear z9; have H_u9 := Lib.hid u9; clear u9; have H_l9 := Lib.hid l9; clear l9; have H_g9 := Lib.hid g9; clear g9
    clear g0 g1 g2 g3 g4 g5 g6 g7
    have g0 := (H_g9.out 0 _ rfl).at
    have g1 := (H_g9.out 1 _ rfl).at
    have g2 := (H_g9.out 2 _ rfl).at
    have g3 := (H_g9.out 3 _ rfl).at
    have g4 := (H_g9.out 4 _ rfl).at
    have g5 := (H_g9.out 5 _ rfl).at
    have g6 := (H_g9.out 6 _ rfl).at
    have g7 := (H_g9.out 7 _ rfl).at
    go_wp2_with fail
    (with_reducible refine (H_q9.out _ ?_ ?_).mono ?_)
    · exact H_z9.out.below (show Below w9.heap.size w9 _ by (repeat (first | with_reducible exact Below.refl _ _ | with_reducible exact Nat.le_refl _ | with_reducible assumption | with_reducible refine Below.drew ?_ | with_reducible refine below_drewN ?_ _ | with_reducible refine Below.alloc ?_ ?_ _ | with_reducible refine Below.setCell ?_ ?_ _ | with_reducible exact And.right (by assumption) | with_reducible refine Below.trans ?_ (Below.mono (by assumption) ?_) | with_reducible exact Below.size (And.right (by assumption)) | (focus omega) | (focus (simp; done)) | (focus (simp; omega)) | (focus (simp at *; omega)))))
    · exact H_u9.out.below (show Below w9.heap.size w9 _ by (repeat (first | with_reducible exact Below.refl _ _ | with_reducible exact Nat.le_refl _ | with_reducible assumption | with_reducible refine Below.drew ?_ | with_reducible refine below_drewN ?_ _ | with_reducible refine Below.alloc ?_ ?_ _ | with_reducible refine Below.setCell ?_ ?_ _ | with_reducible exact And.right (by assumption) | with_reducible refine Below.trans ?_ (Below.mono (by assumption) ?_) | with_reducible exact Below.size (And.right (by assumption)) | (focus omega) | (focus (simp; done)) | (focus (simp; omega)) | (focus (simp at *; omega)))))
    rintro e w10 ⟨rfl, b10⟩
    have c10 : Below w9.heap.size w9 w10 := Below.trans (by (repeat (first | with_reducible exact Below.refl _ _ | with_reducible exact Nat.le_refl _ | with_reducible assumption | with_reducible refine Below.drew ?_ | with_reducible refine below_drewN ?_ _ | with_reducible refine Below.alloc ?_ ?_ _ | with_reducible refine Below.setCell ?_ ?_ _ | with_reducible exact And.right (by assumption) | with_reducible refine Below.trans ?_ (Below.mono (by assumption) ?_) | with_reducible exact Below.size (And.right (by assumption)) | (focus omega) | (focus (simp; done)) | (focus (simp; omega)) | (focus (simp at *; omega))))) (b10.mono (by first | exact Nat.le_refl _ | omega | (simp; done) | (simp; omega)))
    have s10 := c10.size
    have bb10 := H_bb9.out.trans (c10.mono H_bb9.out.size)
    have t10 := H_t9.out.below c10
    have z10 := H_z9.out.below c10
    have u10 := H_u9.out.below c10
    have l10 := H_l9.out.below c10
    have g10 := H_g9.out.below c10
    have H_b10 := Lib.hid b10; clear b10; have H_c10 := Lib.hid c10; clear c10; have H_bb10 := Lib.hid bb10; clear bb10; have H_t10 := Lib.hid t10; clear t10; have H_z10 := Lib.hid z10; clear z10; have H_u10 := Lib.hid u10; clear u10; have H_l10 := Lib.hid l10; clear l10; have H_g10 := Lib.hid g10; clear g10
    clear g0 g1 g2 g3 g4 g5 g6 g7
    have g0 := (H_g10.out 0 _ rfl).at
    have g1 := (H_g10.out 1 _ rfl).at
    have g2 := (H_g10.out 2 _ rfl).at
    have g3 := (H_g10.out 3 _ rfl).at
    have g4 := (H_g10.out 4 _ rfl).at
    have g5 := (H_g10.out 5 _ rfl).at
    have g6 := (H_g10.out 6 _ rfl).at
    have g7 := (H_g10.out 7 _ rfl).at
    go_wp2_with fail
    (with_reducible refine (H_q10.out _ ?_ ?_ ?_ ?_).mono ?_)
    · exact H_z10.out.below (show Below w10.heap.size w10 _ by (repeat (first | with_reducible exact Below.refl _ _ | with_reducible exact Nat.le_refl _ | with_reducible assumption | with_reducible refine Below.drew ?_ | with_reducible refine below_drewN ?_ _ | with_reducible refine Below.alloc ?_ ?_ _ | with_reducible refine Below.setCell ?_ ?_ _ | with_reducible exact And.right (by assumption) | with_reducible refine Below.trans ?_ (Below.mono (by assumption) ?_) | with_reducible exact Below.size (And.right (by assumption)) | (focus omega) | (focus (simp; done)) | (focus (simp; omega)) | (focus (simp at *; omega)))))
    · exact H_u10.out.below (show Below w10.heap.size w10 _ by (repeat (first | with_reducible exact Below.refl _ _ | with_reducible exact Nat.le_refl _ | with_reducible assumption | with_reducible refine Below.drew ?_ | with_reducible refine below_drewN ?_ _ | with_reducible refine Below.alloc ?_ ?_ _ | with_reducible refine Below.setCell ?_ ?_ _ | with_reducible exact And.right (by assumption) | with_reducible refine Below.trans ?_ (Below.mono (by assumption) ?_) | with_reducible exact Below.size (And.right (by assumption)) | (focus omega) | (focus (simp; done)) | (focus (simp; omega)) | (focus (simp at *; omega)))))
    · exact H_l10.out.below (show Below w10.heap.size w10 _ by (repeat (first | with_reducible exact Below.refl _ _ | with_reducible exact Nat.le_refl _ | with_reducible assumption | with_reducible refine Below.drew ?_ | with_reducible refine below_drewN ?_ _ | with_reducible refine Below.alloc ?_ ?_ _ | with_reducible refine Below.setCell ?_ ?_ _ | with_reducible exact And.right (by assumption) | with_reducible refine Below.trans ?_ (Below.mono (by assumption) ?_) | with_reducible exact Below.size (And.right (by assumption)) | (focus omega) | (focus (simp; done)) | (focus (simp; omega)) | (focus (simp at *; omega)))))
    · exact H_t10.out.below (show Below w10.heap.size w10 _ by (repeat (first | with_reducible exact Below.refl _ _ | with_reducible exact Nat.le_refl _ | with_reducible assumption | with_reducible refine Below.drew ?_ | with_reducible refine below_drewN ?_ _ | with_reducible refine Below.alloc ?_ ?_ _ | with_reducible refine Below.setCell ?_ ?_ _ | with_reducible exact And.right (by assumption) | with_reducible refine Below.trans ?_ (Below.mono (by assumption) ?_) | with_reducible exact Below.size (And.right (by assumption)) | (focus omega) | (focus (simp; done)) | (focus (simp; omega)) | (focus (simp at *; omega)))))
    rintro e w11 ⟨X1, k1, X2, k2, rfl, o1, o2, b11⟩
    have c11 : Below w10.heap.size w10 w11 := Below.trans (by (repeat (first | with_reducible exact Below.refl _ _ | with_reducible exact Nat.le_refl _ | with_reducible assumption | with_reducible refine Below.drew ?_ | with_reducible refine below_drewN ?_ _ | with_reducible refine Below.alloc ?_ ?_ _ | with_reducible refine Below.setCell ?_ ?_ _ | with_reducible exact And.right (by assumption) | with_reducible refine Below.trans ?_ (Below.mono (by assumption) ?_) | with_reducible exact Below.size (And.right (by assumption)) | (focus omega) | (focus (simp; done)) | (focus (simp; omega)) | (focus (simp at *; omega))))) (b11.mono (by first | exact Nat.le_refl _ | omega | (simp; done) | (simp; omega)))
    have s11 := c11.size
    have bb11 := H_bb10.out.trans (c11.mono H_bb10.out.size)
    have t11 := H_t10.out.below c11
    have z11 := H_z10.out.below c11
    have u11 := H_u10.out.below c11
    have l11 := H_l10.out.below c11
    have g11 := H_g10.out.below c11
    have H_b11 := Lib.hid b11; clear b11; have H_c11 := Lib.hid c11; clear c11; have H_bb11 := Lib.hid bb11; clear bb11; have H_t11 := Lib.hid t11; clear t11; have H_z11 := Lib.hid z11; clear z11; have H_u11 := Lib.hid u11; clear u11; have H_l11 := Lib.hid l11; clear l11; have H_g11 := Lib.hid g11; clear g11
    clear g0 g1 g2 g3 g4 g5 g6 g7
    have H_o1 := Lib.hid o1; clear o1; have H_o2 := Lib.hid o2; clear o2
    have g0 := (H_g11.out 0 _ rfl).at
    have g1 := (H_g11.out 1 _ rfl).at
    have g2 := (H_g11.out 2 _ rfl).at
    have g3 := (H_g11.out 3 _ rfl).at
    have g4 := (H_g11.out 4 _ rfl).at
    have g5 := (H_g11.out 5 _ rfl).at
    have g6 := (H_g11.out 6 _ rfl).at
    have g7 := (H_g11.out 7 _ rfl).at
    have lg := (H_g11.out 0 _ rfl).lt
    go_wp2_with fail
    (with_reducible refine (H_q11.out _ ?_ ?_ ?_).mono ?_)
    · exact H_z11.out.below (show Below w11.heap.size w11 _ by (repeat (first | with_reducible exact Below.refl _ _ | with_reducible exact Nat.le_refl _ | with_reducible assumption | with_reducible refine Below.drew ?_ | with_reducible refine below_drewN ?_ _ | with_reducible refine Below.alloc ?_ ?_ _ | with_reducible refine Below.setCell ?_ ?_ _ | with_reducible exact And.right (by assumption) | with_reducible refine Below.trans ?_ (Below.mono (by assumption) ?_) | with_reducible exact Below.size (And.right (by assumption)) | (focus omega) | (focus (simp; done)) | (focus (simp; omega)) | (focus (simp at *; omega)))))
    · exact H_u11.out.below (show Below w11.heap.size w11 _ by (repeat (first | with_reducible exact Below.refl _ _ | with_reducible exact Nat.le_refl _ | with_reducible assumption | with_reducible refine Below.drew ?_ | with_reducible refine below_drewN ?_ _ | with_reducible refine Below.alloc ?_ ?_ _ | with_reducible refine Below.setCell ?_ ?_ _ | with_reducible exact And.right (by assumption) | with_reducible refine Below.trans ?_ (Below.mono (by assumption) ?_) | with_reducible exact Below.size (And.right (by assumption)) | (focus omega) | (focus (simp; done)) | (focus (simp; omega)) | (focus (simp at *; omega)))))
    · exact H_l11.out.below (show Below w11.heap.size w11 _ by (repeat (first | with_reducible exact Below.refl _ _ | with_reducible exact Nat.le_refl _ | with_reducible assumption | with_reducible refine Below.drew ?_ | with_reducible refine below_drewN ?_ _ | with_reducible refine Below.alloc ?_ ?_ _ | with_reducible refine Below.setCell ?_ ?_ _ | with_reducible exact And.right (by assumption) | with_reducible refine Below.trans ?_ (Below.mono (by assumption) ?_) | with_reducible exact Below.size (And.right (by assumption)) | (focus omega) | (focus (simp; done)) | (focus (simp; omega)) | (focus (simp at *; omega)))))
    rintro e w12 ⟨Y1, j1, Y2, j2, rfl, o3', o4', b12⟩
    have c12 : Below w11.heap.size w11 w12 := Below.trans (by (repeat (first | with_reducible exact Below.refl _ _ | with_reducible exact Nat.le_refl _ | with_reducible assumption | with_reducible refine Below.drew ?_ | with_reducible refine below_drewN ?_ _ | with_reducible refine Below.alloc ?_ ?_ _ | with_reducible refine Below.setCell ?_ ?_ _ | with_reducible exact And.right (by assumption) | with_reducible refine Below.trans ?_ (Below.mono (by assumption) ?_) | with_reducible exact Below.size (And.right (by assumption)) | (focus omega) | (focus (simp; done)) | (focus (simp; omega)) | (focus (simp at *; omega))))) (b12.mono (by first | exact Nat.le_refl _ | omega | (simp; done) | (simp; omega)))
    have s12 := c12.size
    have bb12 := H_bb11.out.trans (c12.mono H_bb11.out.size)
    have t12 := H_t11.out.below c12
    have g12 := H_g11.out.below c12
    have H_b12 := Lib.hid b12; clear b12; have H_c12 := Lib.hid c12; clear c12; have H_bb12 := Lib.hid bb12; clear bb12; have H_t12 := Lib.hid t12; clear t12; have H_g12 := Lib.hid g12; clear g12
    clear g0 g1 g2 g3 g4 g5 g6 g7
    have d12 : Blk w12 w11.heap.size #[.int .i64 Z0.s, .int .i64 Z0.c, .slice X1 Z0.l.length k1, .int .u64 Z0.u, .int .i64 Z1.s, .int .i64 Z1.c, .slice X2 Z1.l.length k2, .int .u64 Z1.u] := (blk_new rfl).below H_b12.out
    have r1 := H_o1.out.below H_c12.out
    have r2 := H_o2.out.below H_c12.out
    have H_d12 := Lib.hid d12; clear d12; have H_r1 := Lib.hid r1; clear r1; have H_r2 := Lib.hid r2; clear r2; have H_o3' := Lib.hid o3'; clear o3'; have H_o4' := Lib.hid o4'; clear o4'
    have g0 := (H_d12.out 0 _ rfl).at
    have g1 := (H_d12.out 1 _ rfl).at
    have g2 := (H_d12.out 2 _ rfl).at
    have g3 := (H_d12.out 3 _ rfl).at
    have g4 := (H_d12.out 4 _ rfl).at
    have g5 := (H_d12.out 5 _ rfl).at
    have g6 := (H_d12.out 6 _ rfl).at
    have g7 := (H_d12.out 7 _ rfl).at
    have ld := (H_d12.out 0 _ rfl).lt
    go_wp2_with fail
    (with_reducible refine (H_q12.out _ X1 k1 X2 k2 Y1 j1 Y2 j2 ?_ ?_ ?_ ?_).mono ?_)
    · exact H_r1.out.below (show Below w12.heap.size w12 _ by (repeat (first | with_reducible exact Below.refl _ _ | with_reducible exact Nat.le_refl _ | with_reducible assumption | with_reducible refine Below.drew ?_ | with_reducible refine below_drewN ?_ _ | with_reducible refine Below.alloc ?_ ?_ _ | with_reducible refine Below.setCell ?_ ?_ _ | with_reducible exact And.right (by assumption) | with_reducible refine Below.trans ?_ (Below.mono (by assumption) ?_) | with_reducible exact Below.size (And.right (by assumption)) | (focus omega) | (focus (simp; done)) | (focus (simp; omega)) | (focus (simp at *; omega)))))
    · exact H_r2.out.below (show Below w12.heap.size w12 _ by (repeat (first | with_reducible exact Below.refl _ _ | with_reducible exact Nat.le_refl _ | with_reducible assumption | with_reducible refine Below.drew ?_ | with_reducible refine below_drewN ?_ _ | with_reducible refine Below.alloc ?_ ?_ _ | with_reducible refine Below.setCell ?_ ?_ _ | with_reducible exact And.right (by assumption) | with_reducible refine Below.trans ?_ (Below.mono (by assumption) ?_) | with_reducible exact Below.size (And.right (by assumption)) | (focus omega) | (focus (simp; done)) | (focus (simp; omega)) | (focus (simp at *; omega)))))
    · exact H_o3'.out.below (show Below w12.heap.size w12 _ by (repeat (first | with_reducible exact Below.refl _ _ | with_reducible exact Nat.le_refl _ | with_reducible assumption | with_reducible refine Below.drew ?_ | with_reducible refine below_drewN ?_ _ | with_reducible refine Below.alloc ?_ ?_ _ | with_reducible refine Below.setCell ?_ ?_ _ | with_reducible exact And.right (by assumption) | with_reducible refine Below.trans ?_ (Below.mono (by assumption) ?_) | with_reducible exact Below.size (And.right (by assumption)) | (focus omega) | (focus (simp; done)) | (focus (simp; omega)) | (focus (simp at *; omega)))))
    · exact H_o4'.out.below (show Below w12.heap.size w12 _ by (repeat (first | with_reducible exact Below.refl _ _ | with_reducible exact Nat.le_refl _ | with_reducible assumption | with_reducible refine Below.drew ?_ | with_reducible refine below_drewN ?_ _ | with_reducible refine Below.alloc ?_ ?_ _ | with_reducible refine Below.setCell ?_ ?_ _ | with_reducible exact And.right (by assumption) | with_reducible refine Below.trans ?_ (Below.mono (by assumption) ?_) | with_reducible exact Below.size (And.right (by assumption)) | (focus omega) | (focus (simp; done)) | (focus (simp; omega)) | (focus (simp at *; omega)))))
    rintro e w13 ⟨rfl, b13⟩
    have c13 : Below w12.heap.size w12 w13 := Below.trans (by (repeat (first | with_reducible exact Below.refl _ _ | with_reducible exact Nat.le_refl _ | with_reducible assumption | with_reducible refine Below.drew ?_ | with_reducible refine below_drewN ?_ _ | with_reducible refine Below.alloc ?_ ?_ _ | with_reducible refine Below.setCell ?_ ?_ _ | with_reducible exact And.right (by assumption) | with_reducible refine Below.trans ?_ (Below.mono (by assumption) ?_) | with_reducible exact Below.size (And.right (by assumption)) | (focus omega) | (focus (simp; done)) | (focus (simp; omega)) | (focus (simp at *; omega))))) (b13.mono (by first | exact Nat.le_refl _ | omega | (simp; done) | (simp; omega)))
    have s13 := c13.size
    have bb13 := H_bb12.out.trans (c13.mono H_bb12.out.size)
    have t13 := H_t12.out.below c13
    have H_b13 := Lib.hid b13; clear b13; have H_c13 := Lib.hid c13; clear c13; have H_bb13 := Lib.hid bb13; clear bb13; have H_t13 := Lib.hid t13; clear t13
    clear g0 g1 g2 g3 g4 g5 g6 g7
    go_wp2_with fail
    go_ret
    exact ⟨rfl, H_bw.out.trans (H_bb13.out.mono H_bw.out.size)⟩
  · have d1 : decide ((40 : Int) < (N : Int)) = false := decide_eq_false (by omega)
    have q3 := fun W (h : IntsAt W D' .i64 l) h2 => make_any s c D' r N l H_hN.out W H_hs.out H_hc.out h (by omega) H_hf.out h2
    have q4 := fun W (h : IntsAt W D' .i64 l) => rmake_any s c D' r N l H_hN.out W H_hs.out H_hc.out h (by omega) H_hf.out
    have mlen := mkS_len s c l
    have q5 := fun W (h : SlotIs W A n x) h2 => valid_at p h h2
    have q6 := fun W (h : SlotIs W A n x) => rvalid_at p h
    have q8 := fun W (h : SlotIs W A n x) (h2 : SlotIs W B m y) h3 => best_any x y A n p B m q W h h2 h3
    have q9 := fun W (h : SlotIs W A n x) (h2 : SlotIs W B m y) => rbest_any x y A n p B m q W h h2
    have q10 := fun W (h : SlotIs W A n x) (h2 : SlotIs W B m y) (h0 : IntsAt W D' .i64 l) h3 => write_any x y c at_ A n p B m q D' N r l H_hN.out W h h2 H_hc.out h0 (by omega) H_hf.out h3
    have q11 := fun W (h : SlotIs W A n x) (h2 : SlotIs W B m y) (h0 : IntsAt W D' .i64 l) => rwrite_any x y c at_ A n p B m q D' N r l H_hN.out W h h2 H_hc.out h0 (by omega) H_hf.out
    have wlen := wr_len (x := x) (y := y) (c := c) (a := at_) (l := l) (by rw [H_hnl.out]; omega) (by rw [H_hml.out]; omega)
    generalize mkS s c l = M at *
    generalize mkE s c l = E at *
    generalize x.ok = V at *
    generalize bestI x y = BI at *
    generalize bestB x y = BB at *
    generalize wr0 x y c l at_ = Z0 at *
    generalize wr1 x y c l at_ = Z1 at *
    generalize wrE x y c l at_ = EE at *
    have q7 := fun W X cx Y cy (h : IntsAt W X .i64 M.l) (h2 : IntsAt W Y .i64 M.l) => rsame_at M M X M.l.length cx rfl Y M.l.length cy rfl W (by omega) (by omega) h h2
    have q12 := fun W X cx X' cx' Y cy Y' cy' (h : IntsAt W X .i64 Z0.l) (h1 : IntsAt W X' .i64 Z1.l) (h2 : IntsAt W Y .i64 Z0.l) (h3 : IntsAt W Y' .i64 Z1.l) => rsameBoth_any Z0 Z1 Z0 Z1 X Z0.l.length cx rfl X' Z1.l.length cx' rfl Y Z0.l.length cy rfl Y' Z1.l.length cy' rfl W (by omega) (by omega) (by omega) (by omega) h h1 h2 h3
    rw [sameS_self] at q7
    rw [sameS_self, sameS_self] at q12
    have e1 : (V == V) = true := by simp
    have e2 : (E == E) = true := by simp
    have e3 : (BI == BI) = true := by simp
    have e4 : (BB == BB) = true := by simp
    have e5 : (EE == EE) = true := by simp
    unfold SlotErr at q3 q4
    unfold SlotsErr at q10 q11
    have H_q3 := Lib.hid q3; clear q3; have H_q4 := Lib.hid q4; clear q4; have H_q5 := Lib.hid q5; clear q5; have H_q6 := Lib.hid q6; clear q6; have H_q7 := Lib.hid q7; clear q7; have H_q8 := Lib.hid q8; clear q8; have H_q9 := Lib.hid q9; clear q9; have H_q10 := Lib.hid q10; clear q10; have H_q11 := Lib.hid q11; clear q11; have H_q12 := Lib.hid q12; clear q12; have H_mlen := Lib.hid mlen; clear mlen; have H_wlen := Lib.hid wlen; clear wlen
    go_wp2_with fail
    (with_reducible refine (H_q3.out _ ?_ ?_).mono ?_)
    · exact H_l2.out.below (show Below w2.heap.size w2 _ by (repeat (first | with_reducible exact Below.refl _ _ | with_reducible exact Nat.le_refl _ | with_reducible assumption | with_reducible refine Below.drew ?_ | with_reducible refine below_drewN ?_ _ | with_reducible refine Below.alloc ?_ ?_ _ | with_reducible refine Below.setCell ?_ ?_ _ | with_reducible exact And.right (by assumption) | with_reducible refine Below.trans ?_ (Below.mono (by assumption) ?_) | with_reducible exact Below.size (And.right (by assumption)) | (focus omega) | (focus (simp; done)) | (focus (simp; omega)) | (focus (simp at *; omega)))))
    · exact H_t2.out.below (show Below w2.heap.size w2 _ by (repeat (first | with_reducible exact Below.refl _ _ | with_reducible exact Nat.le_refl _ | with_reducible assumption | with_reducible refine Below.drew ?_ | with_reducible refine below_drewN ?_ _ | with_reducible refine Below.alloc ?_ ?_ _ | with_reducible refine Below.setCell ?_ ?_ _ | with_reducible exact And.right (by assumption) | with_reducible refine Below.trans ?_ (Below.mono (by assumption) ?_) | with_reducible exact Below.size (And.right (by assumption)) | (focus omega) | (focus (simp; done)) | (focus (simp; omega)) | (focus (simp at *; omega)))))
    rintro e w3 ⟨X, cx, rfl, ho, b3⟩
    have c3 : Below w2.heap.size w2 w3 := Below.trans (by (repeat (first | with_reducible exact Below.refl _ _ | with_reducible exact Nat.le_refl _ | with_reducible assumption | with_reducible refine Below.drew ?_ | with_reducible refine below_drewN ?_ _ | with_reducible refine Below.alloc ?_ ?_ _ | with_reducible refine Below.setCell ?_ ?_ _ | with_reducible exact And.right (by assumption) | with_reducible refine Below.trans ?_ (Below.mono (by assumption) ?_) | with_reducible exact Below.size (And.right (by assumption)) | (focus omega) | (focus (simp; done)) | (focus (simp; omega)) | (focus (simp at *; omega))))) (b3.mono (by first | exact Nat.le_refl _ | omega | (simp; done) | (simp; omega)))
    have s3 := c3.size
    have bb3 := H_bb2.out.trans (c3.mono H_bb2.out.size)
    have t3 := H_t2.out.below c3
    have z3 := H_z2.out.below c3
    have u3 := H_u2.out.below c3
    have l3 := H_l2.out.below c3
    have g3 := H_g2.out.below c3
    have H_b3 := Lib.hid b3; clear b3; have H_c3 := Lib.hid c3; clear c3; have H_bb3 := Lib.hid bb3; clear bb3; have H_t3 := Lib.hid t3; clear t3; have H_z3 := Lib.hid z3; clear z3; have H_u3 := Lib.hid u3; clear u3; have H_l3 := Lib.hid l3; clear l3; have H_g3 := Lib.hid g3; clear g3
    have o3 := ho.ints
    have H_ho := Lib.hid ho; clear ho; have H_o3 := Lib.hid o3; clear o3
    go_wp2_with fail
    (with_reducible refine (H_q4.out _ ?_).mono ?_)
    · exact H_l3.out.below (show Below w3.heap.size w3 _ by (repeat (first | with_reducible exact Below.refl _ _ | with_reducible exact Nat.le_refl _ | with_reducible assumption | with_reducible refine Below.drew ?_ | with_reducible refine below_drewN ?_ _ | with_reducible refine Below.alloc ?_ ?_ _ | with_reducible refine Below.setCell ?_ ?_ _ | with_reducible exact And.right (by assumption) | with_reducible refine Below.trans ?_ (Below.mono (by assumption) ?_) | with_reducible exact Below.size (And.right (by assumption)) | (focus omega) | (focus (simp; done)) | (focus (simp; omega)) | (focus (simp at *; omega)))))
    rintro e w4 ⟨Y, cy, rfl, hp, b4⟩
    have c4 : Below w3.heap.size w3 w4 := Below.trans (by (repeat (first | with_reducible exact Below.refl _ _ | with_reducible exact Nat.le_refl _ | with_reducible assumption | with_reducible refine Below.drew ?_ | with_reducible refine below_drewN ?_ _ | with_reducible refine Below.alloc ?_ ?_ _ | with_reducible refine Below.setCell ?_ ?_ _ | with_reducible exact And.right (by assumption) | with_reducible refine Below.trans ?_ (Below.mono (by assumption) ?_) | with_reducible exact Below.size (And.right (by assumption)) | (focus omega) | (focus (simp; done)) | (focus (simp; omega)) | (focus (simp at *; omega))))) (b4.mono (by first | exact Nat.le_refl _ | omega | (simp; done) | (simp; omega)))
    have s4 := c4.size
    have bb4 := H_bb3.out.trans (c4.mono H_bb3.out.size)
    have t4 := H_t3.out.below c4
    have z4 := H_z3.out.below c4
    have u4 := H_u3.out.below c4
    have l4 := H_l3.out.below c4
    have g4 := H_g3.out.below c4
    have o4 := H_o3.out.below c4
    have H_b4 := Lib.hid b4; clear b4; have H_c4 := Lib.hid c4; clear c4; have H_bb4 := Lib.hid bb4; clear bb4; have H_t4 := Lib.hid t4; clear t4; have H_z4 := Lib.hid z4; clear z4; have H_u4 := Lib.hid u4; clear u4; have H_l4 := Lib.hid l4; clear l4; have H_g4 := Lib.hid g4; clear g4; have H_o4 := Lib.hid o4; clear o4
    have i4 := hp.ints
    have a4 : Blk w4 w3.heap.size #[.int .i64 M.s, .int .i64 M.c, .slice X M.l.length cx, .int .u64 M.u] := (blk_new rfl).below H_b4.out
    have H_hp := Lib.hid hp; clear hp; have H_i4 := Lib.hid i4; clear i4; have H_a4 := Lib.hid a4; clear a4
    go_wp2_with fail
    obtain ⟨w5, hw5⟩ : ∃ W, w4.alloc (.cells #[.int .i64 M.s, .int .i64 M.c, .slice Y M.l.length cy, .int .u64 M.u] 50) = W := ⟨_, rfl⟩
    rw [hw5]
    have c5 : Below w4.heap.size w4 w5 := by rw [← hw5]; exact (Below.refl _ _).alloc (Nat.le_refl _) _
    have v5 : Blk w5 w4.heap.size #[.int .i64 M.s, .int .i64 M.c, .slice Y M.l.length cy, .int .u64 M.u] := by rw [← hw5]; exact blk_new rfl
    have s5 := c5.size
    have bb5 := H_bb4.out.trans (c5.mono H_bb4.out.size)
    have t5 := H_t4.out.below c5
    have z5 := H_z4.out.below c5
    have u5 := H_u4.out.below c5
    have l5 := H_l4.out.below c5
    have g5 := H_g4.out.below c5
    have o5 := H_o4.out.below c5
    have i5 := H_i4.out.below c5
    have a5 := H_a4.out.below c5
    have H_hw5 := Lib.hid hw5; clear hw5; have H_c5 := Lib.hid c5; clear c5; have H_v5 := Lib.hid v5; clear v5; have H_bb5 := Lib.hid bb5; clear bb5; have H_t5 := Lib.hid t5; clear t5; have H_z5 := Lib.hid z5; clear z5; have H_u5 := Lib.hid u5; clear u5; have H_l5 := Lib.hid l5; clear l5; have H_g5 := Lib.hid g5; clear g5; have H_o5 := Lib.hid o5; clear o5; have H_i5 := Lib.hid i5; clear i5; have H_a5 := Lib.hid a5; clear a5
    have g0 := (H_g5.out 0 _ rfl).at
    have g1 := (H_g5.out 1 _ rfl).at
    have g2 := (H_g5.out 2 _ rfl).at
    have g3 := (H_g5.out 3 _ rfl).at
    have g4 := (H_g5.out 4 _ rfl).at
    have g5 := (H_g5.out 5 _ rfl).at
    have g6 := (H_g5.out 6 _ rfl).at
    have g7 := (H_g5.out 7 _ rfl).at
    have a0 := (H_a5.out 0 _ rfl).at
    have a1 := (H_a5.out 1 _ rfl).at
    have a2 := (H_a5.out 2 _ rfl).at
    have a3 := (H_a5.out 3 _ rfl).at
    have v0 := (H_v5.out 0 _ rfl).at
    have v1 := (H_v5.out 1 _ rfl).at
    have v2 := (H_v5.out 2 _ rfl).at
    have v3 := (H_v5.out 3 _ rfl).at
    have lg := (H_g5.out 0 _ rfl).lt; have la := (H_a5.out 0 _ rfl).lt; have lv := (H_v5.out 0 _ rfl).lt
    go_region_held3 (fun W => (∀ b o, b < w5.heap.size → W.cell? ⟨b, o, none⟩ = w5.cell? ⟨b, o, none⟩) ∧ Below w5.heap.size w5 W) (first | (refine ext_mk ?_; (repeat (first | with_reducible exact Below.refl _ _ | with_reducible exact Nat.le_refl _ | with_reducible assumption | with_reducible refine Below.drew ?_ | with_reducible refine below_drewN ?_ _ | with_reducible refine Below.alloc ?_ ?_ _ | with_reducible refine Below.setCell ?_ ?_ _ | with_reducible exact And.right (by assumption) | with_reducible refine Below.trans ?_ (Below.mono (by assumption) ?_) | with_reducible exact Below.size (And.right (by assumption)) | (focus omega) | (focus (simp; done)) | (focus (simp; omega)) | (focus (simp at *; omega)))))) (first | (go_at_call 34; (with_reducible refine (H_q5.out _ ?_ ?_).mono ?_); (focus (exact H_z5.out.below (And.right (by assumption : _ ∧ Below w5.heap.size w5 _)))); (focus (exact H_t5.out.below (And.right (by assumption : _ ∧ Below w5.heap.size w5 _)))); rintro e w6 ⟨rfl, hbw6⟩; have gw6 := Below.trans (And.right (by assumption : _ ∧ Below w5.heap.size w5 _)) (hbw6.mono (Below.size (And.right (by assumption : _ ∧ Below w5.heap.size w5 _)))); have gsw6 := gw6.size; have hcf := bcell hbw6; have hcw6 := hcf.1; have hfw6 := hcf.2; have hsw6 := hbw6.size; (try simp only [World.size_alloc, World.heap_drewN, heap_drew] at hsw6); clear hbw6 hcf; (try have hzw6 : w5.heap.size < w6.heap.size := by omega)) | (go_at_call 35; (with_reducible refine (H_q6.out _ ?_).mono ?_); (focus (exact H_z5.out.below (And.right (by assumption : _ ∧ Below w5.heap.size w5 _)))); rintro e w7 ⟨rfl, hbw7⟩; have gw7 := Below.trans (And.right (by assumption : _ ∧ Below w5.heap.size w5 _)) (hbw7.mono (Below.size (And.right (by assumption : _ ∧ Below w5.heap.size w5 _)))); have gsw7 := gw7.size; have hcf := bcell hbw7; have hcw7 := hcf.1; have hfw7 := hcf.2; have hsw7 := hbw7.size; (try simp only [World.size_alloc, World.heap_drewN, heap_drew] at hsw7); clear hbw7 hcf; (try have hzw7 : w5.heap.size < w7.heap.size := by omega)) | (go_at_call 36; (with_reducible refine (H_q7.out _ X cx Y cy ?_ ?_).mono ?_); (focus (exact H_o5.out.below (And.right (by assumption : _ ∧ Below w5.heap.size w5 _)))); (focus (exact H_i5.out.below (And.right (by assumption : _ ∧ Below w5.heap.size w5 _)))); rintro e w8 ⟨rfl, hbw8⟩; have gw8 := Below.trans (And.right (by assumption : _ ∧ Below w5.heap.size w5 _)) (hbw8.mono (Below.size (And.right (by assumption : _ ∧ Below w5.heap.size w5 _)))); have gsw8 := gw8.size; have hcf := bcell hbw8; have hcw8 := hcf.1; have hfw8 := hcf.2; have hsw8 := hbw8.size; (try simp only [World.size_alloc, World.heap_drewN, heap_drew] at hsw8); clear hbw8 hcf; (try have hzw8 : w5.heap.size < w8.heap.size := by omega)))
    have c8 : Below w5.heap.size w5 w8 := And.right (by assumption)
    clear lg la lv hcw6 hfw6 hcw7 hfw7 hcw8 hfw8
    clear g0 g1 g2 g3 g4 g5 g6 g7
    clear a0 a1 a2 a3
    clear v0 v1 v2 v3
    have s8 := c8.size
    have bb8 := H_bb5.out.trans (c8.mono H_bb5.out.size)
    have t8 := H_t5.out.below c8
    have z8 := H_z5.out.below c8
    have u8 := H_u5.out.below c8
    have l8 := H_l5.out.below c8
    have g8 := H_g5.out.below c8
    clear gw6 gw7 gw8 gsw6 gsw7 gsw8
    have H_c8 := Lib.hid c8; clear c8; have H_bb8 := Lib.hid bb8; clear bb8; have H_t8 := Lib.hid t8; clear t8; have H_z8 := Lib.hid z8; clear z8; have H_u8 := Lib.hid u8; clear u8; have H_l8 := Lib.hid l8; clear l8; have H_g8 := Lib.hid g8; clear g8
    have g0 := (H_g8.out 0 _ rfl).at
    have g1 := (H_g8.out 1 _ rfl).at
    have g2 := (H_g8.out 2 _ rfl).at
    have g3 := (H_g8.out 3 _ rfl).at
    have g4 := (H_g8.out 4 _ rfl).at
    have g5 := (H_g8.out 5 _ rfl).at
    have g6 := (H_g8.out 6 _ rfl).at
    have g7 := (H_g8.out 7 _ rfl).at
    go_wp2_with fail
    (with_reducible refine (H_q8.out _ ?_ ?_ ?_).mono ?_)
    · exact H_z8.out.below (show Below w8.heap.size w8 _ by (repeat (first | with_reducible exact Below.refl _ _ | with_reducible exact Nat.le_refl _ | with_reducible assumption | with_reducible refine Below.drew ?_ | with_reducible refine below_drewN ?_ _ | with_reducible refine Below.alloc ?_ ?_ _ | with_reducible refine Below.setCell ?_ ?_ _ | with_reducible exact And.right (by assumption) | with_reducible refine Below.trans ?_ (Below.mono (by assumption) ?_) | with_reducible exact Below.size (And.right (by assumption)) | (focus omega) | (focus (simp; done)) | (focus (simp; omega)) | (focus (simp at *; omega)))))
    · exact H_u8.out.below (show Below w8.heap.size w8 _ by (repeat (first | with_reducible exact Below.refl _ _ | with_reducible exact Nat.le_refl _ | with_reducible assumption | with_reducible refine Below.drew ?_ | with_reducible refine below_drewN ?_ _ | with_reducible refine Below.alloc ?_ ?_ _ | with_reducible refine Below.setCell ?_ ?_ _ | with_reducible exact And.right (by assumption) | with_reducible refine Below.trans ?_ (Below.mono (by assumption) ?_) | with_reducible exact Below.size (And.right (by assumption)) | (focus omega) | (focus (simp; done)) | (focus (simp; omega)) | (focus (simp at *; omega)))))
    · exact H_t8.out.below (show Below w8.heap.size w8 _ by (repeat (first | with_reducible exact Below.refl _ _ | with_reducible exact Nat.le_refl _ | with_reducible assumption | with_reducible refine Below.drew ?_ | with_reducible refine below_drewN ?_ _ | with_reducible refine Below.alloc ?_ ?_ _ | with_reducible refine Below.setCell ?_ ?_ _ | with_reducible exact And.right (by assumption) | with_reducible refine Below.trans ?_ (Below.mono (by assumption) ?_) | with_reducible exact Below.size (And.right (by assumption)) | (focus omega) | (focus (simp; done)) | (focus (simp; omega)) | (focus (simp at *; omega)))))
    rintro e w9 ⟨rfl, b9⟩
    have c9 : Below w8.heap.size w8 w9 := Below.trans (by (repeat (first | with_reducible exact Below.refl _ _ | with_reducible exact Nat.le_refl _ | with_reducible assumption | with_reducible refine Below.drew ?_ | with_reducible refine below_drewN ?_ _ | with_reducible refine Below.alloc ?_ ?_ _ | with_reducible refine Below.setCell ?_ ?_ _ | with_reducible exact And.right (by assumption) | with_reducible refine Below.trans ?_ (Below.mono (by assumption) ?_) | with_reducible exact Below.size (And.right (by assumption)) | (focus omega) | (focus (simp; done)) | (focus (simp; omega)) | (focus (simp at *; omega))))) (b9.mono (by first | exact Nat.le_refl _ | omega | (simp; done) | (simp; omega)))
    have s9 := c9.size
    have bb9 := H_bb8.out.trans (c9.mono H_bb8.out.size)
    have t9 := H_t8.out.below c9
    have z9 := H_z8.out.below c9
    have u9 := H_u8.out.below c9
    have l9 := H_l8.out.below c9
    have g9 := H_g8.out.below c9
    have H_b9 := Lib.hid b9; clear b9; have H_c9 := Lib.hid c9; clear c9; have H_bb9 := Lib.hid bb9; clear bb9; have H_t9 := Lib.hid t9; clear t9; have H_z9 := Lib.hid z9; clear z9; have H_u9 := Lib.hid u9; clear u9; have H_l9 := Lib.hid l9; clear l9; have H_g9 := Lib.hid g9; clear g9
    clear g0 g1 g2 g3 g4 g5 g6 g7
    have g0 := (H_g9.out 0 _ rfl).at
    have g1 := (H_g9.out 1 _ rfl).at
    have g2 := (H_g9.out 2 _ rfl).at
    have g3 := (H_g9.out 3 _ rfl).at
    have g4 := (H_g9.out 4 _ rfl).at
    have g5 := (H_g9.out 5 _ rfl).at
    have g6 := (H_g9.out 6 _ rfl).at
    have g7 := (H_g9.out 7 _ rfl).at
    go_wp2_with fail
    (with_reducible refine (H_q9.out _ ?_ ?_).mono ?_)
    · exact H_z9.out.below (show Below w9.heap.size w9 _ by (repeat (first | with_reducible exact Below.refl _ _ | with_reducible exact Nat.le_refl _ | with_reducible assumption | with_reducible refine Below.drew ?_ | with_reducible refine below_drewN ?_ _ | with_reducible refine Below.alloc ?_ ?_ _ | with_reducible refine Below.setCell ?_ ?_ _ | with_reducible exact And.right (by assumption) | with_reducible refine Below.trans ?_ (Below.mono (by assumption) ?_) | with_reducible exact Below.size (And.right (by assumption)) | (focus omega) | (focus (simp; done)) | (focus (simp; omega)) | (focus (simp at *; omega)))))
    · exact H_u9.out.below (show Below w9.heap.size w9 _ by (repeat (first | with_reducible exact Below.refl _ _ | with_reducible exact Nat.le_refl _ | with_reducible assumption | with_reducible refine Below.drew ?_ | with_reducible refine below_drewN ?_ _ | with_reducible refine Below.alloc ?_ ?_ _ | with_reducible refine Below.setCell ?_ ?_ _ | with_reducible exact And.right (by assumption) | with_reducible refine Below.trans ?_ (Below.mono (by assumption) ?_) | with_reducible exact Below.size (And.right (by assumption)) | (focus omega) | (focus (simp; done)) | (focus (simp; omega)) | (focus (simp at *; omega)))))
    rintro e w10 ⟨rfl, b10⟩
    have c10 : Below w9.heap.size w9 w10 := Below.trans (by (repeat (first | with_reducible exact Below.refl _ _ | with_reducible exact Nat.le_refl _ | with_reducible assumption | with_reducible refine Below.drew ?_ | with_reducible refine below_drewN ?_ _ | with_reducible refine Below.alloc ?_ ?_ _ | with_reducible refine Below.setCell ?_ ?_ _ | with_reducible exact And.right (by assumption) | with_reducible refine Below.trans ?_ (Below.mono (by assumption) ?_) | with_reducible exact Below.size (And.right (by assumption)) | (focus omega) | (focus (simp; done)) | (focus (simp; omega)) | (focus (simp at *; omega))))) (b10.mono (by first | exact Nat.le_refl _ | omega | (simp; done) | (simp; omega)))
    have s10 := c10.size
    have bb10 := H_bb9.out.trans (c10.mono H_bb9.out.size)
    have t10 := H_t9.out.below c10
    have z10 := H_z9.out.below c10
    have u10 := H_u9.out.below c10
    have l10 := H_l9.out.below c10
    have g10 := H_g9.out.below c10
    have H_b10 := Lib.hid b10; clear b10; have H_c10 := Lib.hid c10; clear c10; have H_bb10 := Lib.hid bb10; clear bb10; have H_t10 := Lib.hid t10; clear t10; have H_z10 := Lib.hid z10; clear z10; have H_u10 := Lib.hid u10; clear u10; have H_l10 := Lib.hid l10; clear l10; have H_g10 := Lib.hid g10; clear g10
    clear g0 g1 g2 g3 g4 g5 g6 g7
    have g0 := (H_g10.out 0 _ rfl).at
    have g1 := (H_g10.out 1 _ rfl).at
    have g2 := (H_g10.out 2 _ rfl).at
    have g3 := (H_g10.out 3 _ rfl).at
    have g4 := (H_g10.out 4 _ rfl).at
    have g5 := (H_g10.out 5 _ rfl).at
    have g6 := (H_g10.out 6 _ rfl).at
    have g7 := (H_g10.out 7 _ rfl).at
    go_wp2_with fail
    (with_reducible refine (H_q10.out _ ?_ ?_ ?_ ?_).mono ?_)
    · exact H_z10.out.below (show Below w10.heap.size w10 _ by (repeat (first | with_reducible exact Below.refl _ _ | with_reducible exact Nat.le_refl _ | with_reducible assumption | with_reducible refine Below.drew ?_ | with_reducible refine below_drewN ?_ _ | with_reducible refine Below.alloc ?_ ?_ _ | with_reducible refine Below.setCell ?_ ?_ _ | with_reducible exact And.right (by assumption) | with_reducible refine Below.trans ?_ (Below.mono (by assumption) ?_) | with_reducible exact Below.size (And.right (by assumption)) | (focus omega) | (focus (simp; done)) | (focus (simp; omega)) | (focus (simp at *; omega)))))
    · exact H_u10.out.below (show Below w10.heap.size w10 _ by (repeat (first | with_reducible exact Below.refl _ _ | with_reducible exact Nat.le_refl _ | with_reducible assumption | with_reducible refine Below.drew ?_ | with_reducible refine below_drewN ?_ _ | with_reducible refine Below.alloc ?_ ?_ _ | with_reducible refine Below.setCell ?_ ?_ _ | with_reducible exact And.right (by assumption) | with_reducible refine Below.trans ?_ (Below.mono (by assumption) ?_) | with_reducible exact Below.size (And.right (by assumption)) | (focus omega) | (focus (simp; done)) | (focus (simp; omega)) | (focus (simp at *; omega)))))
    · exact H_l10.out.below (show Below w10.heap.size w10 _ by (repeat (first | with_reducible exact Below.refl _ _ | with_reducible exact Nat.le_refl _ | with_reducible assumption | with_reducible refine Below.drew ?_ | with_reducible refine below_drewN ?_ _ | with_reducible refine Below.alloc ?_ ?_ _ | with_reducible refine Below.setCell ?_ ?_ _ | with_reducible exact And.right (by assumption) | with_reducible refine Below.trans ?_ (Below.mono (by assumption) ?_) | with_reducible exact Below.size (And.right (by assumption)) | (focus omega) | (focus (simp; done)) | (focus (simp; omega)) | (focus (simp at *; omega)))))
    · exact H_t10.out.below (show Below w10.heap.size w10 _ by (repeat (first | with_reducible exact Below.refl _ _ | with_reducible exact Nat.le_refl _ | with_reducible assumption | with_reducible refine Below.drew ?_ | with_reducible refine below_drewN ?_ _ | with_reducible refine Below.alloc ?_ ?_ _ | with_reducible refine Below.setCell ?_ ?_ _ | with_reducible exact And.right (by assumption) | with_reducible refine Below.trans ?_ (Below.mono (by assumption) ?_) | with_reducible exact Below.size (And.right (by assumption)) | (focus omega) | (focus (simp; done)) | (focus (simp; omega)) | (focus (simp at *; omega)))))
    rintro e w11 ⟨X1, k1, X2, k2, rfl, o1, o2, b11⟩
    have c11 : Below w10.heap.size w10 w11 := Below.trans (by (repeat (first | with_reducible exact Below.refl _ _ | with_reducible exact Nat.le_refl _ | with_reducible assumption | with_reducible refine Below.drew ?_ | with_reducible refine below_drewN ?_ _ | with_reducible refine Below.alloc ?_ ?_ _ | with_reducible refine Below.setCell ?_ ?_ _ | with_reducible exact And.right (by assumption) | with_reducible refine Below.trans ?_ (Below.mono (by assumption) ?_) | with_reducible exact Below.size (And.right (by assumption)) | (focus omega) | (focus (simp; done)) | (focus (simp; omega)) | (focus (simp at *; omega))))) (b11.mono (by first | exact Nat.le_refl _ | omega | (simp; done) | (simp; omega)))
    have s11 := c11.size
    have bb11 := H_bb10.out.trans (c11.mono H_bb10.out.size)
    have t11 := H_t10.out.below c11
    have z11 := H_z10.out.below c11
    have u11 := H_u10.out.below c11
    have l11 := H_l10.out.below c11
    have g11 := H_g10.out.below c11
    have H_b11 := Lib.hid b11; clear b11; have H_c11 := Lib.hid c11; clear c11; have H_bb11 := Lib.hid bb11; clear bb11; have H_t11 := Lib.hid t11; clear t11; have H_z11 := Lib.hid z11; clear z11; have H_u11 := Lib.hid u11; clear u11; have H_l11 := Lib.hid l11; clear l11; have H_g11 := Lib.hid g11; clear g11
    clear g0 g1 g2 g3 g4 g5 g6 g7
    have H_o1 := Lib.hid o1; clear o1; have H_o2 := Lib.hid o2; clear o2
    have g0 := (H_g11.out 0 _ rfl).at
    have g1 := (H_g11.out 1 _ rfl).at
    have g2 := (H_g11.out 2 _ rfl).at
    have g3 := (H_g11.out 3 _ rfl).at
    have g4 := (H_g11.out 4 _ rfl).at
    have g5 := (H_g11.out 5 _ rfl).at
    have g6 := (H_g11.out 6 _ rfl).at
    have g7 := (H_g11.out 7 _ rfl).at
    have lg := (H_g11.out 0 _ rfl).lt
    go_wp2_with fail
    (with_reducible refine (H_q11.out _ ?_ ?_ ?_).mono ?_)
    · exact H_z11.out.below (show Below w11.heap.size w11 _ by (repeat (first | with_reducible exact Below.refl _ _ | with_reducible exact Nat.le_refl _ | with_reducible assumption | with_reducible refine Below.drew ?_ | with_reducible refine below_drewN ?_ _ | with_reducible refine Below.alloc ?_ ?_ _ | with_reducible refine Below.setCell ?_ ?_ _ | with_reducible exact And.right (by assumption) | with_reducible refine Below.trans ?_ (Below.mono (by assumption) ?_) | with_reducible exact Below.size (And.right (by assumption)) | (focus omega) | (focus (simp; done)) | (focus (simp; omega)) | (focus (simp at *; omega)))))
    · exact H_u11.out.below (show Below w11.heap.size w11 _ by (repeat (first | with_reducible exact Below.refl _ _ | with_reducible exact Nat.le_refl _ | with_reducible assumption | with_reducible refine Below.drew ?_ | with_reducible refine below_drewN ?_ _ | with_reducible refine Below.alloc ?_ ?_ _ | with_reducible refine Below.setCell ?_ ?_ _ | with_reducible exact And.right (by assumption) | with_reducible refine Below.trans ?_ (Below.mono (by assumption) ?_) | with_reducible exact Below.size (And.right (by assumption)) | (focus omega) | (focus (simp; done)) | (focus (simp; omega)) | (focus (simp at *; omega)))))
    · exact H_l11.out.below (show Below w11.heap.size w11 _ by (repeat (first | with_reducible exact Below.refl _ _ | with_reducible exact Nat.le_refl _ | with_reducible assumption | with_reducible refine Below.drew ?_ | with_reducible refine below_drewN ?_ _ | with_reducible refine Below.alloc ?_ ?_ _ | with_reducible refine Below.setCell ?_ ?_ _ | with_reducible exact And.right (by assumption) | with_reducible refine Below.trans ?_ (Below.mono (by assumption) ?_) | with_reducible exact Below.size (And.right (by assumption)) | (focus omega) | (focus (simp; done)) | (focus (simp; omega)) | (focus (simp at *; omega)))))
    rintro e w12 ⟨Y1, j1, Y2, j2, rfl, o3', o4', b12⟩
    have c12 : Below w11.heap.size w11 w12 := Below.trans (by (repeat (first | with_reducible exact Below.refl _ _ | with_reducible exact Nat.le_refl _ | with_reducible assumption | with_reducible refine Below.drew ?_ | with_reducible refine below_drewN ?_ _ | with_reducible refine Below.alloc ?_ ?_ _ | with_reducible refine Below.setCell ?_ ?_ _ | with_reducible exact And.right (by assumption) | with_reducible refine Below.trans ?_ (Below.mono (by assumption) ?_) | with_reducible exact Below.size (And.right (by assumption)) | (focus omega) | (focus (simp; done)) | (focus (simp; omega)) | (focus (simp at *; omega))))) (b12.mono (by first | exact Nat.le_refl _ | omega | (simp; done) | (simp; omega)))
    have s12 := c12.size
    have bb12 := H_bb11.out.trans (c12.mono H_bb11.out.size)
    have t12 := H_t11.out.below c12
    have g12 := H_g11.out.below c12
    have H_b12 := Lib.hid b12; clear b12; have H_c12 := Lib.hid c12; clear c12; have H_bb12 := Lib.hid bb12; clear bb12; have H_t12 := Lib.hid t12; clear t12; have H_g12 := Lib.hid g12; clear g12
    clear g0 g1 g2 g3 g4 g5 g6 g7
    have d12 : Blk w12 w11.heap.size #[.int .i64 Z0.s, .int .i64 Z0.c, .slice X1 Z0.l.length k1, .int .u64 Z0.u, .int .i64 Z1.s, .int .i64 Z1.c, .slice X2 Z1.l.length k2, .int .u64 Z1.u] := (blk_new rfl).below H_b12.out
    have r1 := H_o1.out.below H_c12.out
    have r2 := H_o2.out.below H_c12.out
    have H_d12 := Lib.hid d12; clear d12; have H_r1 := Lib.hid r1; clear r1; have H_r2 := Lib.hid r2; clear r2; have H_o3' := Lib.hid o3'; clear o3'; have H_o4' := Lib.hid o4'; clear o4'
    have g0 := (H_d12.out 0 _ rfl).at
    have g1 := (H_d12.out 1 _ rfl).at
    have g2 := (H_d12.out 2 _ rfl).at
    have g3 := (H_d12.out 3 _ rfl).at
    have g4 := (H_d12.out 4 _ rfl).at
    have g5 := (H_d12.out 5 _ rfl).at
    have g6 := (H_d12.out 6 _ rfl).at
    have g7 := (H_d12.out 7 _ rfl).at
    have ld := (H_d12.out 0 _ rfl).lt
    go_wp2_with fail
    (with_reducible refine (H_q12.out _ X1 k1 X2 k2 Y1 j1 Y2 j2 ?_ ?_ ?_ ?_).mono ?_)
    · exact H_r1.out.below (show Below w12.heap.size w12 _ by (repeat (first | with_reducible exact Below.refl _ _ | with_reducible exact Nat.le_refl _ | with_reducible assumption | with_reducible refine Below.drew ?_ | with_reducible refine below_drewN ?_ _ | with_reducible refine Below.alloc ?_ ?_ _ | with_reducible refine Below.setCell ?_ ?_ _ | with_reducible exact And.right (by assumption) | with_reducible refine Below.trans ?_ (Below.mono (by assumption) ?_) | with_reducible exact Below.size (And.right (by assumption)) | (focus omega) | (focus (simp; done)) | (focus (simp; omega)) | (focus (simp at *; omega)))))
    · exact H_r2.out.below (show Below w12.heap.size w12 _ by (repeat (first | with_reducible exact Below.refl _ _ | with_reducible exact Nat.le_refl _ | with_reducible assumption | with_reducible refine Below.drew ?_ | with_reducible refine below_drewN ?_ _ | with_reducible refine Below.alloc ?_ ?_ _ | with_reducible refine Below.setCell ?_ ?_ _ | with_reducible exact And.right (by assumption) | with_reducible refine Below.trans ?_ (Below.mono (by assumption) ?_) | with_reducible exact Below.size (And.right (by assumption)) | (focus omega) | (focus (simp; done)) | (focus (simp; omega)) | (focus (simp at *; omega)))))
    · exact H_o3'.out.below (show Below w12.heap.size w12 _ by (repeat (first | with_reducible exact Below.refl _ _ | with_reducible exact Nat.le_refl _ | with_reducible assumption | with_reducible refine Below.drew ?_ | with_reducible refine below_drewN ?_ _ | with_reducible refine Below.alloc ?_ ?_ _ | with_reducible refine Below.setCell ?_ ?_ _ | with_reducible exact And.right (by assumption) | with_reducible refine Below.trans ?_ (Below.mono (by assumption) ?_) | with_reducible exact Below.size (And.right (by assumption)) | (focus omega) | (focus (simp; done)) | (focus (simp; omega)) | (focus (simp at *; omega)))))
    · exact H_o4'.out.below (show Below w12.heap.size w12 _ by (repeat (first | with_reducible exact Below.refl _ _ | with_reducible exact Nat.le_refl _ | with_reducible assumption | with_reducible refine Below.drew ?_ | with_reducible refine below_drewN ?_ _ | with_reducible refine Below.alloc ?_ ?_ _ | with_reducible refine Below.setCell ?_ ?_ _ | with_reducible exact And.right (by assumption) | with_reducible refine Below.trans ?_ (Below.mono (by assumption) ?_) | with_reducible exact Below.size (And.right (by assumption)) | (focus omega) | (focus (simp; done)) | (focus (simp; omega)) | (focus (simp at *; omega)))))
    rintro e w13 ⟨rfl, b13⟩
    have c13 : Below w12.heap.size w12 w13 := Below.trans (by (repeat (first | with_reducible exact Below.refl _ _ | with_reducible exact Nat.le_refl _ | with_reducible assumption | with_reducible refine Below.drew ?_ | with_reducible refine below_drewN ?_ _ | with_reducible refine Below.alloc ?_ ?_ _ | with_reducible refine Below.setCell ?_ ?_ _ | with_reducible exact And.right (by assumption) | with_reducible refine Below.trans ?_ (Below.mono (by assumption) ?_) | with_reducible exact Below.size (And.right (by assumption)) | (focus omega) | (focus (simp; done)) | (focus (simp; omega)) | (focus (simp at *; omega))))) (b13.mono (by first | exact Nat.le_refl _ | omega | (simp; done) | (simp; omega)))
    have s13 := c13.size
    have bb13 := H_bb12.out.trans (c13.mono H_bb12.out.size)
    have t13 := H_t12.out.below c13
    have H_b13 := Lib.hid b13; clear b13; have H_c13 := Lib.hid c13; clear c13; have H_bb13 := Lib.hid bb13; clear bb13; have H_t13 := Lib.hid t13; clear t13
    clear g0 g1 g2 g3 g4 g5 g6 g7
    go_wp2_with fail
    go_ret
    exact ⟨rfl, H_bw.out.trans (H_bb13.out.mono H_bw.out.size)⟩
end Go.Proofs.YtncfilbpgomncaaDoor

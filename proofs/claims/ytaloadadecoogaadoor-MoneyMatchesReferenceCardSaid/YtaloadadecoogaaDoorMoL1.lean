/- The walk of MoneyMatchesReference. -/
import Derived.Test.YtaloadadecoogaaDoorMnY
import Derived.Test.YtaloadadecoogaaDoorOpnM
namespace Go.Proofs.YtaloadadecoogaaDoor
set_option linter.unusedSimpArgs false
set_option linter.unusedVariables false
set_option maxRecDepth 100000
open Go.RowKit Go.Maps

theorem wf_7 {n : Int} (h : (Lit.int .i64 n).wf = true) : -9223372036854775808 ≤ n ∧ n ≤ 9223372036854775807 := wf_i64 h
theorem sh_len (c : Int) (l : List Int) : (shV c l).length ≤ l.length := by
  unfold shV
  split
  · rw [shL_len]; exact Nat.le_refl _
  · exact Nat.zero_le _
set_option maxRecDepth 100000 in
set_option maxHeartbeats 16000000 in
theorem moneyMatchesReference_walk (A : Option Addr) (cp : Nat) (l : List Exc) (m c t d : Int) (B : Option Addr) (cq : Nat) (ws : List Int) (s : ByteArray) (w : World) (hl : Excs w A l) (hlc : l.length ≤ cp) (hcm : cp ≤ maxLen) (hm0 : (Lit.int .i64 m).wf = true) (hc0 : (Lit.int .i64 c).wf = true) (ht0 : (Lit.int .i64 t).wf = true) (hd0 : (Lit.int .i64 d).wf = true) (hws : IntsAt w B .i64 ws) (hwc : ws.length ≤ cq) (hwm : cq ≤ maxLen) (_ : ∀ n ∈ ws, (Lit.int .i64 n).wf = true) (hs0 : s.size ≤ maxLen) (ht : Tab w) :
    Calls Tryd.prog 3 #[.slice A l.length cp, .agg #[.int .i64 m, .int .i64 c], .int .i64 t, .int .i64 d, .slice B ws.length cq, .string s] w fun e w' => e = .returned (.bool true) ∧ Below w.heap.size w w' := by
  have hm := wf_7 hm0
  have hc := wf_7 hc0
  have hT := wf_7 ht0
  have hd := wf_7 hd0
  obtain ⟨n, hln⟩ : ∃ n, l.length = n := ⟨_, rfl⟩
  obtain ⟨r, hwn⟩ : ∃ n, ws.length = n := ⟨_, rfl⟩
  rw [hln] at hlc ⊢
  rw [hwn] at hwc ⊢
  have hnm : n ≤ 9223372036854775807 ∧ r ≤ 9223372036854775807 := by unfold maxLen at hcm hwm; omega
  have hsm : s.size ≤ 9223372036854775807 := by unfold maxLen at hs0; omega
  obtain ⟨w0, hw0⟩ : ∃ W, w.alloc (.cells #[.int .i64 m, .int .i64 c] 24) = W := ⟨_, rfl⟩
  have bb0 : Below w.heap.size w w0 := by rw [← hw0]; exact (Below.refl _ _).alloc (Nat.le_refl _) _
  have k0 : Blk w0 w.heap.size #[.int .i64 m, .int .i64 c] := by rw [← hw0]; exact blk_new rfl
  have t0 := ht.below bb0
  have i0 := hl.below bb0
  have j0 := hws.below bb0
  have qh := head06_any w0 t0
  by_cases h40 : 40 < n
  · have f1 : decide ((40 : Int) < (n : Int)) = true := decide_eq_true (by omega)
    have H_hw0 := Lib.hid hw0; clear hw0; have H_bb0 := Lib.hid bb0; clear bb0; have H_k0 := Lib.hid k0; clear k0; have H_t0 := Lib.hid t0; clear t0; have H_i0 := Lib.hid i0; clear i0; have H_j0 := Lib.hid j0; clear j0; have H_qh := Lib.hid qh; clear qh; have H_hl := Lib.hid hl; clear hl; have H_ht := Lib.hid ht; clear ht; have H_hln := Lib.hid hln; clear hln; have H_hws := Lib.hid hws; clear hws; have H_hwn := Lib.hid hwn; clear hwn
    go_enter Tryd.func3, Tryd.ntmps3
    go_upto_region 1 with (fail)
    rw [H_hw0.out]
    go_wp2_with fail
    (with_reducible refine (H_qh.out).mono ?_)
    rintro e w1 ⟨rfl, b1⟩
    have c1 : Below w0.heap.size w0 w1 := Below.trans (by (repeat (first | with_reducible exact Below.refl _ _ | with_reducible exact Nat.le_refl _ | with_reducible assumption | with_reducible refine Below.drew ?_ | with_reducible refine below_drewN ?_ _ | with_reducible refine Below.alloc ?_ ?_ _ | with_reducible refine Below.setCell ?_ ?_ _ | with_reducible exact And.right (by assumption) | with_reducible refine Below.trans ?_ (Below.mono (by assumption) ?_) | with_reducible exact Below.size (And.right (by assumption)) | (focus omega) | (focus (simp; done)) | (focus (simp; omega)) | (focus (simp at *; omega))))) (b1.mono (by first | exact Nat.le_refl _ | omega | (simp; done) | (simp; omega)))
    have s1 := c1.size
    have bb1 := H_bb0.out.trans (c1.mono H_bb0.out.size)
    have k1 := H_k0.out.below c1
    have i1 := H_i0.out.below c1
    have j1 := H_j0.out.below c1
    have t1 := H_t0.out.below c1
    have H_b1 := Lib.hid b1; clear b1; have H_c1 := Lib.hid c1; clear c1; have H_bb1 := Lib.hid bb1; clear bb1; have H_k1 := Lib.hid k1; clear k1; have H_i1 := Lib.hid i1; clear i1; have H_j1 := Lib.hid j1; clear j1; have H_t1 := Lib.hid t1; clear t1
    go_wp2_with fail
    go_ret
    exact ⟨rfl, H_bb1.out⟩
  have f1 : decide ((40 : Int) < (n : Int)) = false := decide_eq_false (by omega)
  by_cases h11 : 1100 < r
  · have f2 : decide ((1100 : Int) < (r : Int)) = true := decide_eq_true (by omega)
    have H_hw0 := Lib.hid hw0; clear hw0; have H_bb0 := Lib.hid bb0; clear bb0; have H_k0 := Lib.hid k0; clear k0; have H_t0 := Lib.hid t0; clear t0; have H_i0 := Lib.hid i0; clear i0; have H_j0 := Lib.hid j0; clear j0; have H_qh := Lib.hid qh; clear qh; have H_hl := Lib.hid hl; clear hl; have H_ht := Lib.hid ht; clear ht; have H_hln := Lib.hid hln; clear hln; have H_hws := Lib.hid hws; clear hws; have H_hwn := Lib.hid hwn; clear hwn
    go_enter Tryd.func3, Tryd.ntmps3
    go_upto_region 1 with (fail)
    rw [H_hw0.out]
    go_wp2_with fail
    (with_reducible refine (H_qh.out).mono ?_)
    rintro e w1 ⟨rfl, b1⟩
    have c1 : Below w0.heap.size w0 w1 := Below.trans (by (repeat (first | with_reducible exact Below.refl _ _ | with_reducible exact Nat.le_refl _ | with_reducible assumption | with_reducible refine Below.drew ?_ | with_reducible refine below_drewN ?_ _ | with_reducible refine Below.alloc ?_ ?_ _ | with_reducible refine Below.setCell ?_ ?_ _ | with_reducible exact And.right (by assumption) | with_reducible refine Below.trans ?_ (Below.mono (by assumption) ?_) | with_reducible exact Below.size (And.right (by assumption)) | (focus omega) | (focus (simp; done)) | (focus (simp; omega)) | (focus (simp at *; omega))))) (b1.mono (by first | exact Nat.le_refl _ | omega | (simp; done) | (simp; omega)))
    have s1 := c1.size
    have bb1 := H_bb0.out.trans (c1.mono H_bb0.out.size)
    have k1 := H_k0.out.below c1
    have i1 := H_i0.out.below c1
    have j1 := H_j0.out.below c1
    have t1 := H_t0.out.below c1
    have H_b1 := Lib.hid b1; clear b1; have H_c1 := Lib.hid c1; clear c1; have H_bb1 := Lib.hid bb1; clear bb1; have H_k1 := Lib.hid k1; clear k1; have H_i1 := Lib.hid i1; clear i1; have H_j1 := Lib.hid j1; clear j1; have H_t1 := Lib.hid t1; clear t1
    go_wp2_with fail
    go_ret
    exact ⟨rfl, H_bb1.out⟩
  have f2 : decide ((1100 : Int) < (r : Int)) = false := decide_eq_false (by omega)
  by_cases h10 : 100 < s.size
  · have f3 : decide ((100 : Int) < (s.size : Int)) = true := decide_eq_true (by omega)
    have H_hw0 := Lib.hid hw0; clear hw0; have H_bb0 := Lib.hid bb0; clear bb0; have H_k0 := Lib.hid k0; clear k0; have H_t0 := Lib.hid t0; clear t0; have H_i0 := Lib.hid i0; clear i0; have H_j0 := Lib.hid j0; clear j0; have H_qh := Lib.hid qh; clear qh; have H_hl := Lib.hid hl; clear hl; have H_ht := Lib.hid ht; clear ht; have H_hln := Lib.hid hln; clear hln; have H_hws := Lib.hid hws; clear hws; have H_hwn := Lib.hid hwn; clear hwn
    go_enter Tryd.func3, Tryd.ntmps3
    go_upto_region 1 with (fail)
    rw [H_hw0.out]
    go_wp2_with fail
    (with_reducible refine (H_qh.out).mono ?_)
    rintro e w1 ⟨rfl, b1⟩
    have c1 : Below w0.heap.size w0 w1 := Below.trans (by (repeat (first | with_reducible exact Below.refl _ _ | with_reducible exact Nat.le_refl _ | with_reducible assumption | with_reducible refine Below.drew ?_ | with_reducible refine below_drewN ?_ _ | with_reducible refine Below.alloc ?_ ?_ _ | with_reducible refine Below.setCell ?_ ?_ _ | with_reducible exact And.right (by assumption) | with_reducible refine Below.trans ?_ (Below.mono (by assumption) ?_) | with_reducible exact Below.size (And.right (by assumption)) | (focus omega) | (focus (simp; done)) | (focus (simp; omega)) | (focus (simp at *; omega))))) (b1.mono (by first | exact Nat.le_refl _ | omega | (simp; done) | (simp; omega)))
    have s1 := c1.size
    have bb1 := H_bb0.out.trans (c1.mono H_bb0.out.size)
    have k1 := H_k0.out.below c1
    have i1 := H_i0.out.below c1
    have j1 := H_j0.out.below c1
    have t1 := H_t0.out.below c1
    have H_b1 := Lib.hid b1; clear b1; have H_c1 := Lib.hid c1; clear c1; have H_bb1 := Lib.hid bb1; clear bb1; have H_k1 := Lib.hid k1; clear k1; have H_i1 := Lib.hid i1; clear i1; have H_j1 := Lib.hid j1; clear j1; have H_t1 := Lib.hid t1; clear t1
    go_wp2_with fail
    go_ret
    exact ⟨rfl, H_bb1.out⟩
  have f3 : decide ((100 : Int) < (s.size : Int)) = false := decide_eq_false (by omega)
  have q1 := fun W h => mconvert_any A cp n l m c t hln (by omega) hm hc hT W h
  have q2 := fun W h => rconvert_any A cp n l m c t hln (by omega) hm W h
  have q3 := fun W h => mvalid_any A cp n l hln (by omega) W h
  have q4 := fun W h => rvalid_any A cp n l hln (by omega) W h
  have q5 := fun W h => mshare_any B cq r d ws hwn (by omega) hd W h
  have q6 := fun W h => rshare_any B cq r d ws hwn (by omega) W h
  have q7 := fun W h => mtext_any d hd W h
  have q8 := fun W => rtext_any d hd W
  have q9 := fun W h => mparse_any s (by omega) W h
  have q10 := fun W => rparse_any s (by omega) W
  unfold OwnErr at q5 q6
  have hL := sh_len d ws
  rw [hwn] at hL
  obtain ⟨ln, hln2⟩ : ∃ n, (shV d ws).length = n := ⟨_, rfl⟩
  rw [hln2] at q5 q6 hL
  have q11 := fun W X Y a b h1 h2 => rsameb_any X Y a b ln ln (shV d ws) (shV d ws) hln2 hln2 W h1 h2 (by omega) (by omega)
  rw [sameB_self] at q11
  have cvi : (-9223372036854775808 ≤ cvM l m c t ∧ cvM l m c t ≤ 9223372036854775807) ∧ (-9223372036854775808 ≤ cvC l m c t ∧ cvC l m c t ≤ 9223372036854775807) := by
    constructor
    · by_cases hE : cvE l m c t = 0
      · by_cases hct : c = t
        · rw [cvM, if_pos hE, if_pos hct]; exact hm
        · obtain ⟨_, _, _, _, h5, _⟩ := near_law hE hct
          have := amtB_iff.1 h5
          omega
      · rw [(cv_err hE).1]; omega
    · rw [cvC]; split
      · exact hT
      · omega
  generalize cvM l m c t = M0 at *
  generalize cvC l m c t = C0 at *
  generalize cvE l m c t = E0 at *
  have eq := fun W => eq_money M0 C0 M0 C0 cvi.1 cvi.2 cvi.1 cvi.2 (R := true) (by simp) W
  generalize tabB l = TB at *
  generalize shE d ws = E1 at *
  generalize tS d = T1 at *
  generalize tE d = E2 at *
  generalize psR s = R1 at *
  generalize psE s = E3 at *
  have H_hw0 := Lib.hid hw0; clear hw0; have H_bb0 := Lib.hid bb0; clear bb0; have H_k0 := Lib.hid k0; clear k0; have H_t0 := Lib.hid t0; clear t0; have H_i0 := Lib.hid i0; clear i0; have H_j0 := Lib.hid j0; clear j0; have H_qh := Lib.hid qh; clear qh; have H_hl := Lib.hid hl; clear hl; have H_ht := Lib.hid ht; clear ht; have H_hln := Lib.hid hln; clear hln; have H_hws := Lib.hid hws; clear hws; have H_hwn := Lib.hid hwn; clear hwn; have H_q1 := Lib.hid q1; clear q1; have H_q2 := Lib.hid q2; clear q2; have H_q3 := Lib.hid q3; clear q3; have H_q4 := Lib.hid q4; clear q4; have H_q5 := Lib.hid q5; clear q5; have H_q6 := Lib.hid q6; clear q6; have H_q7 := Lib.hid q7; clear q7; have H_q8 := Lib.hid q8; clear q8; have H_q9 := Lib.hid q9; clear q9; have H_q10 := Lib.hid q10; clear q10; have H_q11 := Lib.hid q11; clear q11; have H_cvi := Lib.hid cvi; clear cvi; have H_hln2 := Lib.hid hln2; clear hln2; have H_hL := Lib.hid hL; clear hL
  go_enter Tryd.func3, Tryd.ntmps3
  go_upto_region 1 with (fail)
  rw [H_hw0.out]
  go_wp2_with fail
  (with_reducible refine (H_qh.out).mono ?_)
  rintro e w1 ⟨rfl, b1⟩
  have c1 : Below w0.heap.size w0 w1 := Below.trans (by (repeat (first | with_reducible exact Below.refl _ _ | with_reducible exact Nat.le_refl _ | with_reducible assumption | with_reducible refine Below.drew ?_ | with_reducible refine below_drewN ?_ _ | with_reducible refine Below.alloc ?_ ?_ _ | with_reducible refine Below.setCell ?_ ?_ _ | with_reducible exact And.right (by assumption) | with_reducible refine Below.trans ?_ (Below.mono (by assumption) ?_) | with_reducible exact Below.size (And.right (by assumption)) | (focus omega) | (focus (simp; done)) | (focus (simp; omega)) | (focus (simp at *; omega))))) (b1.mono (by first | exact Nat.le_refl _ | omega | (simp; done) | (simp; omega)))
  have s1 := c1.size
  have bb1 := H_bb0.out.trans (c1.mono H_bb0.out.size)
  have k1 := H_k0.out.below c1
  have i1 := H_i0.out.below c1
  have j1 := H_j0.out.below c1
  have t1 := H_t0.out.below c1
  have H_b1 := Lib.hid b1; clear b1; have H_c1 := Lib.hid c1; clear c1; have H_bb1 := Lib.hid bb1; clear bb1; have H_k1 := Lib.hid k1; clear k1; have H_i1 := Lib.hid i1; clear i1; have H_j1 := Lib.hid j1; clear j1; have H_t1 := Lib.hid t1; clear t1
  have y0 := (H_k1.out 0 _ rfl).at
  have y1 := (H_k1.out 1 _ rfl).at
  have ly := (H_k1.out 0 _ rfl).lt
  go_wp2_with fail
  (with_reducible refine (H_q1.out _ ?_).mono ?_)
  · exact H_i1.out.below (show Below w1.heap.size w1 _ by (repeat (first | with_reducible exact Below.refl _ _ | with_reducible exact Nat.le_refl _ | with_reducible assumption | with_reducible refine Below.drew ?_ | with_reducible refine below_drewN ?_ _ | with_reducible refine Below.alloc ?_ ?_ _ | with_reducible refine Below.setCell ?_ ?_ _ | with_reducible exact And.right (by assumption) | with_reducible refine Below.trans ?_ (Below.mono (by assumption) ?_) | with_reducible exact Below.size (And.right (by assumption)) | (focus omega) | (focus (simp; done)) | (focus (simp; omega)) | (focus (simp at *; omega)))))
  rintro e w2 ⟨rfl, b2⟩
  have c2 : Below w1.heap.size w1 w2 := Below.trans (by (repeat (first | with_reducible exact Below.refl _ _ | with_reducible exact Nat.le_refl _ | with_reducible assumption | with_reducible refine Below.drew ?_ | with_reducible refine below_drewN ?_ _ | with_reducible refine Below.alloc ?_ ?_ _ | with_reducible refine Below.setCell ?_ ?_ _ | with_reducible exact And.right (by assumption) | with_reducible refine Below.trans ?_ (Below.mono (by assumption) ?_) | with_reducible exact Below.size (And.right (by assumption)) | (focus omega) | (focus (simp; done)) | (focus (simp; omega)) | (focus (simp at *; omega))))) (b2.mono (by first | exact Nat.le_refl _ | omega | (simp; done) | (simp; omega)))
  have s2 := c2.size
  have bb2 := H_bb1.out.trans (c2.mono H_bb1.out.size)
  have k2 := H_k1.out.below c2
  have i2 := H_i1.out.below c2
  have j2 := H_j1.out.below c2
  have t2 := H_t1.out.below c2
  have H_b2 := Lib.hid b2; clear b2; have H_c2 := Lib.hid c2; clear c2; have H_bb2 := Lib.hid bb2; clear bb2; have H_k2 := Lib.hid k2; clear k2; have H_i2 := Lib.hid i2; clear i2; have H_j2 := Lib.hid j2; clear j2; have H_t2 := Lib.hid t2; clear t2
  clear y0 y1
  clear ly
  have y0 := (H_k2.out 0 _ rfl).at
  have y1 := (H_k2.out 1 _ rfl).at
  have ly := (H_k2.out 0 _ rfl).lt
  go_wp2_with fail
  (with_reducible refine (H_q2.out _ ?_).mono ?_)
  · exact H_i2.out.below (show Below w2.heap.size w2 _ by (repeat (first | with_reducible exact Below.refl _ _ | with_reducible exact Nat.le_refl _ | with_reducible assumption | with_reducible refine Below.drew ?_ | with_reducible refine below_drewN ?_ _ | with_reducible refine Below.alloc ?_ ?_ _ | with_reducible refine Below.setCell ?_ ?_ _ | with_reducible exact And.right (by assumption) | with_reducible refine Below.trans ?_ (Below.mono (by assumption) ?_) | with_reducible exact Below.size (And.right (by assumption)) | (focus omega) | (focus (simp; done)) | (focus (simp; omega)) | (focus (simp at *; omega)))))
  rintro e w3 ⟨rfl, b3⟩
  have c3 : Below w2.heap.size w2 w3 := Below.trans (by (repeat (first | with_reducible exact Below.refl _ _ | with_reducible exact Nat.le_refl _ | with_reducible assumption | with_reducible refine Below.drew ?_ | with_reducible refine below_drewN ?_ _ | with_reducible refine Below.alloc ?_ ?_ _ | with_reducible refine Below.setCell ?_ ?_ _ | with_reducible exact And.right (by assumption) | with_reducible refine Below.trans ?_ (Below.mono (by assumption) ?_) | with_reducible exact Below.size (And.right (by assumption)) | (focus omega) | (focus (simp; done)) | (focus (simp; omega)) | (focus (simp at *; omega))))) (b3.mono (by first | exact Nat.le_refl _ | omega | (simp; done) | (simp; omega)))
  have s3 := c3.size
  have bb3 := H_bb2.out.trans (c3.mono H_bb2.out.size)
  have k3 := H_k2.out.below c3
  have i3 := H_i2.out.below c3
  have j3 := H_j2.out.below c3
  have t3 := H_t2.out.below c3
  have H_b3 := Lib.hid b3; clear b3; have H_c3 := Lib.hid c3; clear c3; have H_bb3 := Lib.hid bb3; clear bb3; have H_k3 := Lib.hid k3; clear k3; have H_i3 := Lib.hid i3; clear i3; have H_j3 := Lib.hid j3; clear j3; have H_t3 := Lib.hid t3; clear t3
  have u3 : Blk w3 w2.heap.size #[.int .i64 M0, .int .i64 C0] := (blk_new rfl).below H_b3.out
  clear y0 y1
  clear ly
  have H_u3 := Lib.hid u3; clear u3
  go_wp2_with fail
  (with_reducible refine (H_q3.out _ ?_).mono ?_)
  · exact H_i3.out.below (show Below w3.heap.size w3 _ by (repeat (first | with_reducible exact Below.refl _ _ | with_reducible exact Nat.le_refl _ | with_reducible assumption | with_reducible refine Below.drew ?_ | with_reducible refine below_drewN ?_ _ | with_reducible refine Below.alloc ?_ ?_ _ | with_reducible refine Below.setCell ?_ ?_ _ | with_reducible exact And.right (by assumption) | with_reducible refine Below.trans ?_ (Below.mono (by assumption) ?_) | with_reducible exact Below.size (And.right (by assumption)) | (focus omega) | (focus (simp; done)) | (focus (simp; omega)) | (focus (simp at *; omega)))))
  rintro e w4 ⟨rfl, b4⟩
  have c4 : Below w3.heap.size w3 w4 := Below.trans (by (repeat (first | with_reducible exact Below.refl _ _ | with_reducible exact Nat.le_refl _ | with_reducible assumption | with_reducible refine Below.drew ?_ | with_reducible refine below_drewN ?_ _ | with_reducible refine Below.alloc ?_ ?_ _ | with_reducible refine Below.setCell ?_ ?_ _ | with_reducible exact And.right (by assumption) | with_reducible refine Below.trans ?_ (Below.mono (by assumption) ?_) | with_reducible exact Below.size (And.right (by assumption)) | (focus omega) | (focus (simp; done)) | (focus (simp; omega)) | (focus (simp at *; omega))))) (b4.mono (by first | exact Nat.le_refl _ | omega | (simp; done) | (simp; omega)))
  have s4 := c4.size
  have bb4 := H_bb3.out.trans (c4.mono H_bb3.out.size)
  have i4 := H_i3.out.below c4
  have j4 := H_j3.out.below c4
  have t4 := H_t3.out.below c4
  have u4 := H_u3.out.below c4
  have H_b4 := Lib.hid b4; clear b4; have H_c4 := Lib.hid c4; clear c4; have H_bb4 := Lib.hid bb4; clear bb4; have H_i4 := Lib.hid i4; clear i4; have H_j4 := Lib.hid j4; clear j4; have H_t4 := Lib.hid t4; clear t4; have H_u4 := Lib.hid u4; clear u4
  have v4 : Blk w4 w3.heap.size #[.int .i64 M0, .int .i64 C0] := (blk_new rfl).below H_b4.out
  have H_v4 := Lib.hid v4; clear v4
  go_wp2_with fail
  (with_reducible refine (H_q4.out _ ?_).mono ?_)
  · exact H_i4.out.below (show Below w4.heap.size w4 _ by (repeat (first | with_reducible exact Below.refl _ _ | with_reducible exact Nat.le_refl _ | with_reducible assumption | with_reducible refine Below.drew ?_ | with_reducible refine below_drewN ?_ _ | with_reducible refine Below.alloc ?_ ?_ _ | with_reducible refine Below.setCell ?_ ?_ _ | with_reducible exact And.right (by assumption) | with_reducible refine Below.trans ?_ (Below.mono (by assumption) ?_) | with_reducible exact Below.size (And.right (by assumption)) | (focus omega) | (focus (simp; done)) | (focus (simp; omega)) | (focus (simp at *; omega)))))
  rintro e w5 ⟨rfl, b5⟩
  have c5 : Below w4.heap.size w4 w5 := Below.trans (by (repeat (first | with_reducible exact Below.refl _ _ | with_reducible exact Nat.le_refl _ | with_reducible assumption | with_reducible refine Below.drew ?_ | with_reducible refine below_drewN ?_ _ | with_reducible refine Below.alloc ?_ ?_ _ | with_reducible refine Below.setCell ?_ ?_ _ | with_reducible exact And.right (by assumption) | with_reducible refine Below.trans ?_ (Below.mono (by assumption) ?_) | with_reducible exact Below.size (And.right (by assumption)) | (focus omega) | (focus (simp; done)) | (focus (simp; omega)) | (focus (simp at *; omega))))) (b5.mono (by first | exact Nat.le_refl _ | omega | (simp; done) | (simp; omega)))
  have s5 := c5.size
  have bb5 := H_bb4.out.trans (c5.mono H_bb4.out.size)
  have j5 := H_j4.out.below c5
  have t5 := H_t4.out.below c5
  have u5 := H_u4.out.below c5
  have v5 := H_v4.out.below c5
  have H_b5 := Lib.hid b5; clear b5; have H_c5 := Lib.hid c5; clear c5; have H_bb5 := Lib.hid bb5; clear bb5; have H_j5 := Lib.hid j5; clear j5; have H_t5 := Lib.hid t5; clear t5; have H_u5 := Lib.hid u5; clear u5; have H_v5 := Lib.hid v5; clear v5
  have yu0 := (H_u5.out 0 _ rfl).at
  have yu1 := (H_u5.out 1 _ rfl).at
  have yv0 := (H_v5.out 0 _ rfl).at
  have yv1 := (H_v5.out 1 _ rfl).at
  have lu := (H_u5.out 0 _ rfl).lt
  have lv := (H_v5.out 0 _ rfl).lt
  go_wp2_with fail
  (with_reducible refine (H_q5.out _ ?_).mono ?_)
  · exact H_j5.out.below (show Below w5.heap.size w5 _ by (repeat (first | with_reducible exact Below.refl _ _ | with_reducible exact Nat.le_refl _ | with_reducible assumption | with_reducible refine Below.drew ?_ | with_reducible refine below_drewN ?_ _ | with_reducible refine Below.alloc ?_ ?_ _ | with_reducible refine Below.setCell ?_ ?_ _ | with_reducible exact And.right (by assumption) | with_reducible refine Below.trans ?_ (Below.mono (by assumption) ?_) | with_reducible exact Below.size (And.right (by assumption)) | (focus omega) | (focus (simp; done)) | (focus (simp; omega)) | (focus (simp at *; omega)))))
  rintro e w6 ⟨A6, p6, rfl, o6, b6⟩
  have c6 : Below w5.heap.size w5 w6 := Below.trans (by (repeat (first | with_reducible exact Below.refl _ _ | with_reducible exact Nat.le_refl _ | with_reducible assumption | with_reducible refine Below.drew ?_ | with_reducible refine below_drewN ?_ _ | with_reducible refine Below.alloc ?_ ?_ _ | with_reducible refine Below.setCell ?_ ?_ _ | with_reducible exact And.right (by assumption) | with_reducible refine Below.trans ?_ (Below.mono (by assumption) ?_) | with_reducible exact Below.size (And.right (by assumption)) | (focus omega) | (focus (simp; done)) | (focus (simp; omega)) | (focus (simp at *; omega))))) (b6.mono (by first | exact Nat.le_refl _ | omega | (simp; done) | (simp; omega)))
  have s6 := c6.size
  have bb6 := H_bb5.out.trans (c6.mono H_bb5.out.size)
  have j6 := H_j5.out.below c6
  have t6 := H_t5.out.below c6
  have H_b6 := Lib.hid b6; clear b6; have H_c6 := Lib.hid c6; clear c6; have H_bb6 := Lib.hid bb6; clear bb6; have H_j6 := Lib.hid j6; clear j6; have H_t6 := Lib.hid t6; clear t6
  clear yu0 yu1
  clear yv0 yv1
  clear lu lv eq
  have g6 := o6.ints
  have H_o6 := Lib.hid o6; clear o6; have H_g6 := Lib.hid g6; clear g6
  go_wp2_with fail
  (with_reducible refine (H_q6.out _ ?_).mono ?_)
  · exact H_j6.out.below (show Below w6.heap.size w6 _ by (repeat (first | with_reducible exact Below.refl _ _ | with_reducible exact Nat.le_refl _ | with_reducible assumption | with_reducible refine Below.drew ?_ | with_reducible refine below_drewN ?_ _ | with_reducible refine Below.alloc ?_ ?_ _ | with_reducible refine Below.setCell ?_ ?_ _ | with_reducible exact And.right (by assumption) | with_reducible refine Below.trans ?_ (Below.mono (by assumption) ?_) | with_reducible exact Below.size (And.right (by assumption)) | (focus omega) | (focus (simp; done)) | (focus (simp; omega)) | (focus (simp at *; omega)))))
  rintro e w7 ⟨A7, p7, rfl, o7, b7⟩
  have c7 : Below w6.heap.size w6 w7 := Below.trans (by (repeat (first | with_reducible exact Below.refl _ _ | with_reducible exact Nat.le_refl _ | with_reducible assumption | with_reducible refine Below.drew ?_ | with_reducible refine below_drewN ?_ _ | with_reducible refine Below.alloc ?_ ?_ _ | with_reducible refine Below.setCell ?_ ?_ _ | with_reducible exact And.right (by assumption) | with_reducible refine Below.trans ?_ (Below.mono (by assumption) ?_) | with_reducible exact Below.size (And.right (by assumption)) | (focus omega) | (focus (simp; done)) | (focus (simp; omega)) | (focus (simp at *; omega))))) (b7.mono (by first | exact Nat.le_refl _ | omega | (simp; done) | (simp; omega)))
  have s7 := c7.size
  have bb7 := H_bb6.out.trans (c7.mono H_bb6.out.size)
  have j7 := H_j6.out.below c7
  have t7 := H_t6.out.below c7
  have g7 := H_g6.out.below c7
  have H_b7 := Lib.hid b7; clear b7; have H_c7 := Lib.hid c7; clear c7; have H_bb7 := Lib.hid bb7; clear bb7; have H_j7 := Lib.hid j7; clear j7; have H_t7 := Lib.hid t7; clear t7; have H_g7 := Lib.hid g7; clear g7
  have h7 := o7.ints
  have H_o7 := Lib.hid o7; clear o7; have H_h7 := Lib.hid h7; clear h7
  go_wp2_with fail
  (with_reducible refine (H_q11.out _ _ _ _ _ ?_ ?_).mono ?_)
  · exact H_g7.out.below (show Below w7.heap.size w7 _ by (repeat (first | with_reducible exact Below.refl _ _ | with_reducible exact Nat.le_refl _ | with_reducible assumption | with_reducible refine Below.drew ?_ | with_reducible refine below_drewN ?_ _ | with_reducible refine Below.alloc ?_ ?_ _ | with_reducible refine Below.setCell ?_ ?_ _ | with_reducible exact And.right (by assumption) | with_reducible refine Below.trans ?_ (Below.mono (by assumption) ?_) | with_reducible exact Below.size (And.right (by assumption)) | (focus omega) | (focus (simp; done)) | (focus (simp; omega)) | (focus (simp at *; omega)))))
  · exact H_h7.out.below (show Below w7.heap.size w7 _ by (repeat (first | with_reducible exact Below.refl _ _ | with_reducible exact Nat.le_refl _ | with_reducible assumption | with_reducible refine Below.drew ?_ | with_reducible refine below_drewN ?_ _ | with_reducible refine Below.alloc ?_ ?_ _ | with_reducible refine Below.setCell ?_ ?_ _ | with_reducible exact And.right (by assumption) | with_reducible refine Below.trans ?_ (Below.mono (by assumption) ?_) | with_reducible exact Below.size (And.right (by assumption)) | (focus omega) | (focus (simp; done)) | (focus (simp; omega)) | (focus (simp at *; omega)))))
  rintro e w8 ⟨rfl, b8⟩
  have c8 : Below w7.heap.size w7 w8 := Below.trans (by (repeat (first | with_reducible exact Below.refl _ _ | with_reducible exact Nat.le_refl _ | with_reducible assumption | with_reducible refine Below.drew ?_ | with_reducible refine below_drewN ?_ _ | with_reducible refine Below.alloc ?_ ?_ _ | with_reducible refine Below.setCell ?_ ?_ _ | with_reducible exact And.right (by assumption) | with_reducible refine Below.trans ?_ (Below.mono (by assumption) ?_) | with_reducible exact Below.size (And.right (by assumption)) | (focus omega) | (focus (simp; done)) | (focus (simp; omega)) | (focus (simp at *; omega))))) (b8.mono (by first | exact Nat.le_refl _ | omega | (simp; done) | (simp; omega)))
  have s8 := c8.size
  have bb8 := H_bb7.out.trans (c8.mono H_bb7.out.size)
  have t8 := H_t7.out.below c8
  have H_b8 := Lib.hid b8; clear b8; have H_c8 := Lib.hid c8; clear c8; have H_bb8 := Lib.hid bb8; clear bb8; have H_t8 := Lib.hid t8; clear t8
  go_wp2_with fail
  (with_reducible refine (H_q7.out _ ?_).mono ?_)
  · exact H_t8.out.below (show Below w8.heap.size w8 _ by (repeat (first | with_reducible exact Below.refl _ _ | with_reducible exact Nat.le_refl _ | with_reducible assumption | with_reducible refine Below.drew ?_ | with_reducible refine below_drewN ?_ _ | with_reducible refine Below.alloc ?_ ?_ _ | with_reducible refine Below.setCell ?_ ?_ _ | with_reducible exact And.right (by assumption) | with_reducible refine Below.trans ?_ (Below.mono (by assumption) ?_) | with_reducible exact Below.size (And.right (by assumption)) | (focus omega) | (focus (simp; done)) | (focus (simp; omega)) | (focus (simp at *; omega)))))
  rintro e w9 ⟨rfl, b9⟩
  have c9 : Below w8.heap.size w8 w9 := Below.trans (by (repeat (first | with_reducible exact Below.refl _ _ | with_reducible exact Nat.le_refl _ | with_reducible assumption | with_reducible refine Below.drew ?_ | with_reducible refine below_drewN ?_ _ | with_reducible refine Below.alloc ?_ ?_ _ | with_reducible refine Below.setCell ?_ ?_ _ | with_reducible exact And.right (by assumption) | with_reducible refine Below.trans ?_ (Below.mono (by assumption) ?_) | with_reducible exact Below.size (And.right (by assumption)) | (focus omega) | (focus (simp; done)) | (focus (simp; omega)) | (focus (simp at *; omega))))) (b9.mono (by first | exact Nat.le_refl _ | omega | (simp; done) | (simp; omega)))
  have s9 := c9.size
  have bb9 := H_bb8.out.trans (c9.mono H_bb8.out.size)
  have t9 := H_t8.out.below c9
  have H_b9 := Lib.hid b9; clear b9; have H_c9 := Lib.hid c9; clear c9; have H_bb9 := Lib.hid bb9; clear bb9; have H_t9 := Lib.hid t9; clear t9
  go_wp2_with fail
  (with_reducible refine (H_q8.out _).mono ?_)
  rintro e w10 ⟨rfl, b10⟩
  have c10 : Below w9.heap.size w9 w10 := Below.trans (by (repeat (first | with_reducible exact Below.refl _ _ | with_reducible exact Nat.le_refl _ | with_reducible assumption | with_reducible refine Below.drew ?_ | with_reducible refine below_drewN ?_ _ | with_reducible refine Below.alloc ?_ ?_ _ | with_reducible refine Below.setCell ?_ ?_ _ | with_reducible exact And.right (by assumption) | with_reducible refine Below.trans ?_ (Below.mono (by assumption) ?_) | with_reducible exact Below.size (And.right (by assumption)) | (focus omega) | (focus (simp; done)) | (focus (simp; omega)) | (focus (simp at *; omega))))) (b10.mono (by first | exact Nat.le_refl _ | omega | (simp; done) | (simp; omega)))
  have s10 := c10.size
  have bb10 := H_bb9.out.trans (c10.mono H_bb9.out.size)
  have t10 := H_t9.out.below c10
  have H_b10 := Lib.hid b10; clear b10; have H_c10 := Lib.hid c10; clear c10; have H_bb10 := Lib.hid bb10; clear bb10; have H_t10 := Lib.hid t10; clear t10
  go_wp2_with fail
  (with_reducible refine (H_q9.out _ ?_).mono ?_)
  · exact H_t10.out.below (show Below w10.heap.size w10 _ by (repeat (first | with_reducible exact Below.refl _ _ | with_reducible exact Nat.le_refl _ | with_reducible assumption | with_reducible refine Below.drew ?_ | with_reducible refine below_drewN ?_ _ | with_reducible refine Below.alloc ?_ ?_ _ | with_reducible refine Below.setCell ?_ ?_ _ | with_reducible exact And.right (by assumption) | with_reducible refine Below.trans ?_ (Below.mono (by assumption) ?_) | with_reducible exact Below.size (And.right (by assumption)) | (focus omega) | (focus (simp; done)) | (focus (simp; omega)) | (focus (simp at *; omega)))))
  rintro e w11 ⟨rfl, b11⟩
  have c11 : Below w10.heap.size w10 w11 := Below.trans (by (repeat (first | with_reducible exact Below.refl _ _ | with_reducible exact Nat.le_refl _ | with_reducible assumption | with_reducible refine Below.drew ?_ | with_reducible refine below_drewN ?_ _ | with_reducible refine Below.alloc ?_ ?_ _ | with_reducible refine Below.setCell ?_ ?_ _ | with_reducible exact And.right (by assumption) | with_reducible refine Below.trans ?_ (Below.mono (by assumption) ?_) | with_reducible exact Below.size (And.right (by assumption)) | (focus omega) | (focus (simp; done)) | (focus (simp; omega)) | (focus (simp at *; omega))))) (b11.mono (by first | exact Nat.le_refl _ | omega | (simp; done) | (simp; omega)))
  have s11 := c11.size
  have bb11 := H_bb10.out.trans (c11.mono H_bb10.out.size)
  have t11 := H_t10.out.below c11
  have H_b11 := Lib.hid b11; clear b11; have H_c11 := Lib.hid c11; clear c11; have H_bb11 := Lib.hid bb11; clear bb11; have H_t11 := Lib.hid t11; clear t11
  go_wp2_with fail
  (with_reducible refine (H_q10.out _).mono ?_)
  rintro e w12 ⟨rfl, b12⟩
  have c12 : Below w11.heap.size w11 w12 := Below.trans (by (repeat (first | with_reducible exact Below.refl _ _ | with_reducible exact Nat.le_refl _ | with_reducible assumption | with_reducible refine Below.drew ?_ | with_reducible refine below_drewN ?_ _ | with_reducible refine Below.alloc ?_ ?_ _ | with_reducible refine Below.setCell ?_ ?_ _ | with_reducible exact And.right (by assumption) | with_reducible refine Below.trans ?_ (Below.mono (by assumption) ?_) | with_reducible exact Below.size (And.right (by assumption)) | (focus omega) | (focus (simp; done)) | (focus (simp; omega)) | (focus (simp at *; omega))))) (b12.mono (by first | exact Nat.le_refl _ | omega | (simp; done) | (simp; omega)))
  have s12 := c12.size
  have bb12 := H_bb11.out.trans (c12.mono H_bb11.out.size)
  have H_b12 := Lib.hid b12; clear b12; have H_c12 := Lib.hid c12; clear c12; have H_bb12 := Lib.hid bb12; clear bb12
  go_wp2_with fail
  go_ret
  exact ⟨rfl, H_bb12.out⟩
end Go.Proofs.YtaloadadecoogaaDoor

/- The walk of CardMade. -/
import Derived.Test.YtoehobaigfmnpaaDoorCaM
namespace Go.Proofs.YtoehobaigfmnpaaDoor
set_option linter.unusedSimpArgs false
set_option linter.unusedVariables false
set_option maxRecDepth 100000
open Go.RowKit Go.Maps

/-- Make, whatever it is called with -/
def mkdC (c : Crd) (s o : Int) : Crd := if mayMk c s o = true then c.sig (sigE s.toNat o.toNat c.msg) (sigS s.toNat o.toNat c.msg) else Crd.zero
def mkdE (c : Crd) (s o : Int) : Int := if mayMk c s o = true then 0 else 1
theorem may_nat {c : Crd} {s o : Int} (h : mayMk c s o = true) : cvB (c.sig 0 0) = true ∧ wthB s 1 = true ∧ wthB o 1 = true ∧ ((s.toNat : Nat) : Int) = s ∧ ((o.toNat : Nat) : Int) = o := by
  simp only [mayMk, Bool.and_eq_true] at h
  obtain ⟨h1, h2, h3⟩ := h
  have := wthB_iff.1 h2
  have := wthB_iff.1 h3
  exact ⟨h1, h2, h3, by omega, by omega⟩
theorem cmake_any (c : Crd) (s o : Int) (hc : CFit c) (w : World) (ht : Tab w) :
    Calls Tryd.prog 17 #[.agg c.cells.toArray, .int .i64 s, .int .i64 o] w fun e w' => e = .returned (.tuple #[.agg (mkdC c s o).cells.toArray, .int .i64 (mkdE c s o)]) ∧ Below w.heap.size w w' := by
  cases h : mayMk c s o with
  | true =>
    obtain ⟨h1, h2, h3, h4, h5⟩ := may_nat h
    have := cmake_yes c s.toNat o.toNat hc h1 (by rw [h4]; exact h2) (by rw [h5]; exact h3) w ht
    rw [h4, h5] at this
    rw [mkdC, mkdE, if_pos h, if_pos h]; exact this
  | false =>
    rw [mkdC, mkdE, if_neg (by simp [h]), if_neg (by simp [h])]
    exact cmake_no c s o hc h w
theorem mkd_fit {c : Crd} (s o : Int) (hc : CFit c) : CFit (mkdC c s o) := by
  unfold mkdC; split
  · have := @sig_int s.toNat o.toNat c.msg; exact hc.sig this.1 this.2
  · exact cfit_zero
theorem mkd_sig (c : Crd) (s o e f : Int) : mkdC (c.sig e f) s o = mkdC c s o ∧ mkdE (c.sig e f) s o = mkdE c s o := ⟨rfl, rfl⟩
theorem mkd_v {c : Crd} {s o : Int} (h : mayMk c s o = true) : cvB (mkdC c s o) = true := by
  obtain ⟨h1, _⟩ := may_nat h
  have hn := @sig_nat s.toNat o.toNat c.msg
  rw [mkdC, if_pos h]
  rw [cvB_iff] at h1 ⊢
  obtain ⟨⟨_, _, b1, b2, b3, b4⟩, k⟩ := h1
  exact ⟨⟨hn.1, hn.2, b1, b2, b3, b4⟩, k⟩
theorem mkd_right {c : Crd} {s o : Int} (h : mayMk c s o = true) : chkB (mkdC c s o) ((pw 4 s.toNat PP : Nat) : Int) = true ∧ chkE (mkdC c s o) ((pw 4 s.toNat PP : Nat) : Int) = 0 := by
  have hv := mkd_v h
  rw [mkdC, if_pos h] at hv ⊢
  exact chk_right hv
set_option maxHeartbeats 8000000 in
theorem cardMade_walk (c : Crd) (s o e1 f1 : Int) (w0 : World) (hc : CFit c) (hs : (Lit.int .i64 s).wf = true) (ho : (Lit.int .i64 o).wf = true) (he : (Lit.int .i64 e1).wf = true) (hf : (Lit.int .i64 f1).wf = true) (ht : Tab w0) :
    Calls Tryd.prog 6 #[.agg c.cells.toArray, .int .i64 s, .int .i64 o, .agg #[.int .i64 e1, .int .i64 f1]] w0 fun e w' => e = .returned (.bool true) ∧ Below w0.heap.size w0 w' := by
  have q2 := fun W h => cmake_any c s o hc W h
  have hc2 : CFit (c.sig e1 f1) := hc.sig (wf_i64 he) (wf_i64 hf)
  have q3 := fun W h => cmake_any (c.sig e1 f1) s o hc2 W h
  rw [(mkd_sig c s o e1 f1).1, (mkd_sig c s o e1 f1).2] at q3
  have hfx := mkd_fit s o hc
  have eqz := fun w => eq_card (mkdC c s o) Crd.zero hfx cfit_zero w
  have eqx := fun w => eq_card (mkdC c s o) (mkdC c s o) hfx hfx w
  rw [ceqB_self] at eqx
  have eqc := fun w => eq_card (c.sig e1 f1) (c.sig e1 f1) hc2 hc2 w
  rw [ceqB_self] at eqc
  obtain ⟨w1, hw1⟩ : ∃ W, (w0.alloc (.cells c.cells.toArray 31)).alloc (.cells #[.int .i64 e1, .int .i64 f1] 29) = W := ⟨_, rfl⟩
  have q1 := head35_any w1 (ht.below (by rw [← hw1]; exact ((Below.refl _ _).alloc (Nat.le_refl _) _).alloc (by simp) _))
  have bb1 : Below w0.heap.size w0 w1 := by rw [← hw1]; exact ((Below.refl _ _).alloc (Nat.le_refl _) _).alloc (by simp) _
  have t1 := ht.below bb1
  have k1 : Blk w1 w0.heap.size c.cells.toArray := by rw [← hw1]; exact (blk_new rfl).alloc _
  have g1 : Blk w1 (w0.heap.size + 1) #[.int .i64 e1, .int .i64 f1] := by rw [← hw1]; exact blk_new (by simp)
  have s1 : w0.heap.size + 1 < w1.heap.size := (g1 0 _ rfl).lt
  cases hmay : mayMk c s o with
  | false =>
    have hx : mkdC c s o = Crd.zero := by rw [mkdC, if_neg (by simp [hmay])]
    have hE : mkdE c s o = 1 := by rw [mkdE, if_neg (by simp [hmay])]
    rw [hx, hE] at q2
    rw [hx, ceqB_self] at eqz
    clear q3 eqx eqc hc2 hfx
    simp only [Crd.cells, Crd.zero] at q2 k1 hw1 eqz ⊢
    have H_q1 := Lib.hid q1; clear q1; have H_q2 := Lib.hid q2; clear q2; have H_bb1 := Lib.hid bb1; clear bb1; have H_t1 := Lib.hid t1; clear t1; have H_k1 := Lib.hid k1; clear k1; have H_g1 := Lib.hid g1; clear g1; have H_hw1 := Lib.hid hw1; clear hw1; have H_hc := Lib.hid hc; clear hc; have H_hs := Lib.hid hs; clear hs; have H_ho := Lib.hid ho; clear ho; have H_he := Lib.hid he; clear he; have H_hf := Lib.hid hf; clear hf; have H_ht := Lib.hid ht; clear ht; have H_hmay := Lib.hid hmay; clear hmay; have H_hx := Lib.hid hx; clear hx; have H_hE := Lib.hid hE; clear hE
    go_enter Tryd.func6, Tryd.ntmps6
    go_wp2_with fail
    rw [H_hw1.out]
    have y0 := (H_k1.out 0 _ rfl).at
    have y1 := (H_k1.out 1 _ rfl).at
    have y2 := (H_k1.out 2 _ rfl).at
    have y3 := (H_k1.out 3 _ rfl).at
    have y4 := (H_k1.out 4 _ rfl).at
    have y5 := (H_k1.out 5 _ rfl).at
    have y6 := (H_k1.out 6 _ rfl).at
    have y7 := (H_k1.out 7 _ rfl).at
    have y8 := (H_k1.out 8 _ rfl).at
    go_wp2_with fail
    (with_reducible refine (H_q1.out).mono ?_)
    rintro e w2 ⟨rfl, b2⟩
    have c2 : Below w1.heap.size w1 w2 := Below.trans (by (repeat (first | with_reducible exact Below.refl _ _ | with_reducible exact Nat.le_refl _ | with_reducible assumption | with_reducible refine Below.drew ?_ | with_reducible refine below_drewN ?_ _ | with_reducible refine Below.alloc ?_ ?_ _ | with_reducible refine Below.setCell ?_ ?_ _ | with_reducible exact And.right (by assumption) | with_reducible refine Below.trans ?_ (Below.mono (by assumption) ?_) | with_reducible exact Below.size (And.right (by assumption)) | (focus omega) | (focus (simp; done)) | (focus (simp; omega)) | (focus (simp at *; omega))))) (b2.mono (by first | exact Nat.le_refl _ | omega | (simp; done) | (simp; omega)))
    have s2 := c2.size
    have bb2 := H_bb1.out.trans (c2.mono H_bb1.out.size)
    have t2 := H_t1.out.below c2
    have k2 := H_k1.out.below c2
    have H_b2 := Lib.hid b2; clear b2; have H_c2 := Lib.hid c2; clear c2; have H_bb2 := Lib.hid bb2; clear bb2; have H_t2 := Lib.hid t2; clear t2; have H_k2 := Lib.hid k2; clear k2
    clear y0 y1 y2 y3 y4 y5 y6 y7 y8
    have y0 := (H_k2.out 0 _ rfl).at
    have y1 := (H_k2.out 1 _ rfl).at
    have y2 := (H_k2.out 2 _ rfl).at
    have y3 := (H_k2.out 3 _ rfl).at
    have y4 := (H_k2.out 4 _ rfl).at
    have y5 := (H_k2.out 5 _ rfl).at
    have y6 := (H_k2.out 6 _ rfl).at
    have y7 := (H_k2.out 7 _ rfl).at
    have y8 := (H_k2.out 8 _ rfl).at
    go_wp2_with fail
    (with_reducible refine (H_q2.out _ ?_).mono ?_)
    · exact H_t2.out.below (show Below w2.heap.size w2 _ by (repeat (first | with_reducible exact Below.refl _ _ | with_reducible exact Nat.le_refl _ | with_reducible assumption | with_reducible refine Below.drew ?_ | with_reducible refine below_drewN ?_ _ | with_reducible refine Below.alloc ?_ ?_ _ | with_reducible refine Below.setCell ?_ ?_ _ | with_reducible exact And.right (by assumption) | with_reducible refine Below.trans ?_ (Below.mono (by assumption) ?_) | with_reducible exact Below.size (And.right (by assumption)) | (focus omega) | (focus (simp; done)) | (focus (simp; omega)) | (focus (simp at *; omega)))))
    rintro e w3 ⟨rfl, b3⟩
    have c3 : Below w2.heap.size w2 w3 := Below.trans (by (repeat (first | with_reducible exact Below.refl _ _ | with_reducible exact Nat.le_refl _ | with_reducible assumption | with_reducible refine Below.drew ?_ | with_reducible refine below_drewN ?_ _ | with_reducible refine Below.alloc ?_ ?_ _ | with_reducible refine Below.setCell ?_ ?_ _ | with_reducible exact And.right (by assumption) | with_reducible refine Below.trans ?_ (Below.mono (by assumption) ?_) | with_reducible exact Below.size (And.right (by assumption)) | (focus omega) | (focus (simp; done)) | (focus (simp; omega)) | (focus (simp at *; omega))))) (b3.mono (by first | exact Nat.le_refl _ | omega | (simp; done) | (simp; omega)))
    have s3 := c3.size
    have bb3 := H_bb2.out.trans (c3.mono H_bb2.out.size)
    have H_b3 := Lib.hid b3; clear b3; have H_c3 := Lib.hid c3; clear c3; have H_bb3 := Lib.hid bb3; clear bb3
    clear y0 y1 y2 y3 y4 y5 y6 y7 y8
    go_wp2_with fail
    go_ret
    exact ⟨rfl, H_bb3.out.alloc H_bb3.out.size _⟩
  | true =>
    have hr := mkd_right hmay
    have hv := mkd_v hmay
    obtain ⟨_, hws, _, hsn, _⟩ := may_nat hmay
    have q4 := fun W => public_yes s.toNat W (by rw [hsn]; exact hws)
    rw [hsn] at q4
    have q5 := fun W h => ccheck_any (mkdC c s o) ((pw 4 s.toNat PP : Nat) : Int) hfx W h
    rw [hr.1, hr.2] at q5
    have q6 := fun W => cvalid_any (mkdC c s o) hfx W
    rw [hv] at q6
    have hE : mkdE c s o = 0 := by rw [mkdE, if_pos hmay]
    rw [hE] at q2 q3
    have hxx : ∃ E S : Int, mkdC c s o = c.sig E S := ⟨_, _, by rw [mkdC, if_pos hmay]⟩
    obtain ⟨E, S, hxx⟩ := hxx
    rw [hxx] at q2 q3 q5 q6 eqx
    generalize ((pw 4 s.toNat PP : Nat) : Int) = P at *
    clear eqz hfx hr hv hws hsn hxx hE
    simp only [Crd.cells, Crd.sig] at q2 q3 q5 q6 k1 hw1 eqx eqc ⊢
    have H_q1 := Lib.hid q1; clear q1; have H_q2 := Lib.hid q2; clear q2; have H_q3 := Lib.hid q3; clear q3; have H_q4 := Lib.hid q4; clear q4; have H_q5 := Lib.hid q5; clear q5; have H_q6 := Lib.hid q6; clear q6; have H_bb1 := Lib.hid bb1; clear bb1; have H_t1 := Lib.hid t1; clear t1; have H_k1 := Lib.hid k1; clear k1; have H_g1 := Lib.hid g1; clear g1; have H_hw1 := Lib.hid hw1; clear hw1; have H_hc := Lib.hid hc; clear hc; have H_hs := Lib.hid hs; clear hs; have H_ho := Lib.hid ho; clear ho; have H_he := Lib.hid he; clear he; have H_hf := Lib.hid hf; clear hf; have H_ht := Lib.hid ht; clear ht; have H_hmay := Lib.hid hmay; clear hmay; have H_hc2 := Lib.hid hc2; clear hc2
    go_enter Tryd.func6, Tryd.ntmps6
    go_wp2_with fail
    rw [H_hw1.out]
    go_wp2_with fail
    (with_reducible refine (H_q1.out).mono ?_)
    rintro e w2 ⟨rfl, b2⟩
    have c2 : Below w1.heap.size w1 w2 := Below.trans (by (repeat (first | with_reducible exact Below.refl _ _ | with_reducible exact Nat.le_refl _ | with_reducible assumption | with_reducible refine Below.drew ?_ | with_reducible refine below_drewN ?_ _ | with_reducible refine Below.alloc ?_ ?_ _ | with_reducible refine Below.setCell ?_ ?_ _ | with_reducible exact And.right (by assumption) | with_reducible refine Below.trans ?_ (Below.mono (by assumption) ?_) | with_reducible exact Below.size (And.right (by assumption)) | (focus omega) | (focus (simp; done)) | (focus (simp; omega)) | (focus (simp at *; omega))))) (b2.mono (by first | exact Nat.le_refl _ | omega | (simp; done) | (simp; omega)))
    have s2 := c2.size
    have bb2 := H_bb1.out.trans (c2.mono H_bb1.out.size)
    have t2 := H_t1.out.below c2
    have k2 := H_k1.out.below c2
    have g2 := H_g1.out.below c2
    have H_b2 := Lib.hid b2; clear b2; have H_c2 := Lib.hid c2; clear c2; have H_bb2 := Lib.hid bb2; clear bb2; have H_t2 := Lib.hid t2; clear t2; have H_k2 := Lib.hid k2; clear k2; have H_g2 := Lib.hid g2; clear g2
    have y0 := (H_k2.out 0 _ rfl).at
    have y1 := (H_k2.out 1 _ rfl).at
    have y2 := (H_k2.out 2 _ rfl).at
    have y3 := (H_k2.out 3 _ rfl).at
    have y4 := (H_k2.out 4 _ rfl).at
    have y5 := (H_k2.out 5 _ rfl).at
    have y6 := (H_k2.out 6 _ rfl).at
    have y7 := (H_k2.out 7 _ rfl).at
    have y8 := (H_k2.out 8 _ rfl).at
    go_wp2_with fail
    (with_reducible refine (H_q2.out _ ?_).mono ?_)
    · exact H_t2.out.below (show Below w2.heap.size w2 _ by (repeat (first | with_reducible exact Below.refl _ _ | with_reducible exact Nat.le_refl _ | with_reducible assumption | with_reducible refine Below.drew ?_ | with_reducible refine below_drewN ?_ _ | with_reducible refine Below.alloc ?_ ?_ _ | with_reducible refine Below.setCell ?_ ?_ _ | with_reducible exact And.right (by assumption) | with_reducible refine Below.trans ?_ (Below.mono (by assumption) ?_) | with_reducible exact Below.size (And.right (by assumption)) | (focus omega) | (focus (simp; done)) | (focus (simp; omega)) | (focus (simp at *; omega)))))
    rintro e w3 ⟨rfl, b3⟩
    have c3 : Below w2.heap.size w2 w3 := Below.trans (by (repeat (first | with_reducible exact Below.refl _ _ | with_reducible exact Nat.le_refl _ | with_reducible assumption | with_reducible refine Below.drew ?_ | with_reducible refine below_drewN ?_ _ | with_reducible refine Below.alloc ?_ ?_ _ | with_reducible refine Below.setCell ?_ ?_ _ | with_reducible exact And.right (by assumption) | with_reducible refine Below.trans ?_ (Below.mono (by assumption) ?_) | with_reducible exact Below.size (And.right (by assumption)) | (focus omega) | (focus (simp; done)) | (focus (simp; omega)) | (focus (simp at *; omega))))) (b3.mono (by first | exact Nat.le_refl _ | omega | (simp; done) | (simp; omega)))
    have s3 := c3.size
    have bb3 := H_bb2.out.trans (c3.mono H_bb2.out.size)
    have t3 := H_t2.out.below c3
    have k3 := H_k2.out.below c3
    have g3 := H_g2.out.below c3
    have H_b3 := Lib.hid b3; clear b3; have H_c3 := Lib.hid c3; clear c3; have H_bb3 := Lib.hid bb3; clear bb3; have H_t3 := Lib.hid t3; clear t3; have H_k3 := Lib.hid k3; clear k3; have H_g3 := Lib.hid g3; clear g3
    clear y0 y1 y2 y3 y4 y5 y6 y7 y8
    have d3 : Blk (w3.alloc (.cells #[.int .i64 c.i, .int .i64 c.k, .int .i64 c.d, .int .i64 c.n, .int .i64 c.f, .int .i64 c.u, .int .i64 c.l, .int .i64 E, .int .i64 S] 31)) w3.heap.size #[.int .i64 c.i, .int .i64 c.k, .int .i64 c.d, .int .i64 c.n, .int .i64 c.f, .int .i64 c.u, .int .i64 c.l, .int .i64 E, .int .i64 S] := blk_new rfl
    have H_d3 := Lib.hid d3; clear d3
    go_wp2_with fail
    (with_reducible refine (H_q4.out _).mono ?_)
    rintro e w4 ⟨rfl, b4⟩
    have c4 : Below w3.heap.size w3 w4 := Below.trans (by (repeat (first | with_reducible exact Below.refl _ _ | with_reducible exact Nat.le_refl _ | with_reducible assumption | with_reducible refine Below.drew ?_ | with_reducible refine below_drewN ?_ _ | with_reducible refine Below.alloc ?_ ?_ _ | with_reducible refine Below.setCell ?_ ?_ _ | with_reducible exact And.right (by assumption) | with_reducible refine Below.trans ?_ (Below.mono (by assumption) ?_) | with_reducible exact Below.size (And.right (by assumption)) | (focus omega) | (focus (simp; done)) | (focus (simp; omega)) | (focus (simp at *; omega))))) (b4.mono (by first | exact Nat.le_refl _ | omega | (simp; done) | (simp; omega)))
    have s4 := c4.size
    have bb4 := H_bb3.out.trans (c4.mono H_bb3.out.size)
    have t4 := H_t3.out.below c4
    have k4 := H_k3.out.below c4
    have g4 := H_g3.out.below c4
    have H_b4 := Lib.hid b4; clear b4; have H_c4 := Lib.hid c4; clear c4; have H_bb4 := Lib.hid bb4; clear bb4; have H_t4 := Lib.hid t4; clear t4; have H_k4 := Lib.hid k4; clear k4; have H_g4 := Lib.hid g4; clear g4
    have d4 := H_d3.out.below H_b4.out
    have H_d4 := Lib.hid d4; clear d4
    have y0 := (H_d4.out 0 _ rfl).at
    have y1 := (H_d4.out 1 _ rfl).at
    have y2 := (H_d4.out 2 _ rfl).at
    have y3 := (H_d4.out 3 _ rfl).at
    have y4 := (H_d4.out 4 _ rfl).at
    have y5 := (H_d4.out 5 _ rfl).at
    have y6 := (H_d4.out 6 _ rfl).at
    have y7 := (H_d4.out 7 _ rfl).at
    have y8 := (H_d4.out 8 _ rfl).at
    go_wp2_with fail
    (with_reducible refine (H_q5.out _ ?_).mono ?_)
    · exact H_t4.out.below (show Below w4.heap.size w4 _ by (repeat (first | with_reducible exact Below.refl _ _ | with_reducible exact Nat.le_refl _ | with_reducible assumption | with_reducible refine Below.drew ?_ | with_reducible refine below_drewN ?_ _ | with_reducible refine Below.alloc ?_ ?_ _ | with_reducible refine Below.setCell ?_ ?_ _ | with_reducible exact And.right (by assumption) | with_reducible refine Below.trans ?_ (Below.mono (by assumption) ?_) | with_reducible exact Below.size (And.right (by assumption)) | (focus omega) | (focus (simp; done)) | (focus (simp; omega)) | (focus (simp at *; omega)))))
    rintro e w5 ⟨rfl, b5⟩
    have c5 : Below w4.heap.size w4 w5 := Below.trans (by (repeat (first | with_reducible exact Below.refl _ _ | with_reducible exact Nat.le_refl _ | with_reducible assumption | with_reducible refine Below.drew ?_ | with_reducible refine below_drewN ?_ _ | with_reducible refine Below.alloc ?_ ?_ _ | with_reducible refine Below.setCell ?_ ?_ _ | with_reducible exact And.right (by assumption) | with_reducible refine Below.trans ?_ (Below.mono (by assumption) ?_) | with_reducible exact Below.size (And.right (by assumption)) | (focus omega) | (focus (simp; done)) | (focus (simp; omega)) | (focus (simp at *; omega))))) (b5.mono (by first | exact Nat.le_refl _ | omega | (simp; done) | (simp; omega)))
    have s5 := c5.size
    have bb5 := H_bb4.out.trans (c5.mono H_bb4.out.size)
    have t5 := H_t4.out.below c5
    have k5 := H_k4.out.below c5
    have g5 := H_g4.out.below c5
    have d5 := H_d4.out.below c5
    have H_b5 := Lib.hid b5; clear b5; have H_c5 := Lib.hid c5; clear c5; have H_bb5 := Lib.hid bb5; clear bb5; have H_t5 := Lib.hid t5; clear t5; have H_k5 := Lib.hid k5; clear k5; have H_g5 := Lib.hid g5; clear g5; have H_d5 := Lib.hid d5; clear d5
    clear y0 y1 y2 y3 y4 y5 y6 y7 y8
    have y0 := (H_d5.out 0 _ rfl).at
    have y1 := (H_d5.out 1 _ rfl).at
    have y2 := (H_d5.out 2 _ rfl).at
    have y3 := (H_d5.out 3 _ rfl).at
    have y4 := (H_d5.out 4 _ rfl).at
    have y5 := (H_d5.out 5 _ rfl).at
    have y6 := (H_d5.out 6 _ rfl).at
    have y7 := (H_d5.out 7 _ rfl).at
    have y8 := (H_d5.out 8 _ rfl).at
    have x0 := (H_k5.out 0 _ rfl).at
    have x1 := (H_k5.out 1 _ rfl).at
    have x2 := (H_k5.out 2 _ rfl).at
    have x3 := (H_k5.out 3 _ rfl).at
    have x4 := (H_k5.out 4 _ rfl).at
    have x5 := (H_k5.out 5 _ rfl).at
    have x6 := (H_k5.out 6 _ rfl).at
    have x7 := (H_k5.out 7 _ rfl).at
    have x8 := (H_k5.out 8 _ rfl).at
    have z0 := (H_g5.out 0 _ rfl).at
    have z1 := (H_g5.out 1 _ rfl).at
    have f7 := (H_k5.out 7 _ rfl).free
    have f8 := (H_k5.out 8 _ rfl).free
    have lc := (H_k5.out 0 _ rfl).lt
    have ld := (H_d5.out 0 _ rfl).lt
    have lg := (H_g5.out 0 _ rfl).lt
    go_upto_region 10 with (fail)
    obtain ⟨w6, hw6⟩ : ∃ W, ((w5.setCell ⟨w0.heap.size, 7, none⟩ (.int .i64 e1)).setCell ⟨w0.heap.size, 8, none⟩ (.int .i64 f1)).alloc (.cells #[.int .i64 c.i, .int .i64 c.k, .int .i64 c.d, .int .i64 c.n, .int .i64 c.f, .int .i64 c.u, .int .i64 c.l, .int .i64 c.e, .int .i64 c.s] 31) = W := ⟨_, rfl⟩
    rw [hw6]
    have bb6 : Below w0.heap.size w0 w6 := by rw [← hw6]; exact (below_set (below_set H_bb5.out (Nat.le_refl _) _ _) (Nat.le_refl _) _ _).alloc (by have := H_bb5.out.size; simpa using this) _
    have k6 : Blk w6 w0.heap.size #[.int .i64 c.i, .int .i64 c.k, .int .i64 c.d, .int .i64 c.n, .int .i64 c.f, .int .i64 c.u, .int .i64 c.l, .int .i64 e1, .int .i64 f1] := by rw [← hw6]; exact ((H_k5.out.set 7 (.int .i64 e1) (by simp)).set 8 (.int .i64 f1) (by simp)).alloc _
    have d6 : Blk w6 w3.heap.size #[.int .i64 c.i, .int .i64 c.k, .int .i64 c.d, .int .i64 c.n, .int .i64 c.f, .int .i64 c.u, .int .i64 c.l, .int .i64 E, .int .i64 S] := by rw [← hw6]; exact ((H_d5.out.far (by have := H_k3.out 0 _ rfl |>.lt; omega) _).far (by have := H_k3.out 0 _ rfl |>.lt; omega) _).alloc _
    have g6 : Blk w6 (w0.heap.size + 1) #[.int .i64 e1, .int .i64 f1] := by rw [← hw6]; exact ((H_g5.out.far (by omega) _).far (by omega) _).alloc _
    have m6 : Blk w6 w5.heap.size #[.int .i64 c.i, .int .i64 c.k, .int .i64 c.d, .int .i64 c.n, .int .i64 c.f, .int .i64 c.u, .int .i64 c.l, .int .i64 c.e, .int .i64 c.s] := by rw [← hw6]; exact blk_new (by simp)
    have t6 := H_ht.out.below bb6
    have s6 : w5.heap.size < w6.heap.size := (m6 0 _ rfl).lt
    clear y0 y1 y2 y3 y4 y5 y6 y7 y8
    clear x0 x1 x2 x3 x4 x5 x6 x7 x8
    clear z0 z1
    clear f7 f8
    have H_hw6 := Lib.hid hw6; clear hw6; have H_bb6 := Lib.hid bb6; clear bb6; have H_k6 := Lib.hid k6; clear k6; have H_d6 := Lib.hid d6; clear d6; have H_g6 := Lib.hid g6; clear g6; have H_m6 := Lib.hid m6; clear m6; have H_t6 := Lib.hid t6; clear t6
    have x0 := (H_k6.out 0 _ rfl).at
    have x1 := (H_k6.out 1 _ rfl).at
    have x2 := (H_k6.out 2 _ rfl).at
    have x3 := (H_k6.out 3 _ rfl).at
    have x4 := (H_k6.out 4 _ rfl).at
    have x5 := (H_k6.out 5 _ rfl).at
    have x6 := (H_k6.out 6 _ rfl).at
    have x7 := (H_k6.out 7 _ rfl).at
    have x8 := (H_k6.out 8 _ rfl).at
    go_wp2_with fail
    (with_reducible refine (H_q3.out _ ?_).mono ?_)
    · exact H_t6.out.below (show Below w6.heap.size w6 _ by (repeat (first | with_reducible exact Below.refl _ _ | with_reducible exact Nat.le_refl _ | with_reducible assumption | with_reducible refine Below.drew ?_ | with_reducible refine below_drewN ?_ _ | with_reducible refine Below.alloc ?_ ?_ _ | with_reducible refine Below.setCell ?_ ?_ _ | with_reducible exact And.right (by assumption) | with_reducible refine Below.trans ?_ (Below.mono (by assumption) ?_) | with_reducible exact Below.size (And.right (by assumption)) | (focus omega) | (focus (simp; done)) | (focus (simp; omega)) | (focus (simp at *; omega)))))
    rintro e w7 ⟨rfl, b7⟩
    have c7 : Below w6.heap.size w6 w7 := Below.trans (by (repeat (first | with_reducible exact Below.refl _ _ | with_reducible exact Nat.le_refl _ | with_reducible assumption | with_reducible refine Below.drew ?_ | with_reducible refine below_drewN ?_ _ | with_reducible refine Below.alloc ?_ ?_ _ | with_reducible refine Below.setCell ?_ ?_ _ | with_reducible exact And.right (by assumption) | with_reducible refine Below.trans ?_ (Below.mono (by assumption) ?_) | with_reducible exact Below.size (And.right (by assumption)) | (focus omega) | (focus (simp; done)) | (focus (simp; omega)) | (focus (simp at *; omega))))) (b7.mono (by first | exact Nat.le_refl _ | omega | (simp; done) | (simp; omega)))
    have s7 := c7.size
    have bb7 := H_bb6.out.trans (c7.mono H_bb6.out.size)
    have t7 := H_t6.out.below c7
    have k7 := H_k6.out.below c7
    have g7 := H_g6.out.below c7
    have d7 := H_d6.out.below c7
    have m7 := H_m6.out.below c7
    have H_b7 := Lib.hid b7; clear b7; have H_c7 := Lib.hid c7; clear c7; have H_bb7 := Lib.hid bb7; clear bb7; have H_t7 := Lib.hid t7; clear t7; have H_k7 := Lib.hid k7; clear k7; have H_g7 := Lib.hid g7; clear g7; have H_d7 := Lib.hid d7; clear d7; have H_m7 := Lib.hid m7; clear m7
    clear x0 x1 x2 x3 x4 x5 x6 x7 x8
    have z0 := (H_g7.out 0 _ rfl).at
    have z1 := (H_g7.out 1 _ rfl).at
    have u0 := (H_m7.out 0 _ rfl).at
    have u1 := (H_m7.out 1 _ rfl).at
    have u2 := (H_m7.out 2 _ rfl).at
    have u3 := (H_m7.out 3 _ rfl).at
    have u4 := (H_m7.out 4 _ rfl).at
    have u5 := (H_m7.out 5 _ rfl).at
    have u6 := (H_m7.out 6 _ rfl).at
    have u7 := (H_m7.out 7 _ rfl).at
    have u8 := (H_m7.out 8 _ rfl).at
    have f7 := (H_m7.out 7 _ rfl).free
    have f8 := (H_m7.out 8 _ rfl).free
    have lm := (H_m7.out 0 _ rfl).lt
    have lg7 := (H_g7.out 0 _ rfl).lt
    go_upto_region 12 with (fail)
    obtain ⟨w8, hw8⟩ : ∃ W, ((w7.setCell ⟨w5.heap.size, 7, none⟩ (.int .i64 e1)).setCell ⟨w5.heap.size, 8, none⟩ (.int .i64 f1)).alloc (.cells #[.int .i64 c.i, .int .i64 c.k, .int .i64 c.d, .int .i64 c.n, .int .i64 c.f, .int .i64 c.u, .int .i64 c.l, .int .i64 E, .int .i64 S] 31) = W := ⟨_, rfl⟩
    rw [hw8]
    have lk5 := (H_k5.out 0 _ rfl).lt
    have ld5 := (H_d5.out 0 _ rfl).lt
    have bb8 : Below w0.heap.size w0 w8 := by rw [← hw8]; exact (below_set (below_set H_bb7.out (by omega) _ _) (by omega) _ _).alloc (by have := H_bb7.out.size; simpa using this) _
    have k8 : Blk w8 w0.heap.size #[.int .i64 c.i, .int .i64 c.k, .int .i64 c.d, .int .i64 c.n, .int .i64 c.f, .int .i64 c.u, .int .i64 c.l, .int .i64 e1, .int .i64 f1] := by rw [← hw8]; exact ((H_k7.out.far (by omega) _).far (by omega) _).alloc _
    have d8 : Blk w8 w3.heap.size #[.int .i64 c.i, .int .i64 c.k, .int .i64 c.d, .int .i64 c.n, .int .i64 c.f, .int .i64 c.u, .int .i64 c.l, .int .i64 E, .int .i64 S] := by rw [← hw8]; exact ((H_d7.out.far (by omega) _).far (by omega) _).alloc _
    have m8 : Blk w8 w5.heap.size #[.int .i64 c.i, .int .i64 c.k, .int .i64 c.d, .int .i64 c.n, .int .i64 c.f, .int .i64 c.u, .int .i64 c.l, .int .i64 e1, .int .i64 f1] := by rw [← hw8]; exact ((H_m7.out.set 7 (.int .i64 e1) (by simp)).set 8 (.int .i64 f1) (by simp)).alloc _
    have n8 : Blk w8 w7.heap.size #[.int .i64 c.i, .int .i64 c.k, .int .i64 c.d, .int .i64 c.n, .int .i64 c.f, .int .i64 c.u, .int .i64 c.l, .int .i64 E, .int .i64 S] := by rw [← hw8]; exact blk_new (by simp)
    clear z0 z1
    clear u0 u1 u2 u3 u4 u5 u6 u7 u8
    clear f7 f8
    have H_hw8 := Lib.hid hw8; clear hw8; have H_bb8 := Lib.hid bb8; clear bb8; have H_k8 := Lib.hid k8; clear k8; have H_d8 := Lib.hid d8; clear d8; have H_m8 := Lib.hid m8; clear m8; have H_n8 := Lib.hid n8; clear n8
    have y0 := (H_d8.out 0 _ rfl).at
    have y1 := (H_d8.out 1 _ rfl).at
    have y2 := (H_d8.out 2 _ rfl).at
    have y3 := (H_d8.out 3 _ rfl).at
    have y4 := (H_d8.out 4 _ rfl).at
    have y5 := (H_d8.out 5 _ rfl).at
    have y6 := (H_d8.out 6 _ rfl).at
    have y7 := (H_d8.out 7 _ rfl).at
    have y8 := (H_d8.out 8 _ rfl).at
    go_wp2_with fail
    (with_reducible refine (H_q6.out _).mono ?_)
    rintro e w9 ⟨rfl, b9⟩
    have c9 : Below w8.heap.size w8 w9 := Below.trans (by (repeat (first | with_reducible exact Below.refl _ _ | with_reducible exact Nat.le_refl _ | with_reducible assumption | with_reducible refine Below.drew ?_ | with_reducible refine below_drewN ?_ _ | with_reducible refine Below.alloc ?_ ?_ _ | with_reducible refine Below.setCell ?_ ?_ _ | with_reducible exact And.right (by assumption) | with_reducible refine Below.trans ?_ (Below.mono (by assumption) ?_) | with_reducible exact Below.size (And.right (by assumption)) | (focus omega) | (focus (simp; done)) | (focus (simp; omega)) | (focus (simp at *; omega))))) (b9.mono (by first | exact Nat.le_refl _ | omega | (simp; done) | (simp; omega)))
    have s9 := c9.size
    have bb9 := H_bb8.out.trans (c9.mono H_bb8.out.size)
    have k9 := H_k8.out.below c9
    have d9 := H_d8.out.below c9
    have m9 := H_m8.out.below c9
    have n9 := H_n8.out.below c9
    have H_b9 := Lib.hid b9; clear b9; have H_c9 := Lib.hid c9; clear c9; have H_bb9 := Lib.hid bb9; clear bb9; have H_k9 := Lib.hid k9; clear k9; have H_d9 := Lib.hid d9; clear d9; have H_m9 := Lib.hid m9; clear m9; have H_n9 := Lib.hid n9; clear n9
    clear y0 y1 y2 y3 y4 y5 y6 y7 y8
    have y0 := (H_d9.out 0 _ rfl).at
    have y1 := (H_d9.out 1 _ rfl).at
    have y2 := (H_d9.out 2 _ rfl).at
    have y3 := (H_d9.out 3 _ rfl).at
    have y4 := (H_d9.out 4 _ rfl).at
    have y5 := (H_d9.out 5 _ rfl).at
    have y6 := (H_d9.out 6 _ rfl).at
    have y7 := (H_d9.out 7 _ rfl).at
    have y8 := (H_d9.out 8 _ rfl).at
    have x0 := (H_k9.out 0 _ rfl).at
    have x1 := (H_k9.out 1 _ rfl).at
    have x2 := (H_k9.out 2 _ rfl).at
    have x3 := (H_k9.out 3 _ rfl).at
    have x4 := (H_k9.out 4 _ rfl).at
    have x5 := (H_k9.out 5 _ rfl).at
    have x6 := (H_k9.out 6 _ rfl).at
    have x7 := (H_k9.out 7 _ rfl).at
    have x8 := (H_k9.out 8 _ rfl).at
    have u0 := (H_m9.out 0 _ rfl).at
    have u1 := (H_m9.out 1 _ rfl).at
    have u2 := (H_m9.out 2 _ rfl).at
    have u3 := (H_m9.out 3 _ rfl).at
    have u4 := (H_m9.out 4 _ rfl).at
    have u5 := (H_m9.out 5 _ rfl).at
    have u6 := (H_m9.out 6 _ rfl).at
    have u7 := (H_m9.out 7 _ rfl).at
    have u8 := (H_m9.out 8 _ rfl).at
    have v0 := (H_n9.out 0 _ rfl).at
    have v1 := (H_n9.out 1 _ rfl).at
    have v2 := (H_n9.out 2 _ rfl).at
    have v3 := (H_n9.out 3 _ rfl).at
    have v4 := (H_n9.out 4 _ rfl).at
    have v5 := (H_n9.out 5 _ rfl).at
    have v6 := (H_n9.out 6 _ rfl).at
    have v7 := (H_n9.out 7 _ rfl).at
    have v8 := (H_n9.out 8 _ rfl).at
    go_wp2_with fail
    go_ret
    exact ⟨rfl, H_bb9.out⟩
end Go.Proofs.YtoehobaigfmnpaaDoor

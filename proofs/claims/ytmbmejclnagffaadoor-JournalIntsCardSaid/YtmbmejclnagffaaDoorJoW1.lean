/- The walk of JournalInts. -/
import Derived.Test.YtmbmejclnagffaaDoorOpnJ
namespace Go.Proofs.YtmbmejclnagffaaDoor
set_option linter.unusedSimpArgs false
set_option linter.unusedVariables false
set_option maxRecDepth 100000
open Go.RowKit

set_option maxHeartbeats 16000000 in
set_option maxRecDepth 100000 in
theorem journalInts_walk (x y : Msg) (w : World) (fx : MsgArg w x) (fy : MsgArg w y) (ht : JTab w) :
    Calls Tryd.prog 5 #[.agg x.cells.toArray, .agg y.cells.toArray] w fun e w' => e = .returned (.bool true) ∧ Below w.heap.size w w' := by
  obtain ⟨N, hN⟩ : ∃ N, x.a.length = N := ⟨_, rfl⟩
  obtain ⟨M, hM⟩ : ∃ M, y.a.length = M := ⟨_, rfl⟩
  have ex : x.cells.toArray = #[.int .i64 x.p, .int .i64 x.s, .int .i64 x.t, .int .i64 x.k, .slice x.A N x.c] := by rw [← hN]; rfl
  have ey : y.cells.toArray = #[.int .i64 y.p, .int .i64 y.s, .int .i64 y.t, .int .i64 y.k, .slice y.A M y.c] := by rw [← hM]; rfl
  have q1 := fun W h1 h2 => head39_any W h1 h2
  have q2 := fun W h1 h2 => jargs_any x fx.fit W h1 h2
  have q3 := fun W h1 h2 => jargs_any y fy.fit W h1 h2
  have q5 := fun (hx : x.a.length ≤ 1000000) (hy : y.a.length ≤ 1000000) W h1 h2 => rsameM_any x y hx hy W h1 h2
  rw [ex] at q2 q5
  rw [ey] at q3 q5
  rw [hN, hM] at q5
  rw [ex, ey]
  obtain ⟨w0, hw0⟩ : ∃ W, (w.alloc (.cells #[.int .i64 x.p, .int .i64 x.s, .int .i64 x.t, .int .i64 x.k, .slice x.A N x.c] 47)).alloc (.cells #[.int .i64 y.p, .int .i64 y.s, .int .i64 y.t, .int .i64 y.k, .slice y.A M y.c] 47) = W := ⟨_, rfl⟩
  have bb0 : Below w.heap.size w w0 := by rw [← hw0]; exact ((Below.refl _ _).alloc (Nat.le_refl _) _).alloc (by simp) _
  have k0 : Blk w0 w.heap.size #[.int .i64 x.p, .int .i64 x.s, .int .i64 x.t, .int .i64 x.k, .slice x.A N x.c] := by rw [← hw0]; exact (blk_new rfl).alloc _
  have j0 : Blk w0 (w.heap.size + 1) #[.int .i64 y.p, .int .i64 y.s, .int .i64 y.t, .int .i64 y.k, .slice y.A M y.c] := by rw [← hw0]; exact blk_new (by simp)
  have l0 := fx.ints.below bb0
  have m0 := fy.ints.below bb0
  have t0 := ht.1.below bb0
  have n0 := ht.2.below bb0
  have nx : N ≤ 9223372036854775807 := by have := fx.room; have := fx.max; omega
  have ny : M ≤ 9223372036854775807 := by have := fy.room; have := fy.max; omega
  unfold OwnErr at q2 q3
  have same := sameM_msI x y
  have hEx : argE x = 1 → argL x = [] := fun h => by unfold argE at h; unfold argL; split at h <;> simp_all
  have hEy : argE y = 1 → argL y = [] := fun h => by unfold argE at h; unfold argL; split at h <;> simp_all
  have hFx : argE x = 0 → argL x = msI x ∧ (msI x).length ≤ 100 := fun h => by
    unfold argE at h; unfold argL
    split at h
    · rename_i hm; exact ⟨if_pos hm, by have := msgB_len hm; simp [msI]; omega⟩
    · cases h
  have hFy : argE y = 0 → argL y = msI y ∧ (msI y).length ≤ 100 := fun h => by
    unfold argE at h; unfold argL
    split at h
    · rename_i hm; exact ⟨if_pos hm, by have := msgB_len hm; simp [msI]; omega⟩
    · cases h
  have hx01 : argE x = 0 ∨ argE x = 1 := by unfold argE; split; exact .inl rfl; exact .inr rfl
  have hy01 : argE y = 0 ∨ argE y = 1 := by unfold argE; split; exact .inl rfl; exact .inr rfl
  generalize argE x = EX at *
  generalize argE y = EY at *
  generalize argL x = LX at *
  generalize argL y = LY at *
  generalize hNX : LX.length = NX at *
  generalize hNY : LY.length = NY at *
  generalize sameM x y = R at *
  generalize msI x = IX at *
  generalize msI y = IY at *
  generalize x.p = xp at *
  generalize x.s = xs at *
  generalize x.t = xt at *
  generalize x.k = xk at *
  generalize x.A = xA at *
  generalize x.c = xc at *
  generalize x.a = xa at *
  generalize y.p = yp at *
  generalize y.s = ys at *
  generalize y.t = yt at *
  generalize y.k = yk at *
  generalize y.A = yA at *
  generalize y.c = yc at *
  generalize y.a = ya at *
  clear ex ey
  have H_q1 := Lib.hid q1; clear q1; have H_q2 := Lib.hid q2; clear q2; have H_q3 := Lib.hid q3; clear q3; have H_q5 := Lib.hid q5; clear q5; have H_hw0 := Lib.hid hw0; clear hw0; have H_bb0 := Lib.hid bb0; clear bb0; have H_k0 := Lib.hid k0; clear k0; have H_j0 := Lib.hid j0; clear j0; have H_l0 := Lib.hid l0; clear l0; have H_m0 := Lib.hid m0; clear m0; have H_t0 := Lib.hid t0; clear t0; have H_n0 := Lib.hid n0; clear n0; have H_fx := Lib.hid fx; clear fx; have H_fy := Lib.hid fy; clear fy; have H_ht := Lib.hid ht; clear ht; have H_same := Lib.hid same; clear same; have H_hEx := Lib.hid hEx; clear hEx; have H_hEy := Lib.hid hEy; clear hEy; have H_hFx := Lib.hid hFx; clear hFx; have H_hFy := Lib.hid hFy; clear hFy; have H_hNX := Lib.hid hNX; clear hNX; have H_hNY := Lib.hid hNY; clear hNY; have H_hN := Lib.hid hN; clear hN; have H_hM := Lib.hid hM; clear hM
  go_enter Tryd.func5, Tryd.ntmps5
  go_upto_region 1 with (fail)
  rw [H_hw0.out]
  go_wp2_with fail
  (with_reducible refine (H_q1.out _ ?_ ?_).mono ?_)
  · exact H_t0.out.below (show Below w0.heap.size w0 _ by (repeat (first | with_reducible exact Below.refl _ _ | with_reducible exact Nat.le_refl _ | with_reducible assumption | with_reducible refine Below.drew ?_ | with_reducible refine below_drewN ?_ _ | with_reducible refine Below.alloc ?_ ?_ _ | with_reducible refine Below.setCell ?_ ?_ _ | with_reducible exact And.right (by assumption) | with_reducible refine Below.trans ?_ (Below.mono (by assumption) ?_) | with_reducible exact Below.size (And.right (by assumption)) | (focus omega) | (focus (simp; done)) | (focus (simp; omega)) | (focus (simp at *; omega)))))
  · exact H_n0.out.below (show Below w0.heap.size w0 _ by (repeat (first | with_reducible exact Below.refl _ _ | with_reducible exact Nat.le_refl _ | with_reducible assumption | with_reducible refine Below.drew ?_ | with_reducible refine below_drewN ?_ _ | with_reducible refine Below.alloc ?_ ?_ _ | with_reducible refine Below.setCell ?_ ?_ _ | with_reducible exact And.right (by assumption) | with_reducible refine Below.trans ?_ (Below.mono (by assumption) ?_) | with_reducible exact Below.size (And.right (by assumption)) | (focus omega) | (focus (simp; done)) | (focus (simp; omega)) | (focus (simp at *; omega)))))
  rintro e w1 ⟨rfl, b1⟩
  have c1 : Below w0.heap.size w0 w1 := Below.trans (by (repeat (first | with_reducible exact Below.refl _ _ | with_reducible exact Nat.le_refl _ | with_reducible assumption | with_reducible refine Below.drew ?_ | with_reducible refine below_drewN ?_ _ | with_reducible refine Below.alloc ?_ ?_ _ | with_reducible refine Below.setCell ?_ ?_ _ | with_reducible exact And.right (by assumption) | with_reducible refine Below.trans ?_ (Below.mono (by assumption) ?_) | with_reducible exact Below.size (And.right (by assumption)) | (focus omega) | (focus (simp; done)) | (focus (simp; omega)) | (focus (simp at *; omega))))) (b1.mono (by first | exact Nat.le_refl _ | omega | (simp; done) | (simp; omega)))
  have s1 := c1.size
  have bb1 := H_bb0.out.trans (c1.mono H_bb0.out.size)
  have k1 := H_k0.out.below c1
  have j1 := H_j0.out.below c1
  have l1 := H_l0.out.below c1
  have m1 := H_m0.out.below c1
  have t1 := H_t0.out.below c1
  have n1 := H_n0.out.below c1
  have H_b1 := Lib.hid b1; clear b1; have H_c1 := Lib.hid c1; clear c1; have H_bb1 := Lib.hid bb1; clear bb1; have H_k1 := Lib.hid k1; clear k1; have H_j1 := Lib.hid j1; clear j1; have H_l1 := Lib.hid l1; clear l1; have H_m1 := Lib.hid m1; clear m1; have H_t1 := Lib.hid t1; clear t1; have H_n1 := Lib.hid n1; clear n1
  have u0 := (H_k1.out 0 _ rfl).at
  have u1 := (H_k1.out 1 _ rfl).at
  have u2 := (H_k1.out 2 _ rfl).at
  have u3 := (H_k1.out 3 _ rfl).at
  have u4 := (H_k1.out 4 _ rfl).at
  have v0 := (H_j1.out 0 _ rfl).at
  have v1 := (H_j1.out 1 _ rfl).at
  have v2 := (H_j1.out 2 _ rfl).at
  have v3 := (H_j1.out 3 _ rfl).at
  have v4 := (H_j1.out 4 _ rfl).at
  by_cases h1 : 40 < N
  · have g1 : decide ((40 : Int) < (N : Int)) = true := decide_eq_true (by omega)
    have g2 : (40 : Int) < (N : Int) := by omega
    go_wp2_with fail
    go_ret
    exact ⟨rfl, H_bb1.out⟩
  have g1 : decide ((40 : Int) < (N : Int)) = false := decide_eq_false (by omega)
  have g2 : ¬ (40 : Int) < (N : Int) := by omega
  by_cases h2 : 40 < M
  · have g3 : decide ((40 : Int) < (M : Int)) = true := decide_eq_true (by omega)
    have g4 : (40 : Int) < (M : Int) := by omega
    go_wp2_with fail
    go_ret
    exact ⟨rfl, H_bb1.out⟩
  have g3 : decide ((40 : Int) < (M : Int)) = false := decide_eq_false (by omega)
  have g4 : ¬ (40 : Int) < (M : Int) := by omega
  have q5 := H_q5.out (by omega) (by omega)
  have H_q5 := Lib.hid q5; clear q5
  go_upto_region 4 with (fail)
  go_wp2_with fail
  (with_reducible refine (H_q2.out _ ?_ ?_).mono ?_)
  · exact H_l1.out.below (show Below w1.heap.size w1 _ by (repeat (first | with_reducible exact Below.refl _ _ | with_reducible exact Nat.le_refl _ | with_reducible assumption | with_reducible refine Below.drew ?_ | with_reducible refine below_drewN ?_ _ | with_reducible refine Below.alloc ?_ ?_ _ | with_reducible refine Below.setCell ?_ ?_ _ | with_reducible exact And.right (by assumption) | with_reducible refine Below.trans ?_ (Below.mono (by assumption) ?_) | with_reducible exact Below.size (And.right (by assumption)) | (focus omega) | (focus (simp; done)) | (focus (simp; omega)) | (focus (simp at *; omega)))))
  · exact H_n1.out.below (show Below w1.heap.size w1 _ by (repeat (first | with_reducible exact Below.refl _ _ | with_reducible exact Nat.le_refl _ | with_reducible assumption | with_reducible refine Below.drew ?_ | with_reducible refine below_drewN ?_ _ | with_reducible refine Below.alloc ?_ ?_ _ | with_reducible refine Below.setCell ?_ ?_ _ | with_reducible exact And.right (by assumption) | with_reducible refine Below.trans ?_ (Below.mono (by assumption) ?_) | with_reducible exact Below.size (And.right (by assumption)) | (focus omega) | (focus (simp; done)) | (focus (simp; omega)) | (focus (simp at *; omega)))))
  rintro e w2 ⟨A2, c2x, rfl, o2, b2⟩
  have c2 : Below w1.heap.size w1 w2 := Below.trans (by (repeat (first | with_reducible exact Below.refl _ _ | with_reducible exact Nat.le_refl _ | with_reducible assumption | with_reducible refine Below.drew ?_ | with_reducible refine below_drewN ?_ _ | with_reducible refine Below.alloc ?_ ?_ _ | with_reducible refine Below.setCell ?_ ?_ _ | with_reducible exact And.right (by assumption) | with_reducible refine Below.trans ?_ (Below.mono (by assumption) ?_) | with_reducible exact Below.size (And.right (by assumption)) | (focus omega) | (focus (simp; done)) | (focus (simp; omega)) | (focus (simp at *; omega))))) (b2.mono (by first | exact Nat.le_refl _ | omega | (simp; done) | (simp; omega)))
  have s2 := c2.size
  have bb2 := H_bb1.out.trans (c2.mono H_bb1.out.size)
  have k2 := H_k1.out.below c2
  have j2 := H_j1.out.below c2
  have l2 := H_l1.out.below c2
  have m2 := H_m1.out.below c2
  have t2 := H_t1.out.below c2
  have n2 := H_n1.out.below c2
  have H_b2 := Lib.hid b2; clear b2; have H_c2 := Lib.hid c2; clear c2; have H_bb2 := Lib.hid bb2; clear bb2; have H_k2 := Lib.hid k2; clear k2; have H_j2 := Lib.hid j2; clear j2; have H_l2 := Lib.hid l2; clear l2; have H_m2 := Lib.hid m2; clear m2; have H_t2 := Lib.hid t2; clear t2; have H_n2 := Lib.hid n2; clear n2
  have i2 := o2.ints
  clear u0 u1 u2 u3 u4
  clear v0 v1 v2 v3 v4
  have H_o2 := Lib.hid o2; clear o2; have H_i2 := Lib.hid i2; clear i2
  have u0 := (H_k2.out 0 _ rfl).at
  have u1 := (H_k2.out 1 _ rfl).at
  have u2 := (H_k2.out 2 _ rfl).at
  have u3 := (H_k2.out 3 _ rfl).at
  have u4 := (H_k2.out 4 _ rfl).at
  have v0 := (H_j2.out 0 _ rfl).at
  have v1 := (H_j2.out 1 _ rfl).at
  have v2 := (H_j2.out 2 _ rfl).at
  have v3 := (H_j2.out 3 _ rfl).at
  have v4 := (H_j2.out 4 _ rfl).at
  go_wp2_with fail
  (with_reducible refine (H_q3.out _ ?_ ?_).mono ?_)
  · exact H_m2.out.below (show Below w2.heap.size w2 _ by (repeat (first | with_reducible exact Below.refl _ _ | with_reducible exact Nat.le_refl _ | with_reducible assumption | with_reducible refine Below.drew ?_ | with_reducible refine below_drewN ?_ _ | with_reducible refine Below.alloc ?_ ?_ _ | with_reducible refine Below.setCell ?_ ?_ _ | with_reducible exact And.right (by assumption) | with_reducible refine Below.trans ?_ (Below.mono (by assumption) ?_) | with_reducible exact Below.size (And.right (by assumption)) | (focus omega) | (focus (simp; done)) | (focus (simp; omega)) | (focus (simp at *; omega)))))
  · exact H_n2.out.below (show Below w2.heap.size w2 _ by (repeat (first | with_reducible exact Below.refl _ _ | with_reducible exact Nat.le_refl _ | with_reducible assumption | with_reducible refine Below.drew ?_ | with_reducible refine below_drewN ?_ _ | with_reducible refine Below.alloc ?_ ?_ _ | with_reducible refine Below.setCell ?_ ?_ _ | with_reducible exact And.right (by assumption) | with_reducible refine Below.trans ?_ (Below.mono (by assumption) ?_) | with_reducible exact Below.size (And.right (by assumption)) | (focus omega) | (focus (simp; done)) | (focus (simp; omega)) | (focus (simp at *; omega)))))
  rintro e w3 ⟨A3, c3x, rfl, o3, b3⟩
  have c3 : Below w2.heap.size w2 w3 := Below.trans (by (repeat (first | with_reducible exact Below.refl _ _ | with_reducible exact Nat.le_refl _ | with_reducible assumption | with_reducible refine Below.drew ?_ | with_reducible refine below_drewN ?_ _ | with_reducible refine Below.alloc ?_ ?_ _ | with_reducible refine Below.setCell ?_ ?_ _ | with_reducible exact And.right (by assumption) | with_reducible refine Below.trans ?_ (Below.mono (by assumption) ?_) | with_reducible exact Below.size (And.right (by assumption)) | (focus omega) | (focus (simp; done)) | (focus (simp; omega)) | (focus (simp at *; omega))))) (b3.mono (by first | exact Nat.le_refl _ | omega | (simp; done) | (simp; omega)))
  have s3 := c3.size
  have bb3 := H_bb2.out.trans (c3.mono H_bb2.out.size)
  have k3 := H_k2.out.below c3
  have j3 := H_j2.out.below c3
  have l3 := H_l2.out.below c3
  have m3 := H_m2.out.below c3
  have t3 := H_t2.out.below c3
  have n3 := H_n2.out.below c3
  have i3 := H_i2.out.below c3
  have H_b3 := Lib.hid b3; clear b3; have H_c3 := Lib.hid c3; clear c3; have H_bb3 := Lib.hid bb3; clear bb3; have H_k3 := Lib.hid k3; clear k3; have H_j3 := Lib.hid j3; clear j3; have H_l3 := Lib.hid l3; clear l3; have H_m3 := Lib.hid m3; clear m3; have H_t3 := Lib.hid t3; clear t3; have H_n3 := Lib.hid n3; clear n3; have H_i3 := Lib.hid i3; clear i3
  have p3 := o3.ints
  clear u0 u1 u2 u3 u4
  clear v0 v1 v2 v3 v4
  have H_o3 := Lib.hid o3; clear o3; have H_p3 := Lib.hid p3; clear p3
  rcases hx01 with hx | hx
  · subst hx
    obtain ⟨ex, lx⟩ := H_hFx.out rfl
    rcases hy01 with hy | hy
    · subst hy
      obtain ⟨ey, ly⟩ := H_hFy.out rfl
      have q4 : ∀ W, IntsAt W A2 .i64 LX → IntsAt W A3 .i64 LY → Calls Tryd.prog 17 #[.slice A2 NX c2x, .slice A3 NY c3x] W fun e w' => e = .returned (.bool R) ∧ Below W.heap.size W w' := fun W h1 h2 => by
        have := jsameInts_any A2 A3 c2x c3x LX LY W h1 h2 (by rw [ex]; omega) (by rw [ey]; omega)
        rw [H_hNX.out, H_hNY.out, ex, ey, H_same.out] at this
        refine this.mono ?_
        rintro e w' ⟨h3, q, rfl⟩
        exact ⟨h3, below_drewN (Below.refl _ _) q⟩
      have H_q4 := Lib.hid q4; clear q4; have H_ex := Lib.hid ex; clear ex; have H_ey := Lib.hid ey; clear ey; have H_lx := Lib.hid lx; clear lx; have H_ly := Lib.hid ly; clear ly
      have u0 := (H_k3.out 0 _ rfl).at
      have u1 := (H_k3.out 1 _ rfl).at
      have u2 := (H_k3.out 2 _ rfl).at
      have u3 := (H_k3.out 3 _ rfl).at
      have u4 := (H_k3.out 4 _ rfl).at
      have v0 := (H_j3.out 0 _ rfl).at
      have v1 := (H_j3.out 1 _ rfl).at
      have v2 := (H_j3.out 2 _ rfl).at
      have v3 := (H_j3.out 3 _ rfl).at
      have v4 := (H_j3.out 4 _ rfl).at
      go_upto_region 8 with (fail)
      have z3 := (H_k3.out 0 _ rfl).lt
      have z4 := (H_j3.out 0 _ rfl).lt
      refine wp_region_held_drew (S := (fun W => (∀ b o, b < w3.heap.size → W.cell? ⟨b, o, none⟩ = w3.cell? ⟨b, o, none⟩) ∧ Below w3.heap.size w3 W)) (by kernel_rfl) ?_ (fun hHeld => ?_)
      · (try dsimp only); (first | (refine ext_mk ?_; (repeat (first | with_reducible exact Below.refl _ _ | with_reducible exact Nat.le_refl _ | with_reducible assumption | with_reducible refine Below.drew ?_ | with_reducible refine below_drewN ?_ _ | with_reducible refine Below.alloc ?_ ?_ _ | with_reducible refine Below.setCell ?_ ?_ _ | with_reducible exact And.right (by assumption) | with_reducible refine Below.trans ?_ (Below.mono (by assumption) ?_) | with_reducible exact Below.size (And.right (by assumption)) | (focus omega) | (focus (simp; done)) | (focus (simp; omega)) | (focus (simp at *; omega))))))
      refine take_at (i := 0) (some 57) rfl rfl (by kernel_rfl) (fun _ _ _ h => h) (by rfl) (v := ?_) ?_ (by assumption) ?_
      rotate_left
      · intro W hSw; (try dsimp only at hSw); go_simp; (try with_reducible rfl)
      (try simp only [Act.put, List.setIfInBounds_toArray, List.set_cons_zero, List.set_cons_succ])
      refine take_at (i := 1) (some 58) rfl rfl (by kernel_rfl) (fun _ _ _ h => h) (by rfl) (v := ?_) ?_ (by assumption) ?_
      rotate_left
      · intro W hSw; (try dsimp only at hSw); go_simp; (try with_reducible rfl)
      (try simp only [Act.put, List.setIfInBounds_toArray, List.set_cons_zero, List.set_cons_succ])
      refine take_at (i := 2) (some 59) rfl rfl (by kernel_rfl) (fun _ _ _ h => h) (by rfl) (v := ?_) ?_ (by assumption) ?_
      rotate_left
      · intro W hSw; (try dsimp only at hSw); go_simp; (try with_reducible rfl)
      (try simp only [Act.put, List.setIfInBounds_toArray, List.set_cons_zero, List.set_cons_succ])
      refine take_at (i := 3) (some 60) rfl rfl (by kernel_rfl) (fun _ _ _ h => h) (by rfl) (v := ?_) ?_ (by assumption) ?_
      rotate_left
      · intro W hSw; (try dsimp only at hSw); go_simp; (try with_reducible rfl)
      (try simp only [Act.put, List.setIfInBounds_toArray, List.set_cons_zero, List.set_cons_succ])
      refine take_at (i := 5) (some 62) rfl rfl (by kernel_rfl) (fun _ _ _ h => h) (by rfl) (v := ?_) ?_ (by assumption) ?_
      rotate_left
      · intro W hSw; (try dsimp only at hSw); go_simp; (try with_reducible rfl)
      (try simp only [Act.put, List.setIfInBounds_toArray, List.set_cons_zero, List.set_cons_succ])
      refine take_at (i := 6) (some 63) rfl rfl (by kernel_rfl) (fun _ _ _ h => h) (by rfl) (v := ?_) ?_ (by assumption) ?_
      rotate_left
      · intro W hSw; (try dsimp only at hSw); go_simp; (try with_reducible rfl)
      (try simp only [Act.put, List.setIfInBounds_toArray, List.set_cons_zero, List.set_cons_succ])
      refine wpAnyH_ready (rs := [4]) (by kernel_rfl) (by simp) ?_
      refine AllReadyH.cons rfl (fun K hK => ?_) AllReadyH.nil
      go_simp
      (first | (go_at_call 17; (with_reducible refine (H_q4.out _ ?_ ?_).mono ?_); (focus (exact H_i3.out.below (And.right (by assumption : _ ∧ Below w3.heap.size w3 _)))); (focus (exact H_p3.out.below (And.right (by assumption : _ ∧ Below w3.heap.size w3 _)))); rintro e w4 ⟨rfl, hbw4⟩; have gw4 := Below.trans (And.right (by assumption : _ ∧ Below w3.heap.size w3 _)) (hbw4.mono (Below.size (And.right (by assumption : _ ∧ Below w3.heap.size w3 _)))); have gsw4 := gw4.size; have hcf := bcell hbw4; have hcw4 := hcf.1; have hfw4 := hcf.2; have hsw4 := hbw4.size; (try simp only [World.size_alloc, World.heap_drewN, heap_drew] at hsw4); clear hbw4 hcf; (try have hzw4 : w3.heap.size < w4.heap.size := by omega)) | (go_at_call 18; (with_reducible refine (H_q5.out _ ?_ ?_).mono ?_); (focus (exact H_l3.out.below (And.right (by assumption : _ ∧ Below w3.heap.size w3 _)))); (focus (exact H_m3.out.below (And.right (by assumption : _ ∧ Below w3.heap.size w3 _)))); rintro e w5 ⟨rfl, hbw5⟩; have gw5 := Below.trans (And.right (by assumption : _ ∧ Below w3.heap.size w3 _)) (hbw5.mono (Below.size (And.right (by assumption : _ ∧ Below w3.heap.size w3 _)))); have gsw5 := gw5.size; have hcf := bcell hbw5; have hcw5 := hcf.1; have hfw5 := hcf.2; have hsw5 := hbw5.size; (try simp only [World.size_alloc, World.heap_drewN, heap_drew] at hsw5); clear hbw5 hcf; (try have hzw5 : w3.heap.size < w5.heap.size := by omega)))
      refine hK.out _ _ ?_ (fun hHeld => ?_)
      · (try dsimp only); (first | (refine ext_mk ?_; (repeat (first | with_reducible exact Below.refl _ _ | with_reducible exact Nat.le_refl _ | with_reducible assumption | with_reducible refine Below.drew ?_ | with_reducible refine below_drewN ?_ _ | with_reducible refine Below.alloc ?_ ?_ _ | with_reducible refine Below.setCell ?_ ?_ _ | with_reducible exact And.right (by assumption) | with_reducible refine Below.trans ?_ (Below.mono (by assumption) ?_) | with_reducible exact Below.size (And.right (by assumption)) | (focus omega) | (focus (simp; done)) | (focus (simp; omega)) | (focus (simp at *; omega))))))
      clear hK K
      (try simp only [Act.put, List.setIfInBounds_toArray, List.set_cons_zero, List.set_cons_succ])
      refine wpAnyH_ready (rs := [7]) (by kernel_rfl) (by simp) ?_
      refine AllReadyH.cons rfl (fun K hK => ?_) AllReadyH.nil
      go_simp
      (first | (go_at_call 17; (with_reducible refine (H_q4.out _ ?_ ?_).mono ?_); (focus (exact H_i3.out.below (And.right (by assumption : _ ∧ Below w3.heap.size w3 _)))); (focus (exact H_p3.out.below (And.right (by assumption : _ ∧ Below w3.heap.size w3 _)))); rintro e w4 ⟨rfl, hbw4⟩; have gw4 := Below.trans (And.right (by assumption : _ ∧ Below w3.heap.size w3 _)) (hbw4.mono (Below.size (And.right (by assumption : _ ∧ Below w3.heap.size w3 _)))); have gsw4 := gw4.size; have hcf := bcell hbw4; have hcw4 := hcf.1; have hfw4 := hcf.2; have hsw4 := hbw4.size; (try simp only [World.size_alloc, World.heap_drewN, heap_drew] at hsw4); clear hbw4 hcf; (try have hzw4 : w3.heap.size < w4.heap.size := by omega)) | (go_at_call 18; (with_reducible refine (H_q5.out _ ?_ ?_).mono ?_); (focus (exact H_l3.out.below (And.right (by assumption : _ ∧ Below w3.heap.size w3 _)))); (focus (exact H_m3.out.below (And.right (by assumption : _ ∧ Below w3.heap.size w3 _)))); rintro e w5 ⟨rfl, hbw5⟩; have gw5 := Below.trans (And.right (by assumption : _ ∧ Below w3.heap.size w3 _)) (hbw5.mono (Below.size (And.right (by assumption : _ ∧ Below w3.heap.size w3 _)))); have gsw5 := gw5.size; have hcf := bcell hbw5; have hcw5 := hcf.1; have hfw5 := hcf.2; have hsw5 := hbw5.size; (try simp only [World.size_alloc, World.heap_drewN, heap_drew] at hsw5); clear hbw5 hcf; (try have hzw5 : w3.heap.size < w5.heap.size := by omega)))
      refine hK.out _ _ ?_ (fun hHeld => ?_)
      · (try dsimp only); (first | (refine ext_mk ?_; (repeat (first | with_reducible exact Below.refl _ _ | with_reducible exact Nat.le_refl _ | with_reducible assumption | with_reducible refine Below.drew ?_ | with_reducible refine below_drewN ?_ _ | with_reducible refine Below.alloc ?_ ?_ _ | with_reducible refine Below.setCell ?_ ?_ _ | with_reducible exact And.right (by assumption) | with_reducible refine Below.trans ?_ (Below.mono (by assumption) ?_) | with_reducible exact Below.size (And.right (by assumption)) | (focus omega) | (focus (simp; done)) | (focus (simp; omega)) | (focus (simp at *; omega))))))
      clear hK K
      (try simp only [Act.put, List.setIfInBounds_toArray, List.set_cons_zero, List.set_cons_succ])
      refine take_at (i := 8) (some 65) rfl rfl (by kernel_rfl) (fun _ _ _ h => h) (by rfl) (v := ?_) ?_ (by assumption) ?_
      rotate_left
      · intro W hSw; (try dsimp only at hSw); go_simp; (try with_reducible rfl)
      (try simp only [Act.put, List.setIfInBounds_toArray, List.set_cons_zero, List.set_cons_succ])
      refine take_at (i := 9) (some 66) rfl rfl (by kernel_rfl) (fun _ _ _ h => h) (by rfl) (v := ?_) ?_ (by assumption) ?_
      rotate_left
      · intro W hSw; (try dsimp only at hSw); go_simp; (try with_reducible rfl)
      (try simp only [Act.put, List.setIfInBounds_toArray, List.set_cons_zero, List.set_cons_succ])
      refine take_at (i := 10) (some 4) rfl rfl (by kernel_rfl) (fun _ _ _ h => h) (by rfl) (v := ?_) ?_ (by assumption) ?_
      rotate_left
      · intro W hSw; (try dsimp only at hSw); go_simp; (try with_reducible rfl)
      (try simp only [Act.put, List.setIfInBounds_toArray, List.set_cons_zero, List.set_cons_succ])
      refine wpAnyH_done (by kernel_rfl) ?_ _
      have gF : Below w3.heap.size w3 _ := And.right (by assumption)
      have gG := H_bb3.out.trans (gF.mono H_bb3.out.size)
      have H_gF := Lib.hid gF; clear gF; have H_gG := Lib.hid gG; clear gG
      go_wp2_with fail
      go_ret
      exact ⟨ret_bool (by simp), H_gG.out⟩
    · subst hy
      have ey := H_hEy.out rfl
      have ny0 : NY = 0 := by rw [← H_hNY.out, ey]; rfl
      subst ny0
      have H_ex := Lib.hid ex; clear ex; have H_ey := Lib.hid ey; clear ey; have H_lx := Lib.hid lx; clear lx
      go_wp2_with fail
      go_ret
      exact ⟨rfl, H_bb3.out⟩
  · subst hx
    have ex := H_hEx.out rfl
    have nx0 : NX = 0 := by rw [← H_hNX.out, ex]; rfl
    subst nx0
    rcases hy01 with hy | hy
    · subst hy
      have H_ex := Lib.hid ex; clear ex
      go_wp2_with fail
      go_ret
      exact ⟨rfl, H_bb3.out⟩
    · subst hy
      have ey := H_hEy.out rfl
      have ny0 : NY = 0 := by rw [← H_hNY.out, ey]; rfl
      subst ny0
      have H_ex := Lib.hid ex; clear ex; have H_ey := Lib.hid ey; clear ey
      go_wp2_with fail
      go_ret
      exact ⟨rfl, H_bb3.out⟩
end Go.Proofs.YtmbmejclnagffaaDoor

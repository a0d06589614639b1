/- The walk of CardLists. -/
import Derived.Test.YtoehobaigfmnpaaDoorCaM
namespace Go.Proofs.YtoehobaigfmnpaaDoor
set_option linter.unusedSimpArgs false
set_option linter.unusedVariables false
set_option maxRecDepth 100000
open Go.RowKit Go.Maps

theorem newR_ok {door : Int} {l : List Crd} (h : newE door l = 0) : newR door l = newL door l := by rw [newR, if_pos h]
set_option maxHeartbeats 8000000 in
theorem cardLists_walk (A : Option Addr) (cp : Nat) (l : List Crd) (B : Option Addr) (cq : Nat) (m : List Crd) (door : Int) (w0 : World) (hl : Cards w0 A l) (hlc : l.length ≤ cp) (hcm : cp ≤ maxLen) (hm : Cards w0 B m) (hmc : m.length ≤ cq) (hcq : cq ≤ maxLen) (hd : (Lit.int .i64 door).wf = true) (ht : Tab w0) :
    Calls Tryd.prog 5 #[.slice A l.length cp, .slice B m.length cq, .int .i64 door] w0 fun e w' => e = .returned (.bool true) ∧ Below w0.heap.size w0 w' := by
  unfold maxLen at hcm hcq
  have bb0 := Below.refl w0.heap.size w0
  have t0 := ht
  have l0 := hl
  have m0 := hm
  have q1 := head35_any w0 ht
  have hlf := hl.fit
  have hmf := hm.fit
  generalize hN : l.length = N at *
  generalize hM : m.length = M at *
  have H_hl := Lib.hid hl; clear hl; have H_hm := Lib.hid hm; clear hm; have H_ht := Lib.hid ht; clear ht; have H_bb0 := Lib.hid bb0; clear bb0; have H_t0 := Lib.hid t0; clear t0; have H_l0 := Lib.hid l0; clear l0; have H_m0 := Lib.hid m0; clear m0; have H_q1 := Lib.hid q1; clear q1; have H_hN := Lib.hid hN; clear hN; have H_hM := Lib.hid hM; clear hM; have H_hd := Lib.hid hd; clear hd; have H_hlf := Lib.hid hlf; clear hlf; have H_hmf := Lib.hid hmf; clear hmf
  go_enter Tryd.func5, Tryd.ntmps5
  go_wp2_with fail
  (with_reducible refine (H_q1.out).mono ?_)
  rintro e w1 ⟨rfl, b1⟩
  have c1 : Below w0.heap.size w0 w1 := Below.trans (by (repeat (first | with_reducible exact Below.refl _ _ | with_reducible exact Nat.le_refl _ | with_reducible assumption | with_reducible refine Below.drew ?_ | with_reducible refine below_drewN ?_ _ | with_reducible refine Below.alloc ?_ ?_ _ | with_reducible refine Below.setCell ?_ ?_ _ | with_reducible exact And.right (by assumption) | with_reducible refine Below.trans ?_ (Below.mono (by assumption) ?_) | with_reducible exact Below.size (And.right (by assumption)) | (focus omega) | (focus (simp; done)) | (focus (simp; omega)) | (focus (simp at *; omega))))) (b1.mono (by first | exact Nat.le_refl _ | omega | (simp; done) | (simp; omega)))
  have s1 := c1.size
  have bb1 := H_bb0.out.trans (c1.mono H_bb0.out.size)
  have t1 := H_t0.out.below c1
  have l1 := H_l0.out.below c1
  have m1 := H_m0.out.below c1
  have H_b1 := Lib.hid b1; clear b1; have H_c1 := Lib.hid c1; clear c1; have H_bb1 := Lib.hid bb1; clear bb1; have H_t1 := Lib.hid t1; clear t1; have H_l1 := Lib.hid l1; clear l1; have H_m1 := Lib.hid m1; clear m1
  by_cases n60 : N ≤ 60
  rotate_left
  · have d1 : decide ((60 : Int) < (N : Int)) = true := decide_eq_true (by omega)
    have d2 : (60 : Int) < (N : Int) := by omega
    go_wp2_with fail
    go_ret
    exact ⟨rfl, H_bb1.out⟩
  have d1 : decide ((60 : Int) < (N : Int)) = false := decide_eq_false (by omega)
  have d2 : ¬ (60 : Int) < (N : Int) := by omega
  by_cases m60 : M ≤ 60
  rotate_left
  · have d3 : decide ((60 : Int) < (M : Int)) = true := decide_eq_true (by omega)
    have d4 : (60 : Int) < (M : Int) := by omega
    go_wp2_with fail
    go_ret
    exact ⟨rfl, H_bb1.out⟩
  have d3 : decide ((60 : Int) < (M : Int)) = false := decide_eq_false (by omega)
  have d4 : ¬ (60 : Int) < (M : Int) := by omega
  have q2 := fun W (h : Cards W A l) => cnewest_any A cp N l H_hN.out (by omega) door W h
  have q3 := fun W (h : Cards W B m) => cnewest_any B cq M m H_hM.out (by omega) door W h
  have q4 := fun W X c (h : Cards W X (l ++ m)) => cnewest_any X c (N + M) (l ++ m) (by rw [List.length_append, H_hN.out, H_hM.out]) (by omega) door W h
  have hEE := @newE_app door l m (by rw [H_hN.out]; exact n60) (by rw [H_hM.out]; exact m60)
  have e01 := newE_01 door l
  have f01 := newE_01 door m
  have g01 := newE_01 door (l ++ m)
  have hpf := newR_fit (door := door) H_hlf.out
  have hqf := newR_fit (door := door) H_hmf.out
  have hpl := newR_len door l
  have hql := newR_len door m
  have happ := newL_app door l m
  have hrR := @newR_ok door (l ++ m)
  have hpR := @newR_ok door l
  have hqR := @newR_ok door m
  have hrl := newR_len door (l ++ m)
  have hlmf : ∀ c ∈ l ++ m, CFit c := fun c hc => by
    rcases List.mem_append.1 hc with h | h
    · exact H_hlf.out c h
    · exact H_hmf.out c h
  have hrf := newR_fit (door := door) hlmf
  unfold CardsErr at q2 q3 q4
  rw [H_hN.out] at hpl
  rw [H_hM.out] at hql
  rw [List.length_append, H_hN.out, H_hM.out] at hrl
  generalize newR door l = p at *
  generalize newR door m = q at *
  generalize newR door (l ++ m) = r at *
  generalize newE door l = E at *
  generalize newE door m = F at *
  generalize newE door (l ++ m) = G at *
  generalize hP : p.length = P at *
  generalize hQ : q.length = Q at *
  generalize hR : r.length = R at *
  have H_q2 := Lib.hid q2; clear q2; have H_q3 := Lib.hid q3; clear q3; have H_q4 := Lib.hid q4; clear q4; have H_hEE := Lib.hid hEE; clear hEE; have H_e01 := Lib.hid e01; clear e01; have H_f01 := Lib.hid f01; clear f01; have H_g01 := Lib.hid g01; clear g01; have H_hpf := Lib.hid hpf; clear hpf; have H_hqf := Lib.hid hqf; clear hqf; have H_happ := Lib.hid happ; clear happ; have H_hrR := Lib.hid hrR; clear hrR; have H_hpR := Lib.hid hpR; clear hpR; have H_hqR := Lib.hid hqR; clear hqR; have H_hP := Lib.hid hP; clear hP; have H_hQ := Lib.hid hQ; clear hQ; have H_hR := Lib.hid hR; clear hR; have H_hlmf := Lib.hid hlmf; clear hlmf; have H_hrf := Lib.hid hrf; clear hrf
  go_wp2_with fail
  (with_reducible refine (H_q2.out _ ?_).mono ?_)
  · exact H_l1.out.below (show Below w1.heap.size w1 _ by (repeat (first | with_reducible exact Below.refl _ _ | with_reducible exact Nat.le_refl _ | with_reducible assumption | with_reducible refine Below.drew ?_ | with_reducible refine below_drewN ?_ _ | with_reducible refine Below.alloc ?_ ?_ _ | with_reducible refine Below.setCell ?_ ?_ _ | with_reducible exact And.right (by assumption) | with_reducible refine Below.trans ?_ (Below.mono (by assumption) ?_) | with_reducible exact Below.size (And.right (by assumption)) | (focus omega) | (focus (simp; done)) | (focus (simp; omega)) | (focus (simp at *; omega)))))
  rintro e w2 ⟨A2, p2, rfl, o2, b2⟩
  have c2 : Below w1.heap.size w1 w2 := Below.trans (by (repeat (first | with_reducible exact Below.refl _ _ | with_reducible exact Nat.le_refl _ | with_reducible assumption | with_reducible refine Below.drew ?_ | with_reducible refine below_drewN ?_ _ | with_reducible refine Below.alloc ?_ ?_ _ | with_reducible refine Below.setCell ?_ ?_ _ | with_reducible exact And.right (by assumption) | with_reducible refine Below.trans ?_ (Below.mono (by assumption) ?_) | with_reducible exact Below.size (And.right (by assumption)) | (focus omega) | (focus (simp; done)) | (focus (simp; omega)) | (focus (simp at *; omega))))) (b2.mono (by first | exact Nat.le_refl _ | omega | (simp; done) | (simp; omega)))
  have s2 := c2.size
  have bb2 := H_bb1.out.trans (c2.mono H_bb1.out.size)
  have l2 := H_l1.out.below c2
  have m2 := H_m1.out.below c2
  have H_b2 := Lib.hid b2; clear b2; have H_c2 := Lib.hid c2; clear c2; have H_bb2 := Lib.hid bb2; clear bb2; have H_l2 := Lib.hid l2; clear l2; have H_m2 := Lib.hid m2; clear m2
  have p2c := o2.cards H_hpf.out
  have H_o2 := Lib.hid o2; clear o2; have H_p2c := Lib.hid p2c; clear p2c
  go_wp2_with fail
  (with_reducible refine (H_q3.out _ ?_).mono ?_)
  · exact H_m2.out.below (show Below w2.heap.size w2 _ by (repeat (first | with_reducible exact Below.refl _ _ | with_reducible exact Nat.le_refl _ | with_reducible assumption | with_reducible refine Below.drew ?_ | with_reducible refine below_drewN ?_ _ | with_reducible refine Below.alloc ?_ ?_ _ | with_reducible refine Below.setCell ?_ ?_ _ | with_reducible exact And.right (by assumption) | with_reducible refine Below.trans ?_ (Below.mono (by assumption) ?_) | with_reducible exact Below.size (And.right (by assumption)) | (focus omega) | (focus (simp; done)) | (focus (simp; omega)) | (focus (simp at *; omega)))))
  rintro e w3 ⟨A3, p3, rfl, o3, b3⟩
  have c3 : Below w2.heap.size w2 w3 := Below.trans (by (repeat (first | with_reducible exact Below.refl _ _ | with_reducible exact Nat.le_refl _ | with_reducible assumption | with_reducible refine Below.drew ?_ | with_reducible refine below_drewN ?_ _ | with_reducible refine Below.alloc ?_ ?_ _ | with_reducible refine Below.setCell ?_ ?_ _ | with_reducible exact And.right (by assumption) | with_reducible refine Below.trans ?_ (Below.mono (by assumption) ?_) | with_reducible exact Below.size (And.right (by assumption)) | (focus omega) | (focus (simp; done)) | (focus (simp; omega)) | (focus (simp at *; omega))))) (b3.mono (by first | exact Nat.le_refl _ | omega | (simp; done) | (simp; omega)))
  have s3 := c3.size
  have bb3 := H_bb2.out.trans (c3.mono H_bb2.out.size)
  have l3 := H_l2.out.below c3
  have m3 := H_m2.out.below c3
  have H_b3 := Lib.hid b3; clear b3; have H_c3 := Lib.hid c3; clear c3; have H_bb3 := Lib.hid bb3; clear bb3; have H_l3 := Lib.hid l3; clear l3; have H_m3 := Lib.hid m3; clear m3
  have p3c := H_p2c.out.below H_c3.out
  have q3c := o3.cards H_hqf.out
  have H_o3 := Lib.hid o3; clear o3; have H_p3c := Lib.hid p3c; clear p3c; have H_q3c := Lib.hid q3c; clear q3c
  go_wp2_with (at_builtin; refine wp_app_c _ rfl (.tmp 38) (.tmp 39) rfl w3.heap.size (some ⟨w3.heap.size, 0, none⟩) 0 0 [] rfl rfl (ownC_nil (Nat.le_refl _) rfl) A cp N l H_hN.out rfl (H_l3.out.below ((Below.refl _ _).alloc (Nat.le_refl _) _)) N (by omega) (by omega) (by simp) ?_)
  intro A4 c4 w4 o4 g4
  have b4 : Below w3.heap.size w3 w4 := (ownC_nil (w := w3) (Nat.le_refl _) rfl).grow ((Below.refl _ _).alloc (Nat.le_refl _) _) g4
  have m4 := H_m3.out.below b4
  have H_o4 := Lib.hid o4; clear o4; have H_g4 := Lib.hid g4; clear g4; have H_b4 := Lib.hid b4; clear b4; have H_m4 := Lib.hid m4; clear m4
  go_wp2_with (at_builtin; refine wp_app_c _ rfl (.tmp 40) (.tmp 41) rfl w3.heap.size A4 c4 N l H_hN.out rfl H_o4.out B cq M m H_hM.out rfl H_m4.out (N + M) rfl (by omega) (H_b4.out.size) ?_)
  intro A5 c5 w5 o5 g5
  have c5' : Below w3.heap.size w3 w5 := H_o4.out.grow H_b4.out g5
  have bb5 := H_bb3.out.trans (c5'.mono H_bb3.out.size)
  have pc5 := H_p3c.out.below c5'
  have qc5 := H_q3c.out.below c5'
  have k5 := o5.cards H_hlmf.out
  have H_o5 := Lib.hid o5; clear o5; have H_g5 := Lib.hid g5; clear g5; have H_c5' := Lib.hid c5'; clear c5'; have H_bb5 := Lib.hid bb5; clear bb5; have H_pc5 := Lib.hid pc5; clear pc5; have H_qc5 := Lib.hid qc5; clear qc5; have H_k5 := Lib.hid k5; clear k5
  go_wp2_with fail
  (with_reducible refine (H_q4.out _ _ _ ?_).mono ?_)
  · exact H_k5.out
  rintro e w6 ⟨A6, p6, rfl, o6, b6⟩
  have c6 : Below w5.heap.size w5 w6 := Below.trans (by (repeat (first | with_reducible exact Below.refl _ _ | with_reducible exact Nat.le_refl _ | with_reducible assumption | with_reducible refine Below.drew ?_ | with_reducible refine below_drewN ?_ _ | with_reducible refine Below.alloc ?_ ?_ _ | with_reducible refine Below.setCell ?_ ?_ _ | with_reducible exact And.right (by assumption) | with_reducible refine Below.trans ?_ (Below.mono (by assumption) ?_) | with_reducible exact Below.size (And.right (by assumption)) | (focus omega) | (focus (simp; done)) | (focus (simp; omega)) | (focus (simp at *; omega))))) (b6.mono (by first | exact Nat.le_refl _ | omega | (simp; done) | (simp; omega)))
  have s6 := c6.size
  have bb6 := H_bb5.out.trans (c6.mono H_bb5.out.size)
  have pc6 := H_pc5.out.below c6
  have qc6 := H_qc5.out.below c6
  have H_b6 := Lib.hid b6; clear b6; have H_c6 := Lib.hid c6; clear c6; have H_bb6 := Lib.hid bb6; clear bb6; have H_pc6 := Lib.hid pc6; clear pc6; have H_qc6 := Lib.hid qc6; clear qc6
  have rc6 := o6.cards H_hrf.out
  have H_o6 := Lib.hid o6; clear o6; have H_rc6 := Lib.hid rc6; clear rc6
  by_cases hef : E = 0 ∧ F = 0
  rotate_left
  · have hG : G = 1 := by
      rcases H_g01.out with h | h
      · exact absurd (H_hEE.out.1 h) hef
      · exact h
    subst hG
    rcases H_e01.out with rfl | rfl
    · have hF : F = 1 := by
        rcases H_f01.out with h | h
        · exact absurd ⟨rfl, h⟩ hef
        · exact h
      subst hF
      have H_hef := Lib.hid hef; clear hef
      go_wp2_with fail
      go_ret
      exact ⟨rfl, H_bb6.out⟩
    · have H_hef := Lib.hid hef; clear hef
      go_wp2_with fail
      go_ret
      exact ⟨rfl, H_bb6.out⟩
  obtain ⟨rfl, rfl⟩ := hef
  have hG : G = 0 := H_hEE.out.2 ⟨rfl, rfl⟩
  subst hG
  have hr := H_hrR.out rfl
  rw [H_happ.out, ← H_hpR.out rfl, ← H_hqR.out rfl] at hr
  have H_hr := Lib.hid hr; clear hr
  go_wp2_with (at_builtin; refine wp_app_c _ rfl (.tmp 58) (.tmp 59) rfl w6.heap.size (some ⟨w6.heap.size, 0, none⟩) 0 0 [] rfl rfl (ownC_nil (Nat.le_refl _) rfl) A2 p2 P p H_hP.out rfl (H_pc6.out.below ((Below.refl _ _).alloc (Nat.le_refl _) _)) P (by omega) (by omega) (by simp) ?_)
  intro A7 c7 w7 o7 g7
  have b7 : Below w6.heap.size w6 w7 := (ownC_nil (w := w6) (Nat.le_refl _) rfl).grow ((Below.refl _ _).alloc (Nat.le_refl _) _) g7
  have qc7 := H_qc6.out.below b7
  have H_o7 := Lib.hid o7; clear o7; have H_g7 := Lib.hid g7; clear g7; have H_b7 := Lib.hid b7; clear b7; have H_qc7 := Lib.hid qc7; clear qc7
  go_wp2_with (at_builtin; refine wp_app_c _ rfl (.tmp 60) (.tmp 61) rfl w6.heap.size A7 c7 P p H_hP.out rfl H_o7.out A3 p3 Q q H_hQ.out rfl H_qc7.out (P + Q) rfl (by omega) (H_b7.out.size) ?_)
  intro A8 c8 w8 o8 g8
  have c8' : Below w6.heap.size w6 w8 := H_o7.out.grow H_b7.out g8
  have bb8 := H_bb6.out.trans (c8'.mono H_bb6.out.size)
  have pc8 := H_pc6.out.below c8'
  have qc8 := H_qc6.out.below c8'
  have rc8 := H_rc6.out.below c8'
  have wc8 := o8.cards (fun c hc => by
    rcases List.mem_append.1 hc with h | h
    · exact H_hpf.out c h
    · exact H_hqf.out c h)
  have same := fun W (X Y : Option Addr) (a b k k2 : Nat) (u v : List Crd) (hu : u.length = a) (hv : v.length = b) (ha : a ≤ 1000) (hb : b ≤ 1000) (h1 : Cards W X u) (h2 : Cards W Y v) (he : u = v) => rcsame_any X Y a b k k2 u v hu hv (by omega) (by omega) W h1 h2
  have H_o8 := Lib.hid o8; clear o8; have H_g8 := Lib.hid g8; clear g8; have H_c8' := Lib.hid c8'; clear c8'; have H_bb8 := Lib.hid bb8; clear bb8; have H_same := Lib.hid same; clear same
  have hPQ : R = (wantL p q).length := by rw [← H_hR.out, H_hr.out]
  have fin : ∀ (W : World) (Y : Option Addr) (b k2 : Nat) (v : List Crd), Below w8.heap.size w8 W → v.length = b → b ≤ 1000 → Cards W Y v → wantL p q = v → Calls Tryd.prog 16 #[.slice A6 R p6, .slice Y b k2] W fun e w' => e = .returned (.bool true) ∧ Below W.heap.size W w' := fun W Y b k2 v hW hv hb h2 he => by
    have h1 := rc8.below hW
    have := rcsame_any A6 Y R b p6 k2 r v H_hR.out hv (by omega) (by omega) W h1 h2
    rw [csB_iff.2 (by rw [H_hr.out, he])] at this
    exact this
  have H_rc8 := Lib.hid rc8; clear rc8; have H_hPQ := Lib.hid hPQ; clear hPQ; have H_fin := Lib.hid fin; clear fin
  cases p with
  | nil =>
    have hP0 : P = 0 := by rw [← H_hP.out]; rfl
    have dP : decide ((0 : Int) < (P : Int)) = false := decide_eq_false (by omega)
    have dPn : decide (0 < P) = false := decide_eq_false (by omega)
    have nP : ¬ (0 : Int) < (P : Int) := by omega
    have w1 : wantL [] q = [] ++ q := by cases q <;> rfl
    have H_hP0 := Lib.hid hP0; clear hP0; have H_w1 := Lib.hid w1; clear w1; have H_pc8 := Lib.hid pc8; clear pc8; have H_qc8 := Lib.hid qc8; clear qc8; have H_wc8 := Lib.hid wc8; clear wc8
    go_wp2_with fail
    go_quiet (fail)
    go_wp2_with fail
    go_quiet (fail)
    go_wp2_with fail
    refine (H_fin.out _ A8 (P + Q) c8 _ (by (repeat (first | with_reducible exact Below.refl _ _ | with_reducible exact Nat.le_refl _ | with_reducible assumption | with_reducible refine Below.drew ?_ | with_reducible refine below_drewN ?_ _ | with_reducible refine Below.alloc ?_ ?_ _ | with_reducible refine Below.setCell ?_ ?_ _ | with_reducible exact And.right (by assumption) | with_reducible refine Below.trans ?_ (Below.mono (by assumption) ?_) | with_reducible exact Below.size (And.right (by assumption)) | (focus omega) | (focus (simp; done)) | (focus (simp; omega)) | (focus (simp at *; omega))))) (by rw [List.length_append, H_hQ.out, H_hP0.out]; rfl) (by omega) (H_wc8.out.below (by (repeat (first | with_reducible exact Below.refl _ _ | with_reducible exact Nat.le_refl _ | with_reducible assumption | with_reducible refine Below.drew ?_ | with_reducible refine below_drewN ?_ _ | with_reducible refine Below.alloc ?_ ?_ _ | with_reducible refine Below.setCell ?_ ?_ _ | with_reducible exact And.right (by assumption) | with_reducible refine Below.trans ?_ (Below.mono (by assumption) ?_) | with_reducible exact Below.size (And.right (by assumption)) | (focus omega) | (focus (simp; done)) | (focus (simp; omega)) | (focus (simp at *; omega)))))) H_w1.out).mono ?_
    rintro e w9 ⟨rfl, b9⟩
    have bF := H_bb8.out.trans ((Below.trans (by (repeat (first | with_reducible exact Below.refl _ _ | with_reducible exact Nat.le_refl _ | with_reducible assumption | with_reducible refine Below.drew ?_ | with_reducible refine below_drewN ?_ _ | with_reducible refine Below.alloc ?_ ?_ _ | with_reducible refine Below.setCell ?_ ?_ _ | with_reducible exact And.right (by assumption) | with_reducible refine Below.trans ?_ (Below.mono (by assumption) ?_) | with_reducible exact Below.size (And.right (by assumption)) | (focus omega) | (focus (simp; done)) | (focus (simp; omega)) | (focus (simp at *; omega)))) : Below w8.heap.size w8 _) (b9.mono (by simp))).mono H_bb8.out.size)
    have H_b9 := Lib.hid b9; clear b9; have H_bF := Lib.hid bF; clear bF
    go_wp2_with fail
    go_ret
    exact ⟨rfl, H_bF.out⟩
  | cons o r1 =>
    have hP0 : 0 < P := by rw [← H_hP.out, List.length_cons]; omega
    have dP : decide ((0 : Int) < (P : Int)) = true := decide_eq_true (by omega)
    have gP : (0 : Int) < (P : Int) := by omega
    obtain ⟨g, goff, rfl, hgl, _, _, _, _, y3, _⟩ := pc8.at (i := 0) (c := o) rfl
    rw [Nat.zero_mul, Nat.add_zero] at y3
    cases q with
    | nil =>
      have hQ0 : Q = 0 := by rw [← H_hQ.out]; rfl
      have dQ : decide ((0 : Int) < (Q : Int)) = false := decide_eq_false (by omega)
      have dQn : decide (0 < Q) = false := decide_eq_false (by omega)
      have nQ : ¬ (0 : Int) < (Q : Int) := by omega
      have w1 : wantL (o :: r1) [] = (o :: r1) ++ [] := rfl
      have H_hQ0 := Lib.hid hQ0; clear hQ0; have H_w1 := Lib.hid w1; clear w1; have H_pc8 := Lib.hid pc8; clear pc8; have H_qc8 := Lib.hid qc8; clear qc8; have H_wc8 := Lib.hid wc8; clear wc8
      go_wp2_with fail
      go_quiet (fail)
      go_wp2_with fail
      go_quiet (fail)
      go_wp2_with fail
      refine (H_fin.out _ A8 (P + Q) c8 _ (by (repeat (first | with_reducible exact Below.refl _ _ | with_reducible exact Nat.le_refl _ | with_reducible assumption | with_reducible refine Below.drew ?_ | with_reducible refine below_drewN ?_ _ | with_reducible refine Below.alloc ?_ ?_ _ | with_reducible refine Below.setCell ?_ ?_ _ | with_reducible exact And.right (by assumption) | with_reducible refine Below.trans ?_ (Below.mono (by assumption) ?_) | with_reducible exact Below.size (And.right (by assumption)) | (focus omega) | (focus (simp; done)) | (focus (simp; omega)) | (focus (simp at *; omega))))) (by rw [List.length_append, H_hP.out, H_hQ0.out]; rfl) (by omega) (H_wc8.out.below (by (repeat (first | with_reducible exact Below.refl _ _ | with_reducible exact Nat.le_refl _ | with_reducible assumption | with_reducible refine Below.drew ?_ | with_reducible refine below_drewN ?_ _ | with_reducible refine Below.alloc ?_ ?_ _ | with_reducible refine Below.setCell ?_ ?_ _ | with_reducible exact And.right (by assumption) | with_reducible refine Below.trans ?_ (Below.mono (by assumption) ?_) | with_reducible exact Below.size (And.right (by assumption)) | (focus omega) | (focus (simp; done)) | (focus (simp; omega)) | (focus (simp at *; omega)))))) H_w1.out).mono ?_
      rintro e w9 ⟨rfl, b9⟩
      have bF := H_bb8.out.trans ((Below.trans (by (repeat (first | with_reducible exact Below.refl _ _ | with_reducible exact Nat.le_refl _ | with_reducible assumption | with_reducible refine Below.drew ?_ | with_reducible refine below_drewN ?_ _ | with_reducible refine Below.alloc ?_ ?_ _ | with_reducible refine Below.setCell ?_ ?_ _ | with_reducible exact And.right (by assumption) | with_reducible refine Below.trans ?_ (Below.mono (by assumption) ?_) | with_reducible exact Below.size (And.right (by assumption)) | (focus omega) | (focus (simp; done)) | (focus (simp; omega)) | (focus (simp at *; omega)))) : Below w8.heap.size w8 _) (b9.mono (by simp))).mono H_bb8.out.size)
      have H_b9 := Lib.hid b9; clear b9; have H_bF := Lib.hid bF; clear bF
      go_wp2_with fail
      go_ret
      exact ⟨rfl, H_bF.out⟩
    | cons o' r2 =>
      have hQ0 : 0 < Q := by rw [← H_hQ.out, List.length_cons]; omega
      have dQ : decide ((0 : Int) < (Q : Int)) = true := decide_eq_true (by omega)
      have gQ : (0 : Int) < (Q : Int) := by omega
      obtain ⟨g', goff', rfl, hgl', _, _, _, _, z3, _⟩ := qc8.at (i := 0) (c := o') rfl
      rw [Nat.zero_mul, Nat.add_zero] at z3
      by_cases h1 : o'.n < o.n
      · have dl : decide (o'.n < o.n) = true := decide_eq_true h1
        have dl2 : decide (o.n < o'.n) = false := decide_eq_false (by omega)
        have w1 : wantL (o :: r1) (o' :: r2) = o :: r1 := by unfold wantL; simp only; rw [if_pos h1]
        have H_w1 := Lib.hid w1; clear w1; have H_pc8 := Lib.hid pc8; clear pc8; have H_qc8 := Lib.hid qc8; clear qc8; have H_wc8 := Lib.hid wc8; clear wc8
        go_wp2_with fail
        go_quiet (fail)
        go_wp2_with fail
        go_quiet (fail)
        go_wp2_with fail
        refine (H_fin.out _ _ P p2 _ (by (repeat (first | with_reducible exact Below.refl _ _ | with_reducible exact Nat.le_refl _ | with_reducible assumption | with_reducible refine Below.drew ?_ | with_reducible refine below_drewN ?_ _ | with_reducible refine Below.alloc ?_ ?_ _ | with_reducible refine Below.setCell ?_ ?_ _ | with_reducible exact And.right (by assumption) | with_reducible refine Below.trans ?_ (Below.mono (by assumption) ?_) | with_reducible exact Below.size (And.right (by assumption)) | (focus omega) | (focus (simp; done)) | (focus (simp; omega)) | (focus (simp at *; omega))))) H_hP.out (by omega) (H_pc8.out.below (by (repeat (first | with_reducible exact Below.refl _ _ | with_reducible exact Nat.le_refl _ | with_reducible assumption | with_reducible refine Below.drew ?_ | with_reducible refine below_drewN ?_ _ | with_reducible refine Below.alloc ?_ ?_ _ | with_reducible refine Below.setCell ?_ ?_ _ | with_reducible exact And.right (by assumption) | with_reducible refine Below.trans ?_ (Below.mono (by assumption) ?_) | with_reducible exact Below.size (And.right (by assumption)) | (focus omega) | (focus (simp; done)) | (focus (simp; omega)) | (focus (simp at *; omega)))))) H_w1.out).mono ?_
        rintro e w9 ⟨rfl, b9⟩
        have bF := H_bb8.out.trans ((Below.trans (by (repeat (first | with_reducible exact Below.refl _ _ | with_reducible exact Nat.le_refl _ | with_reducible assumption | with_reducible refine Below.drew ?_ | with_reducible refine below_drewN ?_ _ | with_reducible refine Below.alloc ?_ ?_ _ | with_reducible refine Below.setCell ?_ ?_ _ | with_reducible exact And.right (by assumption) | with_reducible refine Below.trans ?_ (Below.mono (by assumption) ?_) | with_reducible exact Below.size (And.right (by assumption)) | (focus omega) | (focus (simp; done)) | (focus (simp; omega)) | (focus (simp at *; omega)))) : Below w8.heap.size w8 _) (b9.mono (by simp))).mono H_bb8.out.size)
        have H_b9 := Lib.hid b9; clear b9; have H_bF := Lib.hid bF; clear bF
        go_wp2_with fail
        go_ret
        exact ⟨rfl, H_bF.out⟩
      · have dl : decide (o'.n < o.n) = false := decide_eq_false h1
        by_cases h2 : o.n < o'.n
        · have dl2 : decide (o.n < o'.n) = true := decide_eq_true h2
          have w1 : wantL (o :: r1) (o' :: r2) = o' :: r2 := by unfold wantL; simp only; rw [if_neg h1, if_pos h2]
          have H_w1 := Lib.hid w1; clear w1; have H_pc8 := Lib.hid pc8; clear pc8; have H_qc8 := Lib.hid qc8; clear qc8; have H_wc8 := Lib.hid wc8; clear wc8
          go_wp2_with fail
          go_quiet (fail)
          go_wp2_with fail
          go_quiet (fail)
          go_wp2_with fail
          refine (H_fin.out _ _ Q p3 _ (by (repeat (first | with_reducible exact Below.refl _ _ | with_reducible exact Nat.le_refl _ | with_reducible assumption | with_reducible refine Below.drew ?_ | with_reducible refine below_drewN ?_ _ | with_reducible refine Below.alloc ?_ ?_ _ | with_reducible refine Below.setCell ?_ ?_ _ | with_reducible exact And.right (by assumption) | with_reducible refine Below.trans ?_ (Below.mono (by assumption) ?_) | with_reducible exact Below.size (And.right (by assumption)) | (focus omega) | (focus (simp; done)) | (focus (simp; omega)) | (focus (simp at *; omega))))) H_hQ.out (by omega) (H_qc8.out.below (by (repeat (first | with_reducible exact Below.refl _ _ | with_reducible exact Nat.le_refl _ | with_reducible assumption | with_reducible refine Below.drew ?_ | with_reducible refine below_drewN ?_ _ | with_reducible refine Below.alloc ?_ ?_ _ | with_reducible refine Below.setCell ?_ ?_ _ | with_reducible exact And.right (by assumption) | with_reducible refine Below.trans ?_ (Below.mono (by assumption) ?_) | with_reducible exact Below.size (And.right (by assumption)) | (focus omega) | (focus (simp; done)) | (focus (simp; omega)) | (focus (simp at *; omega)))))) H_w1.out).mono ?_
          rintro e w9 ⟨rfl, b9⟩
          have bF := H_bb8.out.trans ((Below.trans (by (repeat (first | with_reducible exact Below.refl _ _ | with_reducible exact Nat.le_refl _ | with_reducible assumption | with_reducible refine Below.drew ?_ | with_reducible refine below_drewN ?_ _ | with_reducible refine Below.alloc ?_ ?_ _ | with_reducible refine Below.setCell ?_ ?_ _ | with_reducible exact And.right (by assumption) | with_reducible refine Below.trans ?_ (Below.mono (by assumption) ?_) | with_reducible exact Below.size (And.right (by assumption)) | (focus omega) | (focus (simp; done)) | (focus (simp; omega)) | (focus (simp at *; omega)))) : Below w8.heap.size w8 _) (b9.mono (by simp))).mono H_bb8.out.size)
          have H_b9 := Lib.hid b9; clear b9; have H_bF := Lib.hid bF; clear bF
          go_wp2_with fail
          go_ret
          exact ⟨rfl, H_bF.out⟩
        · have dl2 : decide (o.n < o'.n) = false := decide_eq_false h2
          have w1 : wantL (o :: r1) (o' :: r2) = (o :: r1) ++ (o' :: r2) := by unfold wantL; simp only; rw [if_neg h1, if_neg h2]
          have H_w1 := Lib.hid w1; clear w1; have H_pc8 := Lib.hid pc8; clear pc8; have H_qc8 := Lib.hid qc8; clear qc8; have H_wc8 := Lib.hid wc8; clear wc8
          go_wp2_with fail
          go_quiet (fail)
          go_wp2_with fail
          go_quiet (fail)
          go_wp2_with fail
          refine (H_fin.out _ A8 (P + Q) c8 _ (by (repeat (first | with_reducible exact Below.refl _ _ | with_reducible exact Nat.le_refl _ | with_reducible assumption | with_reducible refine Below.drew ?_ | with_reducible refine below_drewN ?_ _ | with_reducible refine Below.alloc ?_ ?_ _ | with_reducible refine Below.setCell ?_ ?_ _ | with_reducible exact And.right (by assumption) | with_reducible refine Below.trans ?_ (Below.mono (by assumption) ?_) | with_reducible exact Below.size (And.right (by assumption)) | (focus omega) | (focus (simp; done)) | (focus (simp; omega)) | (focus (simp at *; omega))))) (by rw [List.length_append, H_hP.out, H_hQ.out]) (by omega) (H_wc8.out.below (by (repeat (first | with_reducible exact Below.refl _ _ | with_reducible exact Nat.le_refl _ | with_reducible assumption | with_reducible refine Below.drew ?_ | with_reducible refine below_drewN ?_ _ | with_reducible refine Below.alloc ?_ ?_ _ | with_reducible refine Below.setCell ?_ ?_ _ | with_reducible exact And.right (by assumption) | with_reducible refine Below.trans ?_ (Below.mono (by assumption) ?_) | with_reducible exact Below.size (And.right (by assumption)) | (focus omega) | (focus (simp; done)) | (focus (simp; omega)) | (focus (simp at *; omega)))))) H_w1.out).mono ?_
          rintro e w9 ⟨rfl, b9⟩
          have bF := H_bb8.out.trans ((Below.trans (by (repeat (first | with_reducible exact Below.refl _ _ | with_reducible exact Nat.le_refl _ | with_reducible assumption | with_reducible refine Below.drew ?_ | with_reducible refine below_drewN ?_ _ | with_reducible refine Below.alloc ?_ ?_ _ | with_reducible refine Below.setCell ?_ ?_ _ | with_reducible exact And.right (by assumption) | with_reducible refine Below.trans ?_ (Below.mono (by assumption) ?_) | with_reducible exact Below.size (And.right (by assumption)) | (focus omega) | (focus (simp; done)) | (focus (simp; omega)) | (focus (simp at *; omega)))) : Below w8.heap.size w8 _) (b9.mono (by simp))).mono H_bb8.out.size)
          have H_b9 := Lib.hid b9; clear b9; have H_bF := Lib.hid bF; clear bF
          go_wp2_with fail
          go_ret
          exact ⟨rfl, H_bF.out⟩
end Go.Proofs.YtoehobaigfmnpaaDoor

/- The walk of CardNewest. -/
import Derived.Test.YtoehobaigfmnpaaDoorCaH
namespace Go.Proofs.YtoehobaigfmnpaaDoor
set_option linter.unusedSimpArgs false
set_option linter.unusedVariables false
set_option maxRecDepth 100000
open Go.RowKit Go.Maps

theorem filt_hit {f : Crd → Bool} {l : List Crd} {k : Nat} {c : Crd} (h : l[k]? = some c) (hf : f c = true) : (l.filter f)[((l.take k).filter f).length]? = some c ∧ ((l.take (k + 1)).filter f).length = ((l.take k).filter f).length + 1 := by
  obtain ⟨hk, e⟩ := List.getElem?_eq_some_iff.1 h
  have h1 : l = l.take k ++ c :: l.drop (k + 1) := by
    rw [← e, ← List.drop_eq_getElem_cons hk, List.take_append_drop]
  refine ⟨?_, by rw [take_next h, List.filter_append, List.filter_cons, if_pos hf]; simp⟩
  have h2 : l.filter f = (l.take k).filter f ++ c :: (l.drop (k + 1)).filter f := by
    conv => lhs; rw [h1]
    rw [List.filter_append, List.filter_cons, if_pos hf]
  rw [h2, List.getElem?_append_right (Nat.le_refl _)]; simp
theorem filt_miss {f : Crd → Bool} {l : List Crd} {k : Nat} {c : Crd} (h : l[k]? = some c) (hf : f c = false) : ((l.take (k + 1)).filter f).length = ((l.take k).filter f).length := by
  rw [take_next h, List.filter_append, List.filter_cons, if_neg (by simp [hf])]; simp
theorem newL_one (door : Int) (l : List Crd) : ∃ m, newL door l = l.filter (mtB door m) ∧ ∀ c ∈ l, ofB door c = true → c.n ≤ m ∧ ∃ o r, newL door l = o :: r ∧ o.n = m := by
  rcases newL_is door l with ⟨h1, h2⟩ | ⟨m, h1, h2, h3⟩
  · refine ⟨0, ?_, fun c hc ho => by rw [h2 c hc] at ho; cases ho⟩
    rw [h1, filt_none (fun c hc ho => by rw [h2 c hc] at ho; cases ho)]
  · refine ⟨m, h1, fun c hc ho => ⟨h3 c hc ho, ?_⟩⟩
    cases hp : newL door l with
    | nil => exact absurd hp h2
    | cons o r => exact ⟨o, r, rfl, head_filter (by rw [← h1]; exact hp)⟩
set_option maxHeartbeats 8000000 in
theorem cardNewest_walk (A : Option Addr) (cp : Nat) (l : List Crd) (door : Int) (w0 : World) (hl : Cards w0 A l) (hlc : l.length ≤ cp) (hcm : cp ≤ maxLen) (hd : (Lit.int .i64 door).wf = true) (ht : Tab w0) :
    Calls Tryd.prog 3 #[.slice A l.length cp, .int .i64 door] w0 fun e w' => e = .returned (.bool true) ∧ Below w0.heap.size w0 w' := by
  unfold maxLen at hcm
  have bb0 := Below.refl w0.heap.size w0
  have t0 := ht
  have l0 := hl
  have q1 := head35_any w0 ht
  have hlf := hl.fit
  generalize hN : l.length = N at *
  have H_hl := Lib.hid hl; clear hl; have H_ht := Lib.hid ht; clear ht; have H_bb0 := Lib.hid bb0; clear bb0; have H_t0 := Lib.hid t0; clear t0; have H_l0 := Lib.hid l0; clear l0; have H_q1 := Lib.hid q1; clear q1; have H_hN := Lib.hid hN; clear hN; have H_hd := Lib.hid hd; clear hd; have H_hlf := Lib.hid hlf; clear hlf
  go_enter Tryd.func3, Tryd.ntmps3
  go_wp2_with fail
  (with_reducible refine (H_q1.out).mono ?_)
  rintro e w1 ⟨rfl, b1⟩
  have c1 : Below w0.heap.size w0 w1 := Below.trans (by (repeat (first | with_reducible exact Below.refl _ _ | with_reducible exact Nat.le_refl _ | with_reducible assumption | with_reducible refine Below.drew ?_ | with_reducible refine below_drewN ?_ _ | with_reducible refine Below.alloc ?_ ?_ _ | with_reducible refine Below.setCell ?_ ?_ _ | with_reducible exact And.right (by assumption) | with_reducible refine Below.trans ?_ (Below.mono (by assumption) ?_) | with_reducible exact Below.size (And.right (by assumption)) | (focus omega) | (focus (simp; done)) | (focus (simp; omega)) | (focus (simp at *; omega))))) (b1.mono (by first | exact Nat.le_refl _ | omega | (simp; done) | (simp; omega)))
  have s1 := c1.size
  have bb1 := H_bb0.out.trans (c1.mono H_bb0.out.size)
  have t1 := H_t0.out.below c1
  have l1 := H_l0.out.below c1
  have H_b1 := Lib.hid b1; clear b1; have H_c1 := Lib.hid c1; clear c1; have H_bb1 := Lib.hid bb1; clear bb1; have H_t1 := Lib.hid t1; clear t1; have H_l1 := Lib.hid l1; clear l1
  by_cases n60 : N ≤ 60
  rotate_left
  · have d1 : ¬ ((N : Int) ≤ 60) := by omega
    have d2 : (60 : Int) < (N : Int) := by omega
    go_wp2_with fail
    go_ret
    exact ⟨rfl, H_bb1.out⟩
  have d1 : ¬ ((60 : Int) < (N : Int)) := by omega
  have d2 : decide ((60 : Int) < (N : Int)) = false := decide_eq_false d1
  rcases newE_01 door l with hE | hE
  rotate_left
  · have q2 := fun W (h : Cards W A l) => cnewest_no A cp N l H_hN.out (by omega) door W h hE
    unfold CardsErr at q2
    simp only [List.length_nil] at q2
    have H_q2 := Lib.hid q2; clear q2; have H_hE := Lib.hid hE; clear hE
    go_wp2_with fail
    (with_reducible refine (H_q2.out _ ?_).mono ?_)
    · exact H_l1.out.below (show Below w1.heap.size w1 _ by (repeat (first | with_reducible exact Below.refl _ _ | with_reducible exact Nat.le_refl _ | with_reducible assumption | with_reducible refine Below.drew ?_ | with_reducible refine below_drewN ?_ _ | with_reducible refine Below.alloc ?_ ?_ _ | with_reducible refine Below.setCell ?_ ?_ _ | with_reducible exact And.right (by assumption) | with_reducible refine Below.trans ?_ (Below.mono (by assumption) ?_) | with_reducible exact Below.size (And.right (by assumption)) | (focus omega) | (focus (simp; done)) | (focus (simp; omega)) | (focus (simp at *; omega)))))
    rintro e w2 ⟨A2, p2, rfl, _, b2⟩
    have c2 : Below w1.heap.size w1 w2 := Below.trans (by (repeat (first | with_reducible exact Below.refl _ _ | with_reducible exact Nat.le_refl _ | with_reducible assumption | with_reducible refine Below.drew ?_ | with_reducible refine below_drewN ?_ _ | with_reducible refine Below.alloc ?_ ?_ _ | with_reducible refine Below.setCell ?_ ?_ _ | with_reducible exact And.right (by assumption) | with_reducible refine Below.trans ?_ (Below.mono (by assumption) ?_) | with_reducible exact Below.size (And.right (by assumption)) | (focus omega) | (focus (simp; done)) | (focus (simp; omega)) | (focus (simp at *; omega))))) (b2.mono (by first | exact Nat.le_refl _ | omega | (simp; done) | (simp; omega)))
    have s2 := c2.size
    have bb2 := H_bb1.out.trans (c2.mono H_bb1.out.size)
    have H_b2 := Lib.hid b2; clear b2; have H_c2 := Lib.hid c2; clear c2; have H_bb2 := Lib.hid bb2; clear bb2
    go_wp2_with fail
    go_ret
    exact ⟨rfl, H_bb2.out⟩
  have q2 := fun W (h : Cards W A l) => cnewest_ok A cp N l H_hN.out door W h hE
  obtain ⟨m, hpf, hmax⟩ := newL_one door l
  have hfp := newL_fit (door := door) H_hlf.out N
  rw [List.take_of_length_le (by rw [H_hN.out]; exact Nat.le_refl _)] at hfp
  have hpl := newL_len door l
  unfold CardsErr at q2
  generalize newL door l = p at *
  generalize hM : p.length = M at *
  rw [H_hN.out] at hpl
  have H_q2 := Lib.hid q2; clear q2; have H_hE := Lib.hid hE; clear hE; have H_hpf := Lib.hid hpf; clear hpf; have H_hmax := Lib.hid hmax; clear hmax; have H_hfp := Lib.hid hfp; clear hfp; have H_hM := Lib.hid hM; clear hM
  go_wp2_with fail
  (with_reducible refine (H_q2.out _ ?_).mono ?_)
  · exact H_l1.out.below (show Below w1.heap.size w1 _ by (repeat (first | with_reducible exact Below.refl _ _ | with_reducible exact Nat.le_refl _ | with_reducible assumption | with_reducible refine Below.drew ?_ | with_reducible refine below_drewN ?_ _ | with_reducible refine Below.alloc ?_ ?_ _ | with_reducible refine Below.setCell ?_ ?_ _ | with_reducible exact And.right (by assumption) | with_reducible refine Below.trans ?_ (Below.mono (by assumption) ?_) | with_reducible exact Below.size (And.right (by assumption)) | (focus omega) | (focus (simp; done)) | (focus (simp; omega)) | (focus (simp at *; omega)))))
  rintro e w2 ⟨A2, p2, rfl, o2, b2⟩
  have c2 : Below w1.heap.size w1 w2 := Below.trans (by (repeat (first | with_reducible exact Below.refl _ _ | with_reducible exact Nat.le_refl _ | with_reducible assumption | with_reducible refine Below.drew ?_ | with_reducible refine below_drewN ?_ _ | with_reducible refine Below.alloc ?_ ?_ _ | with_reducible refine Below.setCell ?_ ?_ _ | with_reducible exact And.right (by assumption) | with_reducible refine Below.trans ?_ (Below.mono (by assumption) ?_) | with_reducible exact Below.size (And.right (by assumption)) | (focus omega) | (focus (simp; done)) | (focus (simp; omega)) | (focus (simp at *; omega))))) (b2.mono (by first | exact Nat.le_refl _ | omega | (simp; done) | (simp; omega)))
  have s2 := c2.size
  have bb2 := H_bb1.out.trans (c2.mono H_bb1.out.size)
  have l2 := H_l1.out.below c2
  have H_b2 := Lib.hid b2; clear b2; have H_c2 := Lib.hid c2; clear c2; have H_bb2 := Lib.hid bb2; clear bb2; have H_l2 := Lib.hid l2; clear l2
  have p2c := o2.cards H_hfp.out
  have H_o2 := Lib.hid o2; clear o2; have H_p2c := Lib.hid p2c; clear p2c
  go_wp2_with fail
  go_loopw [8, 9] (fun v i wr => ∃ (k : Nat), k ≤ N ∧ i = .int .i64 k ∧ v = .int .i64 ((l.take k).filter (mtB door m)).length ∧ Below w2.heap.size w2 wr) (fun _ i _ => N - (intOf i).toNat)
  case atStart => exact ⟨0, by omega, rfl, rfl, Below.refl _ _⟩
  case round =>
    obtain ⟨k, hk, rfl, rfl, hbw⟩ := hrel
    have hsz := hbw.size
    have hcl : ((l.take k).filter (mtB door m)).length ≤ M := by
      rw [← H_hM.out, H_hpf.out]; exact ((List.take_sublist k l).filter _).length_le
    by_cases hlt : k < N
    · obtain ⟨c, hc⟩ : ∃ c, l[k]? = some c := ⟨_, List.getElem?_eq_getElem (by rw [H_hN.out]; exact hlt)⟩
      have lw := H_l2.out.below hbw
      have pw := H_p2c.out.below hbw
      obtain ⟨b, off, rfl, hbl, hf, e0, e1, e2, e3, e4, e5, e6, e7, e8⟩ := lw.at hc
      have q3 := rof_any c door wr
      have eq := fun w => eq_card c c hf hf w
      rw [ceqB_self] at eq
      unfold Crd.cells at q3 eq
      have hit := @filt_hit (mtB door m) l k c hc
      have miss := @filt_miss (mtB door m) l k c hc
      have mx := H_hmax.out c (List.mem_of_getElem? hc)
      have hmt := @mtB_iff door m c
      generalize hK : ((l.take k).filter (mtB door m)).length = K at *
      generalize hK2 : ((l.take (k + 1)).filter (mtB door m)).length = K2 at *
      have g1 : (k : Int) < (N : Int) := by omega
      have g0 : (0 : Int) ≤ (k : Int) := by omega
      cases ho : ofB door c with
      | false =>
        rw [ho] at q3
        have hm0 : mtB door m c = false := by rw [Bool.eq_false_iff]; intro h; have := (hmt.1 h).1; rw [ho] at this; cases this
        have hk2 := miss hm0
        clear hit miss mx hmt
        have H_q3 := Lib.hid q3; clear q3; have H_eq := Lib.hid eq; clear eq; have H_hc := Lib.hid hc; clear hc; have H_hbw := Lib.hid hbw; clear hbw; have H_lw := Lib.hid lw; clear lw; have H_pw := Lib.hid pw; clear pw; have H_ho := Lib.hid ho; clear ho; have H_hm0 := Lib.hid hm0; clear hm0; have H_hk2 := Lib.hid hk2; clear hk2; have H_hK := Lib.hid hK; clear hK; have H_hK2 := Lib.hid hK2; clear hK2; have H_hf := Lib.hid hf; clear hf
        go_wp2_with fail
        refine H_q3.out.mono ?_
        rintro e w3 ⟨rfl, b3⟩
        have bw3 := H_hbw.out.trans (b3.mono H_hbw.out.size)
        clear e0 e1 e2 e3 e4 e5 e6 e7 e8
        have H_b3 := Lib.hid b3; clear b3; have H_bw3 := Lib.hid bw3; clear bw3
        go_wp2_with fail
        go_roundw
        case rel => exact ⟨k + 1, by omega, by go_num, by rw [H_hK2.out, H_hk2.out], H_bw3.out⟩
        case measure => simp [intOf]; omega
      | true =>
        rw [ho] at q3
        obtain ⟨hle, o, r, hpo, hon⟩ := mx ho
        clear mx
        have hM0 : 0 < M := by have := H_hM.out; rw [hpo, List.length_cons] at this; omega
        have dM : ((M : Int) == 0) = false := by rw [beq_eq_false_iff_ne]; omega
        have gM : (0 : Int) < (M : Int) := by omega
        have hpo0 : p[0]? = some o := by rw [hpo]; rfl
        have H_eq := Lib.hid eq; clear eq; have H_hc := Lib.hid hc; clear hc; have H_hbw := Lib.hid hbw; clear hbw; have H_lw := Lib.hid lw; clear lw; have H_pw := Lib.hid pw; clear pw; have H_ho := Lib.hid ho; clear ho; have H_hpo := Lib.hid hpo; clear hpo; have H_hK := Lib.hid hK; clear hK; have H_hK2 := Lib.hid hK2; clear hK2; have H_hf := Lib.hid hf; clear hf; have H_hit := Lib.hid hit; clear hit; have H_miss := Lib.hid miss; clear miss; have H_hmt := Lib.hid hmt; clear hmt; have H_hpo0 := Lib.hid hpo0; clear hpo0
        go_wp2_with fail
        refine q3.mono ?_
        rintro e w3 ⟨rfl, b3⟩
        have bw3 := H_hbw.out.trans (b3.mono H_hbw.out.size)
        clear e0 e1 e2 e3 e4 e5 e6 e7 e8 q3
        obtain ⟨b', off', e', hbl', _, e0, e1, e2, e3, e4, e5, e6, e7, e8⟩ := (H_lw.out.below b3).at H_hc.out
        injection e' with e'
        injection e' with ea eb
        subst ea eb
        obtain ⟨g, goff, rfl, hgl, _, _, _, _, y3, _⟩ := (H_pw.out.below b3).at H_hpo0.out
        rw [Nat.zero_mul, Nat.add_zero] at y3
        have dlt : decide (o.n < c.n) = false := decide_eq_false (by omega)
        by_cases heq : c.n = m
        · have de : (c.n == o.n) = true := by rw [heq, hon]; simp
          have hmt1 : mtB door m c = true := H_hmt.out.2 ⟨H_ho.out, heq⟩
          obtain ⟨hit1, hit2⟩ := H_hit.out hmt1
          rw [← H_hpf.out] at hit1
          have hKM : K < M := by
            have := (List.getElem?_eq_some_iff.1 hit1).1
            rw [H_hM.out] at this; exact this
          obtain ⟨g', goff', ge', hgl', _, z0, z1, z2, z3, z4, z5, z6, z7, z8⟩ := (H_pw.out.below b3).at hit1
          injection ge' with ge'
          injection ge' with ga gb
          subst ga gb
          have gK0 : (0 : Int) ≤ (K : Int) := by omega
          have gK1 : (K : Int) < (M : Int) := by omega
          have dK : decide (M ≤ K) = false := decide_eq_false (by omega)
          have dK2 : decide ((M : Int) ≤ (K : Int)) = false := decide_eq_false (by omega)
          have eq := H_eq.out
          have H_b3 := Lib.hid b3; clear b3; have H_bw3 := Lib.hid bw3; clear bw3; have H_heq := Lib.hid heq; clear heq; have H_hmt1 := Lib.hid hmt1; clear hmt1; have H_hit1 := Lib.hid hit1; clear hit1; have H_hit2 := Lib.hid hit2; clear hit2; have H_hon := Lib.hid hon; clear hon
          go_wp2_with fail
          go_quiet (fail)
          go_wp2_with fail
          go_quiet (fail)
          go_wp2_with fail
          go_quiet (fail)
          go_wp2_with fail
          go_roundw
          case rel => exact ⟨k + 1, by omega, by go_num, by rw [H_hK2.out, H_hit2.out]; go_num, H_bw3.out.trans ((by (repeat (first | with_reducible exact Below.refl _ _ | with_reducible exact Nat.le_refl _ | with_reducible assumption | with_reducible refine Below.drew ?_ | with_reducible refine below_drewN ?_ _ | with_reducible refine Below.alloc ?_ ?_ _ | with_reducible refine Below.setCell ?_ ?_ _ | with_reducible exact And.right (by assumption) | with_reducible refine Below.trans ?_ (Below.mono (by assumption) ?_) | with_reducible exact Below.size (And.right (by assumption)) | (focus omega) | (focus (simp; done)) | (focus (simp; omega)) | (focus (simp at *; omega)))) : Below w3.heap.size w3 _).mono H_bw3.out.size)⟩
          case measure => simp [intOf]; omega
        · have de : (c.n == o.n) = false := by rw [beq_eq_false_iff_ne, hon]; exact heq
          have hmt1 : mtB door m c = false := by rw [Bool.eq_false_iff]; intro h; exact heq (H_hmt.out.1 h).2
          have hk2 := H_miss.out hmt1
          have H_b3 := Lib.hid b3; clear b3; have H_bw3 := Lib.hid bw3; clear bw3; have H_heq := Lib.hid heq; clear heq; have H_hmt1 := Lib.hid hmt1; clear hmt1; have H_hk2 := Lib.hid hk2; clear hk2; have H_hon := Lib.hid hon; clear hon
          go_wp2_with fail
          go_quiet (fail)
          go_wp2_with fail
          go_quiet (fail)
          go_wp2_with fail
          go_roundw
          case rel => exact ⟨k + 1, by omega, by go_num, by rw [H_hK2.out, H_hk2.out], H_bw3.out.trans ((by (repeat (first | with_reducible exact Below.refl _ _ | with_reducible exact Nat.le_refl _ | with_reducible assumption | with_reducible refine Below.drew ?_ | with_reducible refine below_drewN ?_ _ | with_reducible refine Below.alloc ?_ ?_ _ | with_reducible refine Below.setCell ?_ ?_ _ | with_reducible exact And.right (by assumption) | with_reducible refine Below.trans ?_ (Below.mono (by assumption) ?_) | with_reducible exact Below.size (And.right (by assumption)) | (focus omega) | (focus (simp; done)) | (focus (simp; omega)) | (focus (simp at *; omega)))) : Below w3.heap.size w3 _).mono H_bw3.out.size)⟩
          case measure => simp [intOf]; omega
    · have g1 : ¬ (k : Int) < (N : Int) := by omega
      have hall : l.take k = l := List.take_of_length_le (by rw [H_hN.out]; omega)
      have hKM : ((l.take k).filter (mtB door m)).length = M := by rw [hall, ← H_hpf.out, H_hM.out]
      rw [hKM]
      have H_hbw := Lib.hid hbw; clear hbw; have H_hall := Lib.hid hall; clear hall; have H_hKM := Lib.hid hKM; clear hKM
      go_wp2_with fail
      go_ret
      exact ⟨ret_bool (by simp), H_bb2.out.trans (H_hbw.out.mono H_bb2.out.size)⟩
end Go.Proofs.YtoehobaigfmnpaaDoor

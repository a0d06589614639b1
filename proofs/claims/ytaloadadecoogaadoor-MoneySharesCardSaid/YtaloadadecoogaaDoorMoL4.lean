/- The walk of MoneyShares. -/
import Derived.Test.YtaloadadecoogaaDoorMnY
import Derived.Test.YtaloadadecoogaaDoorOpnM
namespace Go.Proofs.YtaloadadecoogaaDoor
set_option linter.unusedSimpArgs false
set_option linter.unusedVariables false
set_option maxRecDepth 100000
open Go.RowKit Go.Maps

theorem wf_4 {n : Int} (h : (Lit.int .i64 n).wf = true) : -9223372036854775808 ≤ n ∧ n ≤ 9223372036854775807 := wf_i64 h
theorem shL_sum {c : Int} {l : List Int} (hc : amtB c = true) (hw : wtsB l = true) (k : Nat) : -1000000000000000000 ≤ sumL ((shL c (sumL l) 0 l).take k) ∧ sumL ((shL c (sumL l) 0 l).take k) ≤ 1000000000000000000 := by
  obtain ⟨hall, hlen, hpos⟩ := wts_iff.1 hw
  obtain ⟨sn, su, _⟩ := sum_le l hall
  have hca := amtB_iff.1 hc
  have t1 := sum_take_le l hall k
  rw [shL_take, sum_shL, Int.zero_add, Int.mul_zero, Int.zero_ediv, Int.sub_zero]
  have m1 := mul_in hca (S := sumL (l.take k)) (by omega)
  have a1 := Int.ediv_le_ediv (show 0 < sumL l by omega) m1.1
  have a2 := Int.ediv_le_ediv (show 0 < sumL l by omega) m1.2
  have z1 : (1000000000000000000 : Int) / sumL l ≤ 1000000000000000000 := Int.ediv_le_self _ (by omega)
  have z2 : (-1000000000000000000 : Int) ≤ (-1000000000000000000 : Int) / sumL l := by
    rw [Int.le_ediv_iff_mul_le (by omega)]; omega
  omega
set_option maxRecDepth 100000 in
set_option maxHeartbeats 16000000 in
theorem moneyShares_walk (c : Int) (A : Option Addr) (cp : Nat) (l : List Int) (w : World) (hc0 : (Lit.int .i64 c).wf = true) (hl : IntsAt w A .i64 l) (hlc : l.length ≤ cp) (hcm : cp ≤ maxLen) (_ : ∀ n ∈ l, (Lit.int .i64 n).wf = true) (ht : Tab w) :
    Calls Tryd.prog 6 #[.int .i64 c, .slice A l.length cp] w fun e w' => e = .returned (.bool true) ∧ Below w.heap.size w w' := by
  have hc := wf_4 hc0
  obtain ⟨n, hln⟩ : ∃ n, l.length = n := ⟨_, rfl⟩
  rw [hln] at hlc ⊢
  have hnm : n ≤ 9223372036854775807 := by unfold maxLen at hcm; omega
  have qh := head06_any w ht
  have qa := fun W => ramount_any c W
  have qw := fun W h => rweights_any A cp n l hln hnm W h
  have t0 := ht
  have l0 := hl
  cases ha : amtB c with
  | false =>
    rw [ha] at qa
    have H_qh := Lib.hid qh; clear qh; have H_qa := Lib.hid qa; clear qa; have H_qw := Lib.hid qw; clear qw; have H_ha := Lib.hid ha; clear ha; have H_t0 := Lib.hid t0; clear t0; have H_l0 := Lib.hid l0; clear l0; have H_hln := Lib.hid hln; clear hln; have H_hl := Lib.hid hl; clear hl; have H_ht := Lib.hid ht; clear ht
    go_enter Tryd.func6, Tryd.ntmps6
    go_wp2_with fail
    (with_reducible refine (H_qh.out).mono ?_)
    rintro e w1 ⟨rfl, bb1⟩
    have H_bb1 := Lib.hid bb1; clear bb1
    go_wp2_with fail
    (with_reducible refine (H_qa.out _).mono ?_)
    rintro e w_ ⟨rfl, hw_⟩
    subst hw_
    go_wp2_with fail
    go_ret
    exact ⟨rfl, H_bb1.out⟩
  | true =>
  rw [ha] at qa
  cases hw : wtsB l with
  | false =>
    rw [hw] at qw
    have H_qh := Lib.hid qh; clear qh; have H_qa := Lib.hid qa; clear qa; have H_qw := Lib.hid qw; clear qw; have H_ha := Lib.hid ha; clear ha; have H_hw := Lib.hid hw; clear hw; have H_t0 := Lib.hid t0; clear t0; have H_l0 := Lib.hid l0; clear l0; have H_hln := Lib.hid hln; clear hln; have H_hl := Lib.hid hl; clear hl; have H_ht := Lib.hid ht; clear ht
    go_enter Tryd.func6, Tryd.ntmps6
    go_wp2_with fail
    (with_reducible refine (H_qh.out).mono ?_)
    rintro e w1 ⟨rfl, bb1⟩
    have l1 := H_l0.out.below bb1
    have H_bb1 := Lib.hid bb1; clear bb1; have H_l1 := Lib.hid l1; clear l1
    go_wp2_with fail
    (with_reducible refine (H_qa.out _).mono ?_)
    rintro e w_ ⟨rfl, hw_⟩
    subst hw_
    go_wp2_with fail
    (with_reducible refine (H_qw.out _ H_l1.out).mono ?_)
    rintro e w_ ⟨rfl, hw_⟩
    subst hw_
    go_wp2_with fail
    go_ret
    exact ⟨rfl, H_bb1.out⟩
  | true =>
  rw [hw] at qw
  obtain ⟨hall, hlen, hpos⟩ := wts_iff.1 hw
  obtain ⟨sn, su, _⟩ := sum_le l hall
  rw [hln] at hlen su
  obtain ⟨eE, eV⟩ := sh_yes ⟨ha, hw⟩
  have hca := amtB_iff.1 ha
  have qs := fun W h => mshare_any A cp n c l hln (by omega) hc W h
  unfold OwnErr at qs
  rw [eE, eV] at qs
  have hPl : (shL c (sumL l) 0 l).length = n := by rw [shL_len, hln]
  rw [hPl] at qs
  have sb := shL_sum ha hw
  have st := sum_take_le l hall
  have tot := share_sum (c := c) hw
  have law := fun i h => share_law ha hw (i := i) h
  have htm : sumL l ≤ 1000000000 := by omega
  generalize shL c (sumL l) 0 l = P at *
  generalize hT : sumL l = T at *
  clear eE eV
  have H_qh := Lib.hid qh; clear qh; have H_qa := Lib.hid qa; clear qa; have H_qw := Lib.hid qw; clear qw; have H_qs := Lib.hid qs; clear qs; have H_ha := Lib.hid ha; clear ha; have H_hw := Lib.hid hw; clear hw; have H_t0 := Lib.hid t0; clear t0; have H_l0 := Lib.hid l0; clear l0; have H_hln := Lib.hid hln; clear hln; have H_hl := Lib.hid hl; clear hl; have H_ht := Lib.hid ht; clear ht; have H_hall := Lib.hid hall; clear hall; have H_sn := Lib.hid sn; clear sn; have H_su := Lib.hid su; clear su; have H_hca := Lib.hid hca; clear hca; have H_hPl := Lib.hid hPl; clear hPl; have H_sb := Lib.hid sb; clear sb; have H_st := Lib.hid st; clear st; have H_tot := Lib.hid tot; clear tot; have H_law := Lib.hid law; clear law; have H_hT := Lib.hid hT; clear hT
  go_enter Tryd.func6, Tryd.ntmps6
  go_wp2_with fail
  (with_reducible refine (H_qh.out).mono ?_)
  rintro e w1 ⟨rfl, bb1⟩
  have l1 := H_l0.out.below bb1
  have H_bb1 := Lib.hid bb1; clear bb1; have H_l1 := Lib.hid l1; clear l1
  go_wp2_with fail
  (with_reducible refine (H_qa.out _).mono ?_)
  rintro e w_ ⟨rfl, hw_⟩
  subst hw_
  go_wp2_with fail
  (with_reducible refine (H_qw.out _ H_l1.out).mono ?_)
  rintro e w_ ⟨rfl, hw_⟩
  subst hw_
  go_wp2_with fail
  (with_reducible refine (H_qs.out _ ?_).mono ?_)
  · exact H_l1.out.below (show Below w1.heap.size w1 _ by (repeat (first | with_reducible exact Below.refl _ _ | with_reducible exact Nat.le_refl _ | with_reducible assumption | with_reducible refine Below.drew ?_ | with_reducible refine below_drewN ?_ _ | with_reducible refine Below.alloc ?_ ?_ _ | with_reducible refine Below.setCell ?_ ?_ _ | with_reducible exact And.right (by assumption) | with_reducible refine Below.trans ?_ (Below.mono (by assumption) ?_) | with_reducible exact Below.size (And.right (by assumption)) | (focus omega) | (focus (simp; done)) | (focus (simp; omega)) | (focus (simp at *; omega)))))
  rintro e w2 ⟨B2, p2, rfl, o2, b2⟩
  have c2 : Below w1.heap.size w1 w2 := Below.trans (by (repeat (first | with_reducible exact Below.refl _ _ | with_reducible exact Nat.le_refl _ | with_reducible assumption | with_reducible refine Below.drew ?_ | with_reducible refine below_drewN ?_ _ | with_reducible refine Below.alloc ?_ ?_ _ | with_reducible refine Below.setCell ?_ ?_ _ | with_reducible exact And.right (by assumption) | with_reducible refine Below.trans ?_ (Below.mono (by assumption) ?_) | with_reducible exact Below.size (And.right (by assumption)) | (focus omega) | (focus (simp; done)) | (focus (simp; omega)) | (focus (simp at *; omega))))) (b2.mono (by first | exact Nat.le_refl _ | omega | (simp; done) | (simp; omega)))
  have s2 := c2.size
  have bb2 := H_bb1.out.trans (c2.mono H_bb1.out.size)
  have l2 := H_l1.out.below c2
  have H_b2 := Lib.hid b2; clear b2; have H_c2 := Lib.hid c2; clear c2; have H_bb2 := Lib.hid bb2; clear bb2; have H_l2 := Lib.hid l2; clear l2
  have i2 := o2.ints
  have H_o2 := Lib.hid o2; clear o2; have H_i2 := Lib.hid i2; clear i2
  go_upto_region 9 with (fail)
  go_loopw [8, 9, 42] (fun s t i wr => ∃ k : Nat, k ≤ n ∧ i = .int .i64 k ∧ s = .int .i64 (sumL (P.take k)) ∧ t = .int .i64 (sumL (l.take k)) ∧ Below w2.heap.size w2 wr) (fun _ _ i _ => n - (intOf i).toNat)
  case atStart => exact ⟨0, by omega, rfl, rfl, rfl, Below.refl _ _⟩
  case round =>
    obtain ⟨k, hk, rfl, rfl, rfl, bz⟩ := hrel
    by_cases hlt : k < n
    · have g1 : (k : Int) < (n : Int) := by omega
      have g0 : (0 : Int) ≤ (k : Int) := by omega
      have hk9 : (k : Int) < 100000 := by omega
      have hkl : k < l.length := by rw [H_hln.out]; exact hlt
      have hkP : k < P.length := by rw [H_hPl.out]; exact hlt
      obtain ⟨b, off, hA, hbl, hcx⟩ := (H_l2.out.below bz) k hkl
      obtain ⟨b2, off2, hA2, hbl2, hcx2⟩ := (H_i2.out.below bz) k hkP
      subst hA hA2
      have s1 := sum_take l k hkl
      have s2 := sum_take P k hkP
      have u1 := H_sb.out (k + 1)
      have u2 := H_st.out (k + 1)
      have k1 : IntKind.i64.wrap (sumL (P.take k) + P.getD k 0) = sumL (P.take (k + 1)) := by rw [s2, IntWalk.i64_in _ (by omega)]
      have k2 : IntKind.i64.wrap (sumL (l.take k) + l.getD k 0) = sumL (l.take (k + 1)) := by rw [s1, IntWalk.i64_in _ (by omega)]
      generalize l.getD k 0 = x at *
      generalize P.getD k 0 = y at *
      generalize hS1 : sumL (P.take (k + 1)) = S1 at *
      generalize hS2 : sumL (l.take (k + 1)) = S2 at *
      generalize sumL (P.take k) = Q1 at *
      generalize sumL (l.take k) = Q2 at *
      have H_bz := Lib.hid bz; clear bz; have H_s1 := Lib.hid s1; clear s1; have H_s2 := Lib.hid s2; clear s2; have H_u1 := Lib.hid u1; clear u1; have H_u2 := Lib.hid u2; clear u2; have H_hS1 := Lib.hid hS1; clear hS1; have H_hS2 := Lib.hid hS2; clear hS2
      go_upto_region 11 with (fail)
      go_quiet (fail)
      go_wp2_with fail
      go_roundw
      case rel => exact ⟨k + 1, by omega, by go_num, (by rw [H_hS1.out]), (by rw [H_hS2.out]), below_drewN H_bz.out _⟩
      case measure => simp [intOf]; omega
    · have g1 : ¬ (k : Int) < (n : Int) := by omega
      have hkn : k = n := by omega
      have e1 : P.take k = P := List.take_of_length_le (by rw [H_hPl.out]; omega)
      have e2 : l.take k = l := List.take_of_length_le (by rw [H_hln.out]; omega)
      rw [e1, e2, H_hT.out, H_tot.out]
      have bb3 := H_bb2.out.trans (bz.mono H_bb2.out.size)
      have l3 := H_l2.out.below bz
      have i3 := H_i2.out.below bz
      obtain ⟨w3, hw3⟩ : ∃ W, wr = W := ⟨_, rfl⟩
      rw [hw3] at bb3 l3 i3 ⊢
      have H_bz := Lib.hid bz; clear bz; have H_bb3 := Lib.hid bb3; clear bb3; have H_l3 := Lib.hid l3; clear l3; have H_i3 := Lib.hid i3; clear i3; have H_hw3 := Lib.hid hw3; clear hw3
      go_upto_region 14 with (fail)
      go_loopw [5, 59] (fun u i wr => ∃ k : Nat, k ≤ n ∧ i = .int .i64 k ∧ u = .bool true ∧ wr = w3) (fun _ i _ => n - (intOf i).toNat)
      case atStart => exact ⟨0, by omega, rfl, rfl, rfl⟩
      case round =>
        obtain ⟨k, hk, rfl, rfl, hw_⟩ := hrel
        subst hw_
        by_cases hlt : k < n
        · have g1 : (k : Int) < (n : Int) := by omega
          have g0 : (0 : Int) ≤ (k : Int) := by omega
          have hk9 : (k : Int) < 100000 := by omega
          have hkl : k < l.length := by rw [H_hln.out]; exact hlt
          have hkP : k < P.length := by rw [H_hPl.out]; exact hlt
          obtain ⟨b, off, hA, hbl, hcx⟩ := H_l3.out k hkl
          obtain ⟨b2, off2, hA2, hbl2, hcx2⟩ := H_i3.out k hkP
          subst hA hA2
          obtain ⟨v1, v2, v3, v4⟩ := H_law.out k hkl
          have hm : l.getD k 0 ∈ l := by rw [List.getD_eq_getElem?_getD, List.getElem?_eq_getElem hkl]; exact List.getElem_mem hkl
          have hx := H_hall.out _ hm
          generalize l.getD k 0 = x at *
          generalize P.getD k 0 = y at *
          have m1 := mul_in v1 (S := T) (by omega)
          have m2 := mul_in H_hca.out (S := x) (by omega)
          have k1 : IntKind.i64.wrap (y * T) = y * T := IntWalk.i64_in _ (by omega)
          have k2 : IntKind.i64.wrap (c * x) = c * x := IntWalk.i64_in _ (by omega)
          have k3 : IntKind.i64.wrap (y * T - c * x) = y * T - c * x := IntWalk.i64_in _ (by omega)
          have k4 : IntKind.i64.wrap (-T) = -T := IntWalk.i64_in _ (by omega)
          have d1 : decide ((1000000000 : Int) < y) = false := decide_eq_false (by omega)
          have d2 : decide (y < (-1000000000 : Int)) = false := decide_eq_false (by omega)
          have d3 : decide (y * T - c * x < T) = true := decide_eq_true v2.1
          have d4 : decide (-T < y * T - c * x) = true := decide_eq_true v2.2
          by_cases hx0 : 0 < x
          · have d5 : decide (0 < x) = true := decide_eq_true hx0
            have H_v1 := Lib.hid v1; clear v1; have H_v2 := Lib.hid v2; clear v2; have H_v3 := Lib.hid v3; clear v3; have H_v4 := Lib.hid v4; clear v4; have H_hm := Lib.hid hm; clear hm; have H_hx := Lib.hid hx; clear hx; have H_m1 := Lib.hid m1; clear m1; have H_m2 := Lib.hid m2; clear m2
            go_wp2_with fail
            go_roundw
            case rel => exact ⟨k + 1, by omega, by go_num, rfl, (by first | trivial | rfl)⟩
            case measure => simp [intOf]; omega
          · have d5 : decide (0 < x) = false := decide_eq_false hx0
            have y0 := v3 (by omega)
            have d6 : (y == 0) = true := by rw [beq_iff_eq]; exact y0
            have H_v1 := Lib.hid v1; clear v1; have H_v2 := Lib.hid v2; clear v2; have H_v3 := Lib.hid v3; clear v3; have H_v4 := Lib.hid v4; clear v4; have H_hm := Lib.hid hm; clear hm; have H_hx := Lib.hid hx; clear hx; have H_m1 := Lib.hid m1; clear m1; have H_m2 := Lib.hid m2; clear m2; have H_y0 := Lib.hid y0; clear y0
            go_wp2_with fail
            go_roundw
            case rel => exact ⟨k + 1, by omega, by go_num, rfl, (by first | trivial | rfl)⟩
            case measure => simp [intOf]; omega
        · have g1 : ¬ (k : Int) < (n : Int) := by omega
          go_wp2_with fail
          go_ret
          exact ⟨rfl, H_bb3.out⟩
end Go.Proofs.YtaloadadecoogaaDoor

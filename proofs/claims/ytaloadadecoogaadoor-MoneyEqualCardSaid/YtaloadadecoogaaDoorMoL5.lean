/- The walk of MoneyEqual. -/
import Derived.Test.YtaloadadecoogaaDoorMnY
import Derived.Test.YtaloadadecoogaaDoorOpnM
namespace Go.Proofs.YtaloadadecoogaaDoor
set_option linter.unusedSimpArgs false
set_option linter.unusedVariables false
set_option maxRecDepth 100000
open Go.RowKit Go.Maps

theorem wf_5 {n : Int} (h : (Lit.int .i64 n).wf = true) : -9223372036854775808 ≤ n ∧ n ≤ 9223372036854775807 := wf_i64 h
theorem tmod_nat {i : Int} {n : Nat} (hi : 0 ≤ i) (hn : 1 ≤ n) : ∃ k : Nat, i.tmod (n : Int) = (k : Int) ∧ k < n := by
  refine ⟨(i % (n : Int)).toNat, ?_, ?_⟩
  · rw [Int.tmod_eq_emod_of_nonneg hi]
    have := Int.emod_nonneg i (show (n : Int) ≠ 0 by omega)
    omega
  · have := Int.emod_lt_of_pos i (show (0 : Int) < n by omega)
    have := Int.emod_nonneg i (show (n : Int) ≠ 0 by omega)
    omega
set_option maxRecDepth 100000 in
set_option maxHeartbeats 16000000 in
theorem moneyEqual_walk (c : Int) (A : Option Addr) (cp : Nat) (l : List Int) (i k : Int) (w : World) (hc0 : (Lit.int .i64 c).wf = true) (hl : IntsAt w A .i64 l) (hlc : l.length ≤ cp) (hcm : cp ≤ maxLen) (_ : ∀ n ∈ l, (Lit.int .i64 n).wf = true) (hi0 : (Lit.int .u16 i).wf = true) (hk0 : (Lit.int .u16 k).wf = true) (ht : Tab w) :
    Calls Tryd.prog 7 #[.int .i64 c, .slice A l.length cp, .int .u16 i, .int .u16 k] w fun e w' => e = .returned (.bool true) ∧ Below w.heap.size w w' := by
  have hi := wf_u16 hi0
  have hk := wf_u16 hk0
  clear hi0 hk0
  have hc := wf_5 hc0
  obtain ⟨n, hln⟩ : ∃ n, l.length = n := ⟨_, rfl⟩
  rw [hln] at hlc ⊢
  have hnm : n ≤ 9223372036854775807 := by unfold maxLen at hcm; omega
  have qh := head06_any w ht
  have qa := fun W => ramount_any c W
  have qw := fun W h => rweights_any A cp n l hln hnm W h
  have t0 := ht
  have l0 := hl
  cases ha : amtB c with
  | false =>
    rw [ha] at qa
    have H_qh := Lib.hid qh; clear qh; have H_qa := Lib.hid qa; clear qa; have H_qw := Lib.hid qw; clear qw; have H_ha := Lib.hid ha; clear ha; have H_t0 := Lib.hid t0; clear t0; have H_l0 := Lib.hid l0; clear l0; have H_hln := Lib.hid hln; clear hln; have H_hl := Lib.hid hl; clear hl; have H_ht := Lib.hid ht; clear ht
    go_enter Tryd.func7, Tryd.ntmps7
    go_wp2_with fail
    (with_reducible refine (H_qh.out).mono ?_)
    rintro e w1 ⟨rfl, bb1⟩
    have H_bb1 := Lib.hid bb1; clear bb1
    go_wp2_with fail
    (with_reducible refine (H_qa.out _).mono ?_)
    rintro e w_ ⟨rfl, hw_⟩
    subst hw_
    go_wp2_with fail
    go_ret
    exact ⟨rfl, H_bb1.out⟩
  | true =>
  rw [ha] at qa
  cases hw : wtsB l with
  | false =>
    rw [hw] at qw
    have H_qh := Lib.hid qh; clear qh; have H_qa := Lib.hid qa; clear qa; have H_qw := Lib.hid qw; clear qw; have H_ha := Lib.hid ha; clear ha; have H_hw := Lib.hid hw; clear hw; have H_t0 := Lib.hid t0; clear t0; have H_l0 := Lib.hid l0; clear l0; have H_hln := Lib.hid hln; clear hln; have H_hl := Lib.hid hl; clear hl; have H_ht := Lib.hid ht; clear ht
    go_enter Tryd.func7, Tryd.ntmps7
    go_wp2_with fail
    (with_reducible refine (H_qh.out).mono ?_)
    rintro e w1 ⟨rfl, bb1⟩
    have l1 := H_l0.out.below bb1
    have H_bb1 := Lib.hid bb1; clear bb1; have H_l1 := Lib.hid l1; clear l1
    go_wp2_with fail
    (with_reducible refine (H_qa.out _).mono ?_)
    rintro e w_ ⟨rfl, hw_⟩
    subst hw_
    go_wp2_with fail
    (with_reducible refine (H_qw.out _ H_l1.out).mono ?_)
    rintro e w_ ⟨rfl, hw_⟩
    subst hw_
    go_wp2_with fail
    go_ret
    exact ⟨rfl, H_bb1.out⟩
  | true =>
  rw [hw] at qw
  obtain ⟨hall, hlen, hpos⟩ := wts_iff.1 hw
  obtain ⟨sn, su, _⟩ := sum_le l hall
  rw [hln] at hlen su
  obtain ⟨eE, eV⟩ := sh_yes ⟨ha, hw⟩
  have hca := amtB_iff.1 ha
  have qs := fun W h => mshare_any A cp n c l hln (by omega) hc W h
  unfold OwnErr at qs
  rw [eE, eV] at qs
  have hPl : (shL c (sumL l) 0 l).length = n := by rw [shL_len, hln]
  rw [hPl] at qs
  have st := sum_take_le l hall
  have law := fun i h => share_law ha hw (i := i) h
  have htm : sumL l ≤ 1000000000 := by omega
  have n1 : 1 ≤ n := by
    rcases Nat.eq_zero_or_pos n with h | h
    · subst h; omega
    · exact h
  obtain ⟨ia, ta, la⟩ := tmod_nat (i := i) hi.1 n1
  obtain ⟨ib, tb, lb⟩ := tmod_nat (i := k) hk.1 n1
  generalize shL c (sumL l) 0 l = P at *
  generalize hT : sumL l = T at *
  clear eE eV
  have d0 : ((n : Int) == 0) = false := by rw [beq_eq_false_iff_ne]; omega
  have d1 : ¬ (n : Int) = 0 := by omega
  have e0 : (T == 0) = false := by rw [beq_eq_false_iff_ne]; omega
  have e1 : ¬ T = 0 := by omega
  have H_qh := Lib.hid qh; clear qh; have H_qa := Lib.hid qa; clear qa; have H_qw := Lib.hid qw; clear qw; have H_qs := Lib.hid qs; clear qs; have H_ha := Lib.hid ha; clear ha; have H_hw := Lib.hid hw; clear hw; have H_t0 := Lib.hid t0; clear t0; have H_l0 := Lib.hid l0; clear l0; have H_hln := Lib.hid hln; clear hln; have H_hl := Lib.hid hl; clear hl; have H_ht := Lib.hid ht; clear ht; have H_hall := Lib.hid hall; clear hall; have H_sn := Lib.hid sn; clear sn; have H_su := Lib.hid su; clear su; have H_hca := Lib.hid hca; clear hca; have H_hPl := Lib.hid hPl; clear hPl; have H_st := Lib.hid st; clear st; have H_law := Lib.hid law; clear law; have H_hT := Lib.hid hT; clear hT
  go_enter Tryd.func7, Tryd.ntmps7
  go_wp2_with fail
  (with_reducible refine (H_qh.out).mono ?_)
  rintro e w1 ⟨rfl, bb1⟩
  have l1 := H_l0.out.below bb1
  have H_bb1 := Lib.hid bb1; clear bb1; have H_l1 := Lib.hid l1; clear l1
  go_wp2_with fail
  (with_reducible refine (H_qa.out _).mono ?_)
  rintro e w_ ⟨rfl, hw_⟩
  subst hw_
  go_wp2_with fail
  (with_reducible refine (H_qw.out _ H_l1.out).mono ?_)
  rintro e w_ ⟨rfl, hw_⟩
  subst hw_
  go_upto_region 6 with (fail)
  go_loopw [10, 29] (fun s i wr => ∃ k : Nat, k ≤ n ∧ i = .int .i64 k ∧ s = .int .i64 (sumL (l.take k)) ∧ w1 = wr) (fun _ i _ => n - (intOf i).toNat)
  case atStart => exact ⟨0, by omega, rfl, rfl, rfl⟩
  case round =>
    obtain ⟨j, hj, rfl, rfl, hw_⟩ := hrel
    subst hw_
    by_cases hlt : j < n
    · have g1 : (j : Int) < (n : Int) := by omega
      have g0 : (0 : Int) ≤ (j : Int) := by omega
      have hk9 : (j : Int) < 100000 := by omega
      have hkl : j < l.length := by rw [H_hln.out]; exact hlt
      obtain ⟨b, off, hA, hbl, hcx⟩ := H_l1.out j hkl
      subst hA
      have s1 := sum_take l j hkl
      have u2 := H_st.out (j + 1)
      have k2 : IntKind.i64.wrap (sumL (l.take j) + l.getD j 0) = sumL (l.take (j + 1)) := by rw [s1, IntWalk.i64_in _ (by omega)]
      generalize l.getD j 0 = x at *
      generalize hS2 : sumL (l.take (j + 1)) = S2 at *
      generalize sumL (l.take j) = Q2 at *
      have H_s1 := Lib.hid s1; clear s1; have H_u2 := Lib.hid u2; clear u2; have H_hS2 := Lib.hid hS2; clear hS2
      go_wp2_with fail
      go_roundw
      case rel => exact ⟨j + 1, by omega, by go_num, (by rw [H_hS2.out]), (by first | trivial | rfl)⟩
      case measure => simp [intOf]; omega
    · have g1 : ¬ (j : Int) < (n : Int) := by omega
      have hkn : j = n := by omega
      have e2 : l.take j = l := List.take_of_length_le (by rw [H_hln.out]; omega)
      rw [e2, H_hT.out]
      clear e2
      go_wp2_with fail
      (with_reducible refine (H_qs.out _ ?_).mono ?_)
      · exact H_l1.out.below (show Below w1.heap.size w1 _ by (repeat (first | with_reducible exact Below.refl _ _ | with_reducible exact Nat.le_refl _ | with_reducible assumption | with_reducible refine Below.drew ?_ | with_reducible refine below_drewN ?_ _ | with_reducible refine Below.alloc ?_ ?_ _ | with_reducible refine Below.setCell ?_ ?_ _ | with_reducible exact And.right (by assumption) | with_reducible refine Below.trans ?_ (Below.mono (by assumption) ?_) | with_reducible exact Below.size (And.right (by assumption)) | (focus omega) | (focus (simp; done)) | (focus (simp; omega)) | (focus (simp at *; omega)))))
      rintro e w2 ⟨B2, p2, rfl, o2, b2⟩
      have c2 : Below w1.heap.size w1 w2 := Below.trans (by (repeat (first | with_reducible exact Below.refl _ _ | with_reducible exact Nat.le_refl _ | with_reducible assumption | with_reducible refine Below.drew ?_ | with_reducible refine below_drewN ?_ _ | with_reducible refine Below.alloc ?_ ?_ _ | with_reducible refine Below.setCell ?_ ?_ _ | with_reducible exact And.right (by assumption) | with_reducible refine Below.trans ?_ (Below.mono (by assumption) ?_) | with_reducible exact Below.size (And.right (by assumption)) | (focus omega) | (focus (simp; done)) | (focus (simp; omega)) | (focus (simp at *; omega))))) (b2.mono (by first | exact Nat.le_refl _ | omega | (simp; done) | (simp; omega)))
      have s2 := c2.size
      have bb2 := H_bb1.out.trans (c2.mono H_bb1.out.size)
      have l2 := H_l1.out.below c2
      have H_b2 := Lib.hid b2; clear b2; have H_c2 := Lib.hid c2; clear c2; have H_bb2 := Lib.hid bb2; clear bb2; have H_l2 := Lib.hid l2; clear l2
      have i2 := o2.ints
      have H_o2 := Lib.hid o2; clear o2; have H_i2 := Lib.hid i2; clear i2
      go_upto_region 13 with (fail)
      go_quiet (fail)
      go_upto_region 14 with (fail)
      obtain ⟨w3, hw3⟩ : ∃ W, w2.drewN nq = W := ⟨_, rfl⟩
      rw [hw3]
      have c3 : Below w2.heap.size w2 w3 := by rw [← hw3]; exact below_drewN (Below.refl _ _) _
      have bb3 := H_bb2.out.trans (c3.mono H_bb2.out.size)
      have l3 := H_l2.out.below c3
      have i3 := H_i2.out.below c3
      have H_hw3 := Lib.hid hw3; clear hw3; have H_c3 := Lib.hid c3; clear c3; have H_bb3 := Lib.hid bb3; clear bb3; have H_l3 := Lib.hid l3; clear l3; have H_i3 := Lib.hid i3; clear i3
      have cells : ∀ W, IntsAt W A .i64 l → IntsAt W B2 .i64 P → (∃ b off, A = some ⟨b, off, none⟩) ∧ (∃ b off, B2 = some ⟨b, off, none⟩) ∧ ∀ b off b3 off3, A = some ⟨b, off, none⟩ → B2 = some ⟨b3, off3, none⟩ → (b < W.heap.size ∧ b3 < W.heap.size) ∧ W.cell? ⟨b, off + ia, none⟩ = some (.int .i64 (l.getD ia 0)) ∧ W.cell? ⟨b, off + ib, none⟩ = some (.int .i64 (l.getD ib 0)) ∧ W.cell? ⟨b3, off3 + ia, none⟩ = some (.int .i64 (P.getD ia 0)) ∧ W.cell? ⟨b3, off3 + ib, none⟩ = some (.int .i64 (P.getD ib 0)) := fun W h1 h2 => by
        obtain ⟨b, off, rfl, hbl, xa⟩ := h1 ia (by rw [H_hln.out]; exact la)
        obtain ⟨b2, off2, hA2, hbl2, xb⟩ := h1 ib (by rw [H_hln.out]; exact lb)
        obtain ⟨b3, off3, rfl, hbl3, pa⟩ := h2 ia (by rw [H_hPl.out]; exact la)
        obtain ⟨b4, off4, hB2, hbl4, pb⟩ := h2 ib (by rw [H_hPl.out]; exact lb)
        injection hA2 with hA2
        injection hA2 with hA3 hA4 _
        injection hB2 with hB2
        injection hB2 with hB3 hB4 _
        subst hA3 hA4 hB3 hB4
        refine ⟨⟨_, _, rfl⟩, ⟨_, _, rfl⟩, ?_⟩
        intro b5 o5 b6 o6 e5 e6
        injection e5 with e5
        injection e5 with e7 e8 _
        injection e6 with e6
        injection e6 with e9 e10 _
        subst e7 e8 e9 e10
        exact ⟨⟨hbl, hbl3⟩, xa, xb, pa, pb⟩
      obtain ⟨⟨b, off, eA⟩, ⟨b3, off3, eB⟩, _⟩ := cells w3 H_l3.out H_i3.out
      have cells := fun W h1 h2 => (cells W h1 h2).2.2 _ _ _ _ eA eB
      obtain ⟨v1, v2, v3, v4⟩ := H_law.out ia (by rw [H_hln.out]; exact la)
      obtain ⟨z1, z2, z3, z4⟩ := H_law.out ib (by rw [H_hln.out]; exact lb)
      have hma : l.getD ia 0 ∈ l := by rw [List.getD_eq_getElem?_getD, List.getElem?_eq_getElem (by rw [H_hln.out]; exact la)]; exact List.getElem_mem _
      have hxa := H_hall.out _ hma
      generalize l.getD ia 0 = x at *
      generalize l.getD ib 0 = y at *
      generalize P.getD ia 0 = r at *
      generalize P.getD ib 0 = q at *
      have ga : (0 : Int) ≤ (ia : Int) ∧ (ia : Int) < (n : Int) := by omega
      have gb : (0 : Int) ≤ (ib : Int) ∧ (ib : Int) < (n : Int) := by omega
      have k1 : IntKind.i64.wrap (r - q) = r - q := IntWalk.i64_in _ (by omega)
      have k2 : IntKind.i64.wrap (q - r) = q - r := IntWalk.i64_in _ (by omega)
      have tl : -T < c.tmod T ∧ c.tmod T < T := ⟨Int.lt_tmod_of_pos _ hpos, Int.tmod_lt_of_pos _ hpos⟩
      have hcb := H_hca.out
      have td := Int.natAbs_tdiv_le_natAbs c T
      have k3 : IntKind.i64.wrap (c.tmod T) = c.tmod T := IntWalk.i64_in _ (by omega)
      have k4 : IntKind.i64.wrap (c.tdiv T) = c.tdiv T := IntWalk.i64_in _ (by omega)
      have near : x = y → r - q ≤ 1 ∧ q - r ≤ 1 := fun h => near_two hpos (z := c * x) v2 (by rw [h]; exact z2)
      have ediv : c.tmod T = 0 → r = c.tdiv T * x := fun h => by
        have hd : T ∣ c := Int.dvd_of_tmod_eq_zero h
        have h1 := v4 (Int.emod_eq_zero_of_dvd hd)
        rw [h1]
        obtain ⟨z, rfl⟩ := hd
        rw [Int.mul_tdiv_cancel_left _ e1, Int.mul_ediv_cancel_left _ e1]
      have m2 := mul_in (c := c.tdiv T) (by omega) (S := x) (by omega)
      have k5 : IntKind.i64.wrap (c.tdiv T * x) = c.tdiv T * x := IntWalk.i64_in _ (by omega)
      subst eA eB
      obtain ⟨⟨hbl, hbl3⟩, xa, xb, pa, pb⟩ := cells w3 H_l3.out H_i3.out
      have H_v1 := Lib.hid v1; clear v1; have H_v2 := Lib.hid v2; clear v2; have H_v3 := Lib.hid v3; clear v3; have H_v4 := Lib.hid v4; clear v4; have H_z1 := Lib.hid z1; clear z1; have H_z2 := Lib.hid z2; clear z2; have H_z3 := Lib.hid z3; clear z3; have H_z4 := Lib.hid z4; clear z4; have H_hma := Lib.hid hma; clear hma; have H_hxa := Lib.hid hxa; clear hxa; have H_near := Lib.hid near; clear near; have H_ediv := Lib.hid ediv; clear ediv; have H_tl := Lib.hid tl; clear tl; have H_td := Lib.hid td; clear td; have H_m2 := Lib.hid m2; clear m2; have H_cells := Lib.hid cells; clear cells
      by_cases hxy : x = y
      · have f1 : (x != y) = false := by rw [hxy]; simp
        have f2 : decide (r - q ≤ 1) = true := decide_eq_true (H_near.out hxy).1
        have f5 : decide (q - r ≤ 1) = true := decide_eq_true (H_near.out hxy).2
        have H_hxy := Lib.hid hxy; clear hxy
        go_upto_region 14 with (fail)
        go_quiet (fail)
        go_upto_region 15 with (fail)
        obtain ⟨w4, hw4⟩ : ∃ W, w3.drewN nq = W := ⟨_, rfl⟩
        rw [hw4]
        have c4 : Below w3.heap.size w3 w4 := by rw [← hw4]; exact below_drewN (Below.refl _ _) _
        have bb4 := H_bb3.out.trans (c4.mono H_bb3.out.size)
        clear hbl hbl3 xa xb pa pb
        obtain ⟨⟨hbl, hbl3⟩, xa, xb, pa, pb⟩ := H_cells.out w4 (H_l3.out.below c4) (H_i3.out.below c4)
        have H_hw4 := Lib.hid hw4; clear hw4; have H_c4 := Lib.hid c4; clear c4; have H_bb4 := Lib.hid bb4; clear bb4
        by_cases hm : c.tmod T = 0
        · have f3 : (c.tmod T != 0) = false := by rw [hm]; rfl
          have f4 : (r == c.tdiv T * x) = true := by rw [beq_iff_eq]; exact H_ediv.out hm
          have H_hm := Lib.hid hm; clear hm
          go_quiet (fail)
          go_wp2_with fail
          go_ret
          exact ⟨rfl, below_drewN H_bb4.out _⟩
        · have f3 : (c.tmod T != 0) = true := by rw [bne_iff_ne]; exact hm
          have H_hm := Lib.hid hm; clear hm
          go_quiet (fail)
          go_wp2_with fail
          go_ret
          exact ⟨rfl, below_drewN H_bb4.out _⟩
      · have f1 : (x != y) = true := by rw [bne_iff_ne]; exact hxy
        have H_hxy := Lib.hid hxy; clear hxy
        go_upto_region 14 with (fail)
        go_quiet (fail)
        go_upto_region 15 with (fail)
        obtain ⟨w4, hw4⟩ : ∃ W, w3.drewN nq = W := ⟨_, rfl⟩
        rw [hw4]
        have c4 : Below w3.heap.size w3 w4 := by rw [← hw4]; exact below_drewN (Below.refl _ _) _
        have bb4 := H_bb3.out.trans (c4.mono H_bb3.out.size)
        clear hbl hbl3 xa xb pa pb
        obtain ⟨⟨hbl, hbl3⟩, xa, xb, pa, pb⟩ := H_cells.out w4 (H_l3.out.below c4) (H_i3.out.below c4)
        have H_hw4 := Lib.hid hw4; clear hw4; have H_c4 := Lib.hid c4; clear c4; have H_bb4 := Lib.hid bb4; clear bb4
        by_cases hm : c.tmod T = 0
        · have f3 : (c.tmod T != 0) = false := by rw [hm]; rfl
          have f4 : (r == c.tdiv T * x) = true := by rw [beq_iff_eq]; exact H_ediv.out hm
          have H_hm := Lib.hid hm; clear hm
          go_quiet (fail)
          go_wp2_with fail
          go_ret
          exact ⟨rfl, below_drewN H_bb4.out _⟩
        · have f3 : (c.tmod T != 0) = true := by rw [bne_iff_ne]; exact hm
          have H_hm := Lib.hid hm; clear hm
          go_quiet (fail)
          go_wp2_with fail
          go_ret
          exact ⟨rfl, below_drewN H_bb4.out _⟩
end Go.Proofs.YtaloadadecoogaaDoor

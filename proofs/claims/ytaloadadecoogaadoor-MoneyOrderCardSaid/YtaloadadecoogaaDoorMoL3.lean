/- The walk of MoneyOrder. -/
import Derived.Test.YtaloadadecoogaaDoorMnY
import Derived.Test.YtaloadadecoogaaDoorOpnM
import Derived.Test.YtaloadadecoogaaDoorLkO
namespace Go.Proofs.YtaloadadecoogaaDoor
set_option linter.unusedSimpArgs false
set_option linter.unusedVariables false
set_option maxRecDepth 100000
open Go.RowKit Go.Maps

theorem wf_3 {n : Int} (h : (Lit.int .i64 n).wf = true) : -9223372036854775808 ≤ n ∧ n ≤ 9223372036854775807 := wf_i64 h
set_option maxRecDepth 100000 in
set_option maxHeartbeats 16000000 in
theorem moneyOrder_walk (A : Option Addr) (cp : Nat) (l : List Exc) (m c p t : Int) (w : World) (hl : Excs w A l) (hlc : l.length ≤ cp) (hcm : cp ≤ maxLen) (hm0 : (Lit.int .i64 m).wf = true) (hc0 : (Lit.int .i64 c).wf = true) (hp0 : (Lit.int .u32 p).wf = true) (ht0 : (Lit.int .i64 t).wf = true) (ht : Tab w) :
    Calls Tryd.prog 5 #[.slice A l.length cp, .agg #[.int .i64 m, .int .i64 c], .int .u32 p, .int .i64 t] w fun e w' => e = .returned (.bool true) ∧ Below w.heap.size w w' := by
  have hm := wf_3 hm0
  have hc := wf_3 hc0
  have hT := wf_3 ht0
  have hp : 0 ≤ p ∧ p ≤ 4294967295 := by rw [Lit.wf_int_iff] at hp0; exact hp0
  obtain ⟨n, hln⟩ : ∃ n, l.length = n := ⟨_, rfl⟩
  rw [hln] at hlc ⊢
  have hnm : n ≤ 9223372036854775807 := by unfold maxLen at hcm; omega
  obtain ⟨w0, hw0⟩ : ∃ W, w.alloc (.cells #[.int .i64 m, .int .i64 c] 24) = W := ⟨_, rfl⟩
  have bb0 : Below w.heap.size w w0 := by rw [← hw0]; exact (Below.refl _ _).alloc (Nat.le_refl _) _
  have k0 : Blk w0 w.heap.size #[.int .i64 m, .int .i64 c] := by rw [← hw0]; exact blk_new rfl
  have t0 := ht.below bb0
  have i0 := hl.below bb0
  have qh := head06_any w0 t0
  have kp : IntKind.i64.wrap p = p := IntWalk.i64_in _ (by omega)
  have qa := fun W => ramount_any m W
  obtain ⟨mp, hmp⟩ : ∃ x, IntKind.i64.wrap (m + p) = x := ⟨_, rfl⟩
  obtain ⟨mn, hmn⟩ : ∃ x, IntKind.i64.wrap (-m) = x := ⟨_, rfl⟩
  by_cases h40 : 40 < n
  · have i1 : decide ((40 : Int) < (n : Int)) = true := decide_eq_true (by omega)
    have H_hw0 := Lib.hid hw0; clear hw0; have H_bb0 := Lib.hid bb0; clear bb0; have H_k0 := Lib.hid k0; clear k0; have H_t0 := Lib.hid t0; clear t0; have H_i0 := Lib.hid i0; clear i0; have H_qh := Lib.hid qh; clear qh; have H_qa := Lib.hid qa; clear qa; have H_hl := Lib.hid hl; clear hl; have H_ht := Lib.hid ht; clear ht; have H_hln := Lib.hid hln; clear hln
    go_enter Tryd.func5, Tryd.ntmps5
    go_upto_region 1 with (fail)
    rw [H_hw0.out]
    go_wp2_with fail
    (with_reducible refine (H_qh.out).mono ?_)
    rintro e w1 ⟨rfl, b1⟩
    have c1 : Below w0.heap.size w0 w1 := Below.trans (by (repeat (first | with_reducible exact Below.refl _ _ | with_reducible exact Nat.le_refl _ | with_reducible assumption | with_reducible refine Below.drew ?_ | with_reducible refine below_drewN ?_ _ | with_reducible refine Below.alloc ?_ ?_ _ | with_reducible refine Below.setCell ?_ ?_ _ | with_reducible exact And.right (by assumption) | with_reducible refine Below.trans ?_ (Below.mono (by assumption) ?_) | with_reducible exact Below.size (And.right (by assumption)) | (focus omega) | (focus (simp; done)) | (focus (simp; omega)) | (focus (simp at *; omega))))) (b1.mono (by first | exact Nat.le_refl _ | omega | (simp; done) | (simp; omega)))
    have s1 := c1.size
    have bb1 := H_bb0.out.trans (c1.mono H_bb0.out.size)
    have k1 := H_k0.out.below c1
    have i1 := H_i0.out.below c1
    have H_b1 := Lib.hid b1; clear b1; have H_c1 := Lib.hid c1; clear c1; have H_bb1 := Lib.hid bb1; clear bb1; have H_k1 := Lib.hid k1; clear k1; have H_i1 := Lib.hid i1; clear i1
    have y0 := (H_k1.out 0 _ rfl).at
    have y1 := (H_k1.out 1 _ rfl).at
    have ly := (H_k1.out 0 _ rfl).lt
    go_upto_region 2 with (fail)
    go_cut [10, 11] from 19 to 20 (fun p1 q1 wx => ∃ g h, p1 = .pointer (some ⟨g, 0, none⟩) ∧ q1 = .pointer (some ⟨h, 0, none⟩) ∧ Two w1 wx g h #[.int .i64 m, .int .i64 c] #[.int .i64 m, .int .i64 c])
    case first =>
      go_region
      all_goals
        go_wp2_with fail
        go_meet
        case rel => first | exact ⟨_, _, rfl, rfl, (two_nn (Below.refl _ _)).drew⟩ | exact ⟨_, _, rfl, rfl, (two_nn' (Below.refl _ _)).drew⟩
    case rest =>
    obtain ⟨g, h, rfl, rfl, ⟨lg, lh, hgh⟩, o2, r2, c2⟩ := hcut
    obtain ⟨w2, hw2⟩ : ∃ W, wc = W := ⟨_, rfl⟩
    rw [hw2] at o2 r2 c2 ⊢
    have bb2 := H_bb1.out.trans (c2.mono H_bb1.out.size)
    have k2 := H_k1.out.below c2
    have mg := (o2 0 _ rfl).lt
    have mh := (r2 0 _ rfl).lt
    have kg : g ≠ w.heap.size := by omega
    have kh : h ≠ w.heap.size := by omega
    have hg : h ≠ g := fun e => hgh e.symm
    clear y0 y1
    have zy := ly
    clear ly
    have ly := (k2 0 _ rfl).lt
    have H_hw2 := Lib.hid hw2; clear hw2; have H_bb2 := Lib.hid bb2; clear bb2; have H_k2 := Lib.hid k2; clear k2; have H_o2 := Lib.hid o2; clear o2; have H_r2 := Lib.hid r2; clear r2; have H_c2 := Lib.hid c2; clear c2
    have yo0 := (H_o2.out 0 _ rfl).at
    have yo1 := (H_o2.out 1 _ rfl).at
    have fo0 := (H_o2.out 0 _ rfl).free
    have fo1 := (H_o2.out 1 _ rfl).free
    have yr0 := (H_r2.out 0 _ rfl).at
    have yr1 := (H_r2.out 1 _ rfl).at
    have fr0 := (H_r2.out 0 _ rfl).free
    have fr1 := (H_r2.out 1 _ rfl).free
    go_upto_region 4 with (fail)
    obtain ⟨w3, hw3⟩ : ∃ W, w2.setCell ⟨g, 0, none⟩ (.int .i64 mp) = W := ⟨_, rfl⟩
    rw [hw3]
    have bb3 : Below w.heap.size w (w2.setCell ⟨g, 0, none⟩ (.int .i64 mp)) := H_bb2.out.setCell (by simp; omega) _
    have o3 := H_o2.out.set 0 (.int .i64 mp) (by simp)
    simp only [List.setIfInBounds_toArray, List.set_cons_zero] at o3
    have r3 := H_r2.out.far (o := 0) hgh (.int .i64 mp)
    have k3 := H_k2.out.far (o := 0) kg (.int .i64 mp)
    rw [hw3] at bb3 o3 r3 k3
    clear yo0 yo1
    clear fo0 fo1
    clear yr0 yr1
    clear fr0 fr1
    have mg := (o3 0 _ rfl).lt
    have mh := (r3 0 _ rfl).lt
    have ly := (k3 0 _ rfl).lt
    have H_hw3 := Lib.hid hw3; clear hw3; have H_bb3 := Lib.hid bb3; clear bb3; have H_k3 := Lib.hid k3; clear k3; have H_o3 := Lib.hid o3; clear o3; have H_r3 := Lib.hid r3; clear r3
    have yo0 := (H_o3.out 0 _ rfl).at
    have yo1 := (H_o3.out 1 _ rfl).at
    have fo0 := (H_o3.out 0 _ rfl).free
    have fo1 := (H_o3.out 1 _ rfl).free
    have yr0 := (H_r3.out 0 _ rfl).at
    have yr1 := (H_r3.out 1 _ rfl).at
    have fr0 := (H_r3.out 0 _ rfl).free
    have fr1 := (H_r3.out 1 _ rfl).free
    go_upto_region 5 with (fail)
    obtain ⟨w4, hw4⟩ : ∃ W, w3.setCell ⟨h, 0, none⟩ (.int .i64 mn) = W := ⟨_, rfl⟩
    rw [hw4]
    have bb4 : Below w.heap.size w (w3.setCell ⟨h, 0, none⟩ (.int .i64 mn)) := H_bb3.out.setCell (by simp; omega) _
    have r4 := H_r3.out.set 0 (.int .i64 mn) (by simp)
    simp only [List.setIfInBounds_toArray, List.set_cons_zero] at r4
    have o4 := H_o3.out.far (o := 0) hg (.int .i64 mn)
    have k4 := H_k3.out.far (o := 0) kh (.int .i64 mn)
    rw [hw4] at bb4 o4 r4 k4
    clear yo0 yo1
    clear fo0 fo1
    clear yr0 yr1
    clear fr0 fr1
    have i4 := H_hl.out.below bb4
    clear mg mh ly
    have ly := (k4 0 _ rfl).lt
    have H_hw4 := Lib.hid hw4; clear hw4; have H_bb4 := Lib.hid bb4; clear bb4; have H_k4 := Lib.hid k4; clear k4; have H_o4 := Lib.hid o4; clear o4; have H_r4 := Lib.hid r4; clear r4; have H_i4 := Lib.hid i4; clear i4
    have y0 := (H_k4.out 0 _ rfl).at
    have y1 := (H_k4.out 1 _ rfl).at
    go_wp2_with fail
    go_ret
    exact ⟨rfl, H_bb4.out⟩
  have i1 : decide ((40 : Int) < (n : Int)) = false := decide_eq_false (by omega)
  cases ha : amtB m with
  | false =>
    rw [ha] at qa
    have H_hw0 := Lib.hid hw0; clear hw0; have H_bb0 := Lib.hid bb0; clear bb0; have H_k0 := Lib.hid k0; clear k0; have H_t0 := Lib.hid t0; clear t0; have H_i0 := Lib.hid i0; clear i0; have H_qh := Lib.hid qh; clear qh; have H_qa := Lib.hid qa; clear qa; have H_hl := Lib.hid hl; clear hl; have H_ht := Lib.hid ht; clear ht; have H_hln := Lib.hid hln; clear hln; have H_ha := Lib.hid ha; clear ha
    go_enter Tryd.func5, Tryd.ntmps5
    go_upto_region 1 with (fail)
    rw [H_hw0.out]
    go_wp2_with fail
    (with_reducible refine (H_qh.out).mono ?_)
    rintro e w1 ⟨rfl, b1⟩
    have c1 : Below w0.heap.size w0 w1 := Below.trans (by (repeat (first | with_reducible exact Below.refl _ _ | with_reducible exact Nat.le_refl _ | with_reducible assumption | with_reducible refine Below.drew ?_ | with_reducible refine below_drewN ?_ _ | with_reducible refine Below.alloc ?_ ?_ _ | with_reducible refine Below.setCell ?_ ?_ _ | with_reducible exact And.right (by assumption) | with_reducible refine Below.trans ?_ (Below.mono (by assumption) ?_) | with_reducible exact Below.size (And.right (by assumption)) | (focus omega) | (focus (simp; done)) | (focus (simp; omega)) | (focus (simp at *; omega))))) (b1.mono (by first | exact Nat.le_refl _ | omega | (simp; done) | (simp; omega)))
    have s1 := c1.size
    have bb1 := H_bb0.out.trans (c1.mono H_bb0.out.size)
    have k1 := H_k0.out.below c1
    have i1 := H_i0.out.below c1
    have H_b1 := Lib.hid b1; clear b1; have H_c1 := Lib.hid c1; clear c1; have H_bb1 := Lib.hid bb1; clear bb1; have H_k1 := Lib.hid k1; clear k1; have H_i1 := Lib.hid i1; clear i1
    have y0 := (H_k1.out 0 _ rfl).at
    have y1 := (H_k1.out 1 _ rfl).at
    have ly := (H_k1.out 0 _ rfl).lt
    go_upto_region 2 with (fail)
    go_cut [10, 11] from 19 to 20 (fun p1 q1 wx => ∃ g h, p1 = .pointer (some ⟨g, 0, none⟩) ∧ q1 = .pointer (some ⟨h, 0, none⟩) ∧ Two w1 wx g h #[.int .i64 m, .int .i64 c] #[.int .i64 m, .int .i64 c])
    case first =>
      go_region
      all_goals
        go_wp2_with fail
        go_meet
        case rel => first | exact ⟨_, _, rfl, rfl, (two_nn (Below.refl _ _)).drew⟩ | exact ⟨_, _, rfl, rfl, (two_nn' (Below.refl _ _)).drew⟩
    case rest =>
    obtain ⟨g, h, rfl, rfl, ⟨lg, lh, hgh⟩, o2, r2, c2⟩ := hcut
    obtain ⟨w2, hw2⟩ : ∃ W, wc = W := ⟨_, rfl⟩
    rw [hw2] at o2 r2 c2 ⊢
    have bb2 := H_bb1.out.trans (c2.mono H_bb1.out.size)
    have k2 := H_k1.out.below c2
    have mg := (o2 0 _ rfl).lt
    have mh := (r2 0 _ rfl).lt
    have kg : g ≠ w.heap.size := by omega
    have kh : h ≠ w.heap.size := by omega
    have hg : h ≠ g := fun e => hgh e.symm
    clear y0 y1
    have zy := ly
    clear ly
    have ly := (k2 0 _ rfl).lt
    have H_hw2 := Lib.hid hw2; clear hw2; have H_bb2 := Lib.hid bb2; clear bb2; have H_k2 := Lib.hid k2; clear k2; have H_o2 := Lib.hid o2; clear o2; have H_r2 := Lib.hid r2; clear r2; have H_c2 := Lib.hid c2; clear c2
    have yo0 := (H_o2.out 0 _ rfl).at
    have yo1 := (H_o2.out 1 _ rfl).at
    have fo0 := (H_o2.out 0 _ rfl).free
    have fo1 := (H_o2.out 1 _ rfl).free
    have yr0 := (H_r2.out 0 _ rfl).at
    have yr1 := (H_r2.out 1 _ rfl).at
    have fr0 := (H_r2.out 0 _ rfl).free
    have fr1 := (H_r2.out 1 _ rfl).free
    go_upto_region 4 with (fail)
    obtain ⟨w3, hw3⟩ : ∃ W, w2.setCell ⟨g, 0, none⟩ (.int .i64 mp) = W := ⟨_, rfl⟩
    rw [hw3]
    have bb3 : Below w.heap.size w (w2.setCell ⟨g, 0, none⟩ (.int .i64 mp)) := H_bb2.out.setCell (by simp; omega) _
    have o3 := H_o2.out.set 0 (.int .i64 mp) (by simp)
    simp only [List.setIfInBounds_toArray, List.set_cons_zero] at o3
    have r3 := H_r2.out.far (o := 0) hgh (.int .i64 mp)
    have k3 := H_k2.out.far (o := 0) kg (.int .i64 mp)
    rw [hw3] at bb3 o3 r3 k3
    clear yo0 yo1
    clear fo0 fo1
    clear yr0 yr1
    clear fr0 fr1
    have mg := (o3 0 _ rfl).lt
    have mh := (r3 0 _ rfl).lt
    have ly := (k3 0 _ rfl).lt
    have H_hw3 := Lib.hid hw3; clear hw3; have H_bb3 := Lib.hid bb3; clear bb3; have H_k3 := Lib.hid k3; clear k3; have H_o3 := Lib.hid o3; clear o3; have H_r3 := Lib.hid r3; clear r3
    have yo0 := (H_o3.out 0 _ rfl).at
    have yo1 := (H_o3.out 1 _ rfl).at
    have fo0 := (H_o3.out 0 _ rfl).free
    have fo1 := (H_o3.out 1 _ rfl).free
    have yr0 := (H_r3.out 0 _ rfl).at
    have yr1 := (H_r3.out 1 _ rfl).at
    have fr0 := (H_r3.out 0 _ rfl).free
    have fr1 := (H_r3.out 1 _ rfl).free
    go_upto_region 5 with (fail)
    obtain ⟨w4, hw4⟩ : ∃ W, w3.setCell ⟨h, 0, none⟩ (.int .i64 mn) = W := ⟨_, rfl⟩
    rw [hw4]
    have bb4 : Below w.heap.size w (w3.setCell ⟨h, 0, none⟩ (.int .i64 mn)) := H_bb3.out.setCell (by simp; omega) _
    have r4 := H_r3.out.set 0 (.int .i64 mn) (by simp)
    simp only [List.setIfInBounds_toArray, List.set_cons_zero] at r4
    have o4 := H_o3.out.far (o := 0) hg (.int .i64 mn)
    have k4 := H_k3.out.far (o := 0) kh (.int .i64 mn)
    rw [hw4] at bb4 o4 r4 k4
    clear yo0 yo1
    clear fo0 fo1
    clear yr0 yr1
    clear fr0 fr1
    have i4 := H_hl.out.below bb4
    clear mg mh ly
    have ly := (k4 0 _ rfl).lt
    have H_hw4 := Lib.hid hw4; clear hw4; have H_bb4 := Lib.hid bb4; clear bb4; have H_k4 := Lib.hid k4; clear k4; have H_o4 := Lib.hid o4; clear o4; have H_r4 := Lib.hid r4; clear r4; have H_i4 := Lib.hid i4; clear i4
    have y0 := (H_k4.out 0 _ rfl).at
    have y1 := (H_k4.out 1 _ rfl).at
    go_wp2_with fail
    (with_reducible refine (H_qa.out _).mono ?_)
    rintro e w_ ⟨rfl, hw_⟩
    subst hw_
    go_wp2_with fail
    go_ret
    exact ⟨rfl, H_bb4.out⟩
  | true =>
  rw [ha] at qa
  have hca := amtB_iff.1 ha
  have emp : mp = m + p := by rw [← hmp, IntWalk.i64_in _ (by omega)]
  have emn : mn = -m := by rw [← hmn, IntWalk.i64_in _ (by omega)]
  have q1 := fun W h => mconvert_any A cp n l m c t hln (by omega) hm hc hT W h
  have q2 := fun W h => mconvert_any A cp n l mp c t hln (by omega) (by omega) hc hT W h
  have q3 := fun W h => mconvert_any A cp n l mn c t hln (by omega) (by omega) hc hT W h
  have qp := fun W => ramount_any mp W
  obtain ⟨ng1, ng2⟩ := neg_law (l := l) (m := m) (c := c) (t := t) ha
  have mo := fun h => more_law (l := l) (m := m) (p := mp) (c := c) (t := t) h (by omega)
  rw [← emn] at ng1 ng2
  have hV := fun h : cvE l m c t = 0 => show -1000000000 ≤ cvM l m c t ∧ cvM l m c t ≤ 1000000000 from by
    by_cases hct : c = t
    · rw [cvM, if_pos h, if_pos hct]; exact hca
    · obtain ⟨_, _, _, _, h5, _⟩ := near_law h hct; exact amtB_iff.1 h5
  have c1 := fun h : cvE l m c t = 0 => show cvC l m c t = t by rw [cvC, if_pos h]
  have c3 := fun h : cvE l mn c t = 0 => show cvC l mn c t = t by rw [cvC, if_pos h]
  rw [ng1] at q3 c3
  clear ng1
  generalize cvE l m c t = E1 at *
  generalize cvM l m c t = M1 at *
  generalize cvC l m c t = C1 at *
  generalize cvE l mp c t = E2 at *
  generalize cvM l mp c t = M2 at *
  generalize cvC l mp c t = C2 at *
  generalize cvM l mn c t = M3 at *
  generalize cvC l mn c t = C3 at *
  by_cases hE : E1 = 0
  rotate_left
  · have f1 : (E1 != 0) = true := by rw [bne_iff_ne]; exact hE
    have H_hw0 := Lib.hid hw0; clear hw0; have H_bb0 := Lib.hid bb0; clear bb0; have H_k0 := Lib.hid k0; clear k0; have H_t0 := Lib.hid t0; clear t0; have H_i0 := Lib.hid i0; clear i0; have H_qh := Lib.hid qh; clear qh; have H_qa := Lib.hid qa; clear qa; have H_hl := Lib.hid hl; clear hl; have H_ht := Lib.hid ht; clear ht; have H_hln := Lib.hid hln; clear hln; have H_ha := Lib.hid ha; clear ha; have H_hca := Lib.hid hca; clear hca; have H_q1 := Lib.hid q1; clear q1; have H_q2 := Lib.hid q2; clear q2; have H_q3 := Lib.hid q3; clear q3; have H_qp := Lib.hid qp; clear qp; have H_ng2 := Lib.hid ng2; clear ng2; have H_mo := Lib.hid mo; clear mo; have H_hV := Lib.hid hV; clear hV; have H_c1 := Lib.hid c1; clear c1; have H_c3 := Lib.hid c3; clear c3; have H_emp := Lib.hid emp; clear emp; have H_emn := Lib.hid emn; clear emn; have H_hE := Lib.hid hE; clear hE
    go_enter Tryd.func5, Tryd.ntmps5
    go_upto_region 1 with (fail)
    rw [H_hw0.out]
    go_wp2_with fail
    (with_reducible refine (H_qh.out).mono ?_)
    rintro e w1 ⟨rfl, b1⟩
    have c1 : Below w0.heap.size w0 w1 := Below.trans (by (repeat (first | with_reducible exact Below.refl _ _ | with_reducible exact Nat.le_refl _ | with_reducible assumption | with_reducible refine Below.drew ?_ | with_reducible refine below_drewN ?_ _ | with_reducible refine Below.alloc ?_ ?_ _ | with_reducible refine Below.setCell ?_ ?_ _ | with_reducible exact And.right (by assumption) | with_reducible refine Below.trans ?_ (Below.mono (by assumption) ?_) | with_reducible exact Below.size (And.right (by assumption)) | (focus omega) | (focus (simp; done)) | (focus (simp; omega)) | (focus (simp at *; omega))))) (b1.mono (by first | exact Nat.le_refl _ | omega | (simp; done) | (simp; omega)))
    have s1 := c1.size
    have bb1 := H_bb0.out.trans (c1.mono H_bb0.out.size)
    have k1 := H_k0.out.below c1
    have i1 := H_i0.out.below c1
    have H_b1 := Lib.hid b1; clear b1; have H_c1 := Lib.hid c1; clear c1; have H_bb1 := Lib.hid bb1; clear bb1; have H_k1 := Lib.hid k1; clear k1; have H_i1 := Lib.hid i1; clear i1
    have y0 := (H_k1.out 0 _ rfl).at
    have y1 := (H_k1.out 1 _ rfl).at
    have ly := (H_k1.out 0 _ rfl).lt
    go_upto_region 2 with (fail)
    go_cut [10, 11] from 19 to 20 (fun p1 q1 wx => ∃ g h, p1 = .pointer (some ⟨g, 0, none⟩) ∧ q1 = .pointer (some ⟨h, 0, none⟩) ∧ Two w1 wx g h #[.int .i64 m, .int .i64 c] #[.int .i64 m, .int .i64 c])
    case first =>
      go_region
      all_goals
        go_wp2_with fail
        go_meet
        case rel => first | exact ⟨_, _, rfl, rfl, (two_nn (Below.refl _ _)).drew⟩ | exact ⟨_, _, rfl, rfl, (two_nn' (Below.refl _ _)).drew⟩
    case rest =>
    obtain ⟨g, h, rfl, rfl, ⟨lg, lh, hgh⟩, o2, r2, c2⟩ := hcut
    obtain ⟨w2, hw2⟩ : ∃ W, wc = W := ⟨_, rfl⟩
    rw [hw2] at o2 r2 c2 ⊢
    have bb2 := H_bb1.out.trans (c2.mono H_bb1.out.size)
    have k2 := H_k1.out.below c2
    have mg := (o2 0 _ rfl).lt
    have mh := (r2 0 _ rfl).lt
    have kg : g ≠ w.heap.size := by omega
    have kh : h ≠ w.heap.size := by omega
    have hg : h ≠ g := fun e => hgh e.symm
    clear y0 y1
    have zy := ly
    clear ly
    have ly := (k2 0 _ rfl).lt
    have H_hw2 := Lib.hid hw2; clear hw2; have H_bb2 := Lib.hid bb2; clear bb2; have H_k2 := Lib.hid k2; clear k2; have H_o2 := Lib.hid o2; clear o2; have H_r2 := Lib.hid r2; clear r2; have H_c2 := Lib.hid c2; clear c2
    have yo0 := (H_o2.out 0 _ rfl).at
    have yo1 := (H_o2.out 1 _ rfl).at
    have fo0 := (H_o2.out 0 _ rfl).free
    have fo1 := (H_o2.out 1 _ rfl).free
    have yr0 := (H_r2.out 0 _ rfl).at
    have yr1 := (H_r2.out 1 _ rfl).at
    have fr0 := (H_r2.out 0 _ rfl).free
    have fr1 := (H_r2.out 1 _ rfl).free
    go_upto_region 4 with (fail)
    obtain ⟨w3, hw3⟩ : ∃ W, w2.setCell ⟨g, 0, none⟩ (.int .i64 mp) = W := ⟨_, rfl⟩
    rw [hw3]
    have bb3 : Below w.heap.size w (w2.setCell ⟨g, 0, none⟩ (.int .i64 mp)) := H_bb2.out.setCell (by simp; omega) _
    have o3 := H_o2.out.set 0 (.int .i64 mp) (by simp)
    simp only [List.setIfInBounds_toArray, List.set_cons_zero] at o3
    have r3 := H_r2.out.far (o := 0) hgh (.int .i64 mp)
    have k3 := H_k2.out.far (o := 0) kg (.int .i64 mp)
    rw [hw3] at bb3 o3 r3 k3
    clear yo0 yo1
    clear fo0 fo1
    clear yr0 yr1
    clear fr0 fr1
    have mg := (o3 0 _ rfl).lt
    have mh := (r3 0 _ rfl).lt
    have ly := (k3 0 _ rfl).lt
    have H_hw3 := Lib.hid hw3; clear hw3; have H_bb3 := Lib.hid bb3; clear bb3; have H_k3 := Lib.hid k3; clear k3; have H_o3 := Lib.hid o3; clear o3; have H_r3 := Lib.hid r3; clear r3
    have yo0 := (H_o3.out 0 _ rfl).at
    have yo1 := (H_o3.out 1 _ rfl).at
    have fo0 := (H_o3.out 0 _ rfl).free
    have fo1 := (H_o3.out 1 _ rfl).free
    have yr0 := (H_r3.out 0 _ rfl).at
    have yr1 := (H_r3.out 1 _ rfl).at
    have fr0 := (H_r3.out 0 _ rfl).free
    have fr1 := (H_r3.out 1 _ rfl).free
    go_upto_region 5 with (fail)
    obtain ⟨w4, hw4⟩ : ∃ W, w3.setCell ⟨h, 0, none⟩ (.int .i64 mn) = W := ⟨_, rfl⟩
    rw [hw4]
    have bb4 : Below w.heap.size w (w3.setCell ⟨h, 0, none⟩ (.int .i64 mn)) := H_bb3.out.setCell (by simp; omega) _
    have r4 := H_r3.out.set 0 (.int .i64 mn) (by simp)
    simp only [List.setIfInBounds_toArray, List.set_cons_zero] at r4
    have o4 := H_o3.out.far (o := 0) hg (.int .i64 mn)
    have k4 := H_k3.out.far (o := 0) kh (.int .i64 mn)
    rw [hw4] at bb4 o4 r4 k4
    clear yo0 yo1
    clear fo0 fo1
    clear yr0 yr1
    clear fr0 fr1
    have i4 := H_hl.out.below bb4
    clear mg mh ly
    have ly := (k4 0 _ rfl).lt
    have H_hw4 := Lib.hid hw4; clear hw4; have H_bb4 := Lib.hid bb4; clear bb4; have H_k4 := Lib.hid k4; clear k4; have H_o4 := Lib.hid o4; clear o4; have H_r4 := Lib.hid r4; clear r4; have H_i4 := Lib.hid i4; clear i4
    have y0 := (H_k4.out 0 _ rfl).at
    have y1 := (H_k4.out 1 _ rfl).at
    go_wp2_with fail
    (with_reducible refine (H_qa.out _).mono ?_)
    rintro e w_ ⟨rfl, hw_⟩
    subst hw_
    go_wp2_with fail
    (with_reducible refine (H_q1.out _ ?_).mono ?_)
    · exact H_i4.out.below (show Below w4.heap.size w4 _ by (repeat (first | with_reducible exact Below.refl _ _ | with_reducible exact Nat.le_refl _ | with_reducible assumption | with_reducible refine Below.drew ?_ | with_reducible refine below_drewN ?_ _ | with_reducible refine Below.alloc ?_ ?_ _ | with_reducible refine Below.setCell ?_ ?_ _ | with_reducible exact And.right (by assumption) | with_reducible refine Below.trans ?_ (Below.mono (by assumption) ?_) | with_reducible exact Below.size (And.right (by assumption)) | (focus omega) | (focus (simp; done)) | (focus (simp; omega)) | (focus (simp at *; omega)))))
    rintro e w5 ⟨rfl, b5⟩
    have c5 : Below w4.heap.size w4 w5 := Below.trans (by (repeat (first | with_reducible exact Below.refl _ _ | with_reducible exact Nat.le_refl _ | with_reducible assumption | with_reducible refine Below.drew ?_ | with_reducible refine below_drewN ?_ _ | with_reducible refine Below.alloc ?_ ?_ _ | with_reducible refine Below.setCell ?_ ?_ _ | with_reducible exact And.right (by assumption) | with_reducible refine Below.trans ?_ (Below.mono (by assumption) ?_) | with_reducible exact Below.size (And.right (by assumption)) | (focus omega) | (focus (simp; done)) | (focus (simp; omega)) | (focus (simp at *; omega))))) (b5.mono (by first | exact Nat.le_refl _ | omega | (simp; done) | (simp; omega)))
    have s5 := c5.size
    have bb5 := H_bb4.out.trans (c5.mono H_bb4.out.size)
    have k5 := H_k4.out.below c5
    have i5 := H_i4.out.below c5
    have o5 := H_o4.out.below c5
    have r5 := H_r4.out.below c5
    have H_b5 := Lib.hid b5; clear b5; have H_c5 := Lib.hid c5; clear c5; have H_bb5 := Lib.hid bb5; clear bb5; have H_k5 := Lib.hid k5; clear k5; have H_i5 := Lib.hid i5; clear i5; have H_o5 := Lib.hid o5; clear o5; have H_r5 := Lib.hid r5; clear r5
    clear y0 y1
    clear ly
    have lo := (H_o5.out 0 _ rfl).lt
    have yo0 := (H_o5.out 0 _ rfl).at
    have yo1 := (H_o5.out 1 _ rfl).at
    go_wp2_with fail
    (with_reducible refine (H_q2.out _ ?_).mono ?_)
    · exact H_i5.out.below (show Below w5.heap.size w5 _ by (repeat (first | with_reducible exact Below.refl _ _ | with_reducible exact Nat.le_refl _ | with_reducible assumption | with_reducible refine Below.drew ?_ | with_reducible refine below_drewN ?_ _ | with_reducible refine Below.alloc ?_ ?_ _ | with_reducible refine Below.setCell ?_ ?_ _ | with_reducible exact And.right (by assumption) | with_reducible refine Below.trans ?_ (Below.mono (by assumption) ?_) | with_reducible exact Below.size (And.right (by assumption)) | (focus omega) | (focus (simp; done)) | (focus (simp; omega)) | (focus (simp at *; omega)))))
    rintro e w6 ⟨rfl, b6⟩
    have c6 : Below w5.heap.size w5 w6 := Below.trans (by (repeat (first | with_reducible exact Below.refl _ _ | with_reducible exact Nat.le_refl _ | with_reducible assumption | with_reducible refine Below.drew ?_ | with_reducible refine below_drewN ?_ _ | with_reducible refine Below.alloc ?_ ?_ _ | with_reducible refine Below.setCell ?_ ?_ _ | with_reducible exact And.right (by assumption) | with_reducible refine Below.trans ?_ (Below.mono (by assumption) ?_) | with_reducible exact Below.size (And.right (by assumption)) | (focus omega) | (focus (simp; done)) | (focus (simp; omega)) | (focus (simp at *; omega))))) (b6.mono (by first | exact Nat.le_refl _ | omega | (simp; done) | (simp; omega)))
    have s6 := c6.size
    have bb6 := H_bb5.out.trans (c6.mono H_bb5.out.size)
    have k6 := H_k5.out.below c6
    have i6 := H_i5.out.below c6
    have o6 := H_o5.out.below c6
    have r6 := H_r5.out.below c6
    have H_b6 := Lib.hid b6; clear b6; have H_c6 := Lib.hid c6; clear c6; have H_bb6 := Lib.hid bb6; clear bb6; have H_k6 := Lib.hid k6; clear k6; have H_i6 := Lib.hid i6; clear i6; have H_o6 := Lib.hid o6; clear o6; have H_r6 := Lib.hid r6; clear r6
    have u6 : Blk w6 w5.heap.size #[.int .i64 M1, .int .i64 C1] := (blk_new rfl).below H_b6.out
    clear yo0 yo1
    clear lo
    have lr := (H_r6.out 0 _ rfl).lt
    have H_u6 := Lib.hid u6; clear u6
    have yr0 := (H_r6.out 0 _ rfl).at
    have yr1 := (H_r6.out 1 _ rfl).at
    go_wp2_with fail
    (with_reducible refine (H_q3.out _ ?_).mono ?_)
    · exact H_i6.out.below (show Below w6.heap.size w6 _ by (repeat (first | with_reducible exact Below.refl _ _ | with_reducible exact Nat.le_refl _ | with_reducible assumption | with_reducible refine Below.drew ?_ | with_reducible refine below_drewN ?_ _ | with_reducible refine Below.alloc ?_ ?_ _ | with_reducible refine Below.setCell ?_ ?_ _ | with_reducible exact And.right (by assumption) | with_reducible refine Below.trans ?_ (Below.mono (by assumption) ?_) | with_reducible exact Below.size (And.right (by assumption)) | (focus omega) | (focus (simp; done)) | (focus (simp; omega)) | (focus (simp at *; omega)))))
    rintro e w7 ⟨rfl, b7⟩
    have c7 : Below w6.heap.size w6 w7 := Below.trans (by (repeat (first | with_reducible exact Below.refl _ _ | with_reducible exact Nat.le_refl _ | with_reducible assumption | with_reducible refine Below.drew ?_ | with_reducible refine below_drewN ?_ _ | with_reducible refine Below.alloc ?_ ?_ _ | with_reducible refine Below.setCell ?_ ?_ _ | with_reducible exact And.right (by assumption) | with_reducible refine Below.trans ?_ (Below.mono (by assumption) ?_) | with_reducible exact Below.size (And.right (by assumption)) | (focus omega) | (focus (simp; done)) | (focus (simp; omega)) | (focus (simp at *; omega))))) (b7.mono (by first | exact Nat.le_refl _ | omega | (simp; done) | (simp; omega)))
    have s7 := c7.size
    have bb7 := H_bb6.out.trans (c7.mono H_bb6.out.size)
    have k7 := H_k6.out.below c7
    have i7 := H_i6.out.below c7
    have o7 := H_o6.out.below c7
    have r7 := H_r6.out.below c7
    have u7 := H_u6.out.below c7
    have H_b7 := Lib.hid b7; clear b7; have H_c7 := Lib.hid c7; clear c7; have H_bb7 := Lib.hid bb7; clear bb7; have H_k7 := Lib.hid k7; clear k7; have H_i7 := Lib.hid i7; clear i7; have H_o7 := Lib.hid o7; clear o7; have H_r7 := Lib.hid r7; clear r7; have H_u7 := Lib.hid u7; clear u7
    have v7 : Blk w7 w6.heap.size #[.int .i64 M2, .int .i64 C2] := (blk_new rfl).below H_b7.out
    clear yr0 yr1
    clear lr
    go_upto_region 10 with (fail)
    obtain ⟨w8, hw8⟩ : ∃ W, w7.alloc (.cells #[.int .i64 M3, .int .i64 C3] 24) = W := ⟨_, rfl⟩
    rw [hw8]
    have c8 : Below w7.heap.size w7 w8 := by rw [← hw8]; exact (Below.refl _ _).alloc (Nat.le_refl _) _
    have z8 : Blk w8 w7.heap.size #[.int .i64 M3, .int .i64 C3] := by rw [← hw8]; exact blk_new rfl
    have bb8 := H_bb7.out.trans (c8.mono H_bb7.out.size)
    have u8 := H_u7.out.below c8
    have v8 := v7.below c8
    have o8 := H_o7.out.below c8
    have lu := (u8 0 _ rfl).lt
    have lv := (v8 0 _ rfl).lt
    have lo := (o8 0 _ rfl).lt
    have lz := (z8 0 _ rfl).lt
    have H_hw8 := Lib.hid hw8; clear hw8; have H_c8 := Lib.hid c8; clear c8; have H_z8 := Lib.hid z8; clear z8; have H_bb8 := Lib.hid bb8; clear bb8; have H_u8 := Lib.hid u8; clear u8; have H_v7 := Lib.hid v7; clear v7; have H_v8 := Lib.hid v8; clear v8; have H_o8 := Lib.hid o8; clear o8
    have yu0 := (H_u8.out 0 _ rfl).at
    have yu1 := (H_u8.out 1 _ rfl).at
    have yv0 := (H_v8.out 0 _ rfl).at
    have yv1 := (H_v8.out 1 _ rfl).at
    have yz0 := (H_z8.out 0 _ rfl).at
    have yz1 := (H_z8.out 1 _ rfl).at
    have yo0 := (H_o8.out 0 _ rfl).at
    have yo1 := (H_o8.out 1 _ rfl).at
    go_wp2_with fail
    go_ret
    exact ⟨rfl, H_bb8.out⟩
  subst hE
  have e1 := c1 rfl
  have e3 := c3 rfl
  have eM := ng2 rfl
  have hV := hV rfl
  subst e1
  subst C3
  have k1 : IntKind.i64.wrap (-M1) = M3 := by rw [IntWalk.i64_in _ (by omega)]; exact eM.symm
  rcases mo rfl with ⟨rfl, hle⟩ | ⟨rfl, hno⟩ | rfl
  · have f2 : decide (M1 ≤ M2) = true := decide_eq_true hle
    have H_hw0 := Lib.hid hw0; clear hw0; have H_bb0 := Lib.hid bb0; clear bb0; have H_k0 := Lib.hid k0; clear k0; have H_t0 := Lib.hid t0; clear t0; have H_i0 := Lib.hid i0; clear i0; have H_qh := Lib.hid qh; clear qh; have H_qa := Lib.hid qa; clear qa; have H_hl := Lib.hid hl; clear hl; have H_ht := Lib.hid ht; clear ht; have H_hln := Lib.hid hln; clear hln; have H_ha := Lib.hid ha; clear ha; have H_hca := Lib.hid hca; clear hca; have H_q1 := Lib.hid q1; clear q1; have H_q2 := Lib.hid q2; clear q2; have H_q3 := Lib.hid q3; clear q3; have H_qp := Lib.hid qp; clear qp; have H_ng2 := Lib.hid ng2; clear ng2; have H_mo := Lib.hid mo; clear mo; have H_hV := Lib.hid hV; clear hV; have H_c1 := Lib.hid c1; clear c1; have H_c3 := Lib.hid c3; clear c3; have H_emp := Lib.hid emp; clear emp; have H_emn := Lib.hid emn; clear emn; have H_hle := Lib.hid hle; clear hle; have H_eM := Lib.hid eM; clear eM
    go_enter Tryd.func5, Tryd.ntmps5
    go_upto_region 1 with (fail)
    rw [H_hw0.out]
    go_wp2_with fail
    (with_reducible refine (H_qh.out).mono ?_)
    rintro e w1 ⟨rfl, b1⟩
    have c1 : Below w0.heap.size w0 w1 := Below.trans (by (repeat (first | with_reducible exact Below.refl _ _ | with_reducible exact Nat.le_refl _ | with_reducible assumption | with_reducible refine Below.drew ?_ | with_reducible refine below_drewN ?_ _ | with_reducible refine Below.alloc ?_ ?_ _ | with_reducible refine Below.setCell ?_ ?_ _ | with_reducible exact And.right (by assumption) | with_reducible refine Below.trans ?_ (Below.mono (by assumption) ?_) | with_reducible exact Below.size (And.right (by assumption)) | (focus omega) | (focus (simp; done)) | (focus (simp; omega)) | (focus (simp at *; omega))))) (b1.mono (by first | exact Nat.le_refl _ | omega | (simp; done) | (simp; omega)))
    have s1 := c1.size
    have bb1 := H_bb0.out.trans (c1.mono H_bb0.out.size)
    have k1 := H_k0.out.below c1
    have i1 := H_i0.out.below c1
    have H_b1 := Lib.hid b1; clear b1; have H_c1 := Lib.hid c1; clear c1; have H_bb1 := Lib.hid bb1; clear bb1; have H_k1 := Lib.hid k1; clear k1; have H_i1 := Lib.hid i1; clear i1
    have y0 := (H_k1.out 0 _ rfl).at
    have y1 := (H_k1.out 1 _ rfl).at
    have ly := (H_k1.out 0 _ rfl).lt
    go_upto_region 2 with (fail)
    go_cut [10, 11] from 19 to 20 (fun p1 q1 wx => ∃ g h, p1 = .pointer (some ⟨g, 0, none⟩) ∧ q1 = .pointer (some ⟨h, 0, none⟩) ∧ Two w1 wx g h #[.int .i64 m, .int .i64 c] #[.int .i64 m, .int .i64 c])
    case first =>
      go_region
      all_goals
        go_wp2_with fail
        go_meet
        case rel => first | exact ⟨_, _, rfl, rfl, (two_nn (Below.refl _ _)).drew⟩ | exact ⟨_, _, rfl, rfl, (two_nn' (Below.refl _ _)).drew⟩
    case rest =>
    obtain ⟨g, h, rfl, rfl, ⟨lg, lh, hgh⟩, o2, r2, c2⟩ := hcut
    obtain ⟨w2, hw2⟩ : ∃ W, wc = W := ⟨_, rfl⟩
    rw [hw2] at o2 r2 c2 ⊢
    have bb2 := H_bb1.out.trans (c2.mono H_bb1.out.size)
    have k2 := H_k1.out.below c2
    have mg := (o2 0 _ rfl).lt
    have mh := (r2 0 _ rfl).lt
    have kg : g ≠ w.heap.size := by omega
    have kh : h ≠ w.heap.size := by omega
    have hg : h ≠ g := fun e => hgh e.symm
    clear y0 y1
    have zy := ly
    clear ly
    have ly := (k2 0 _ rfl).lt
    have H_hw2 := Lib.hid hw2; clear hw2; have H_bb2 := Lib.hid bb2; clear bb2; have H_k2 := Lib.hid k2; clear k2; have H_o2 := Lib.hid o2; clear o2; have H_r2 := Lib.hid r2; clear r2; have H_c2 := Lib.hid c2; clear c2
    have yo0 := (H_o2.out 0 _ rfl).at
    have yo1 := (H_o2.out 1 _ rfl).at
    have fo0 := (H_o2.out 0 _ rfl).free
    have fo1 := (H_o2.out 1 _ rfl).free
    have yr0 := (H_r2.out 0 _ rfl).at
    have yr1 := (H_r2.out 1 _ rfl).at
    have fr0 := (H_r2.out 0 _ rfl).free
    have fr1 := (H_r2.out 1 _ rfl).free
    go_upto_region 4 with (fail)
    obtain ⟨w3, hw3⟩ : ∃ W, w2.setCell ⟨g, 0, none⟩ (.int .i64 mp) = W := ⟨_, rfl⟩
    rw [hw3]
    have bb3 : Below w.heap.size w (w2.setCell ⟨g, 0, none⟩ (.int .i64 mp)) := H_bb2.out.setCell (by simp; omega) _
    have o3 := H_o2.out.set 0 (.int .i64 mp) (by simp)
    simp only [List.setIfInBounds_toArray, List.set_cons_zero] at o3
    have r3 := H_r2.out.far (o := 0) hgh (.int .i64 mp)
    have k3 := H_k2.out.far (o := 0) kg (.int .i64 mp)
    rw [hw3] at bb3 o3 r3 k3
    clear yo0 yo1
    clear fo0 fo1
    clear yr0 yr1
    clear fr0 fr1
    have mg := (o3 0 _ rfl).lt
    have mh := (r3 0 _ rfl).lt
    have ly := (k3 0 _ rfl).lt
    have H_hw3 := Lib.hid hw3; clear hw3; have H_bb3 := Lib.hid bb3; clear bb3; have H_k3 := Lib.hid k3; clear k3; have H_o3 := Lib.hid o3; clear o3; have H_r3 := Lib.hid r3; clear r3
    have yo0 := (H_o3.out 0 _ rfl).at
    have yo1 := (H_o3.out 1 _ rfl).at
    have fo0 := (H_o3.out 0 _ rfl).free
    have fo1 := (H_o3.out 1 _ rfl).free
    have yr0 := (H_r3.out 0 _ rfl).at
    have yr1 := (H_r3.out 1 _ rfl).at
    have fr0 := (H_r3.out 0 _ rfl).free
    have fr1 := (H_r3.out 1 _ rfl).free
    go_upto_region 5 with (fail)
    obtain ⟨w4, hw4⟩ : ∃ W, w3.setCell ⟨h, 0, none⟩ (.int .i64 mn) = W := ⟨_, rfl⟩
    rw [hw4]
    have bb4 : Below w.heap.size w (w3.setCell ⟨h, 0, none⟩ (.int .i64 mn)) := H_bb3.out.setCell (by simp; omega) _
    have r4 := H_r3.out.set 0 (.int .i64 mn) (by simp)
    simp only [List.setIfInBounds_toArray, List.set_cons_zero] at r4
    have o4 := H_o3.out.far (o := 0) hg (.int .i64 mn)
    have k4 := H_k3.out.far (o := 0) kh (.int .i64 mn)
    rw [hw4] at bb4 o4 r4 k4
    clear yo0 yo1
    clear fo0 fo1
    clear yr0 yr1
    clear fr0 fr1
    have i4 := H_hl.out.below bb4
    clear mg mh ly
    have ly := (k4 0 _ rfl).lt
    have H_hw4 := Lib.hid hw4; clear hw4; have H_bb4 := Lib.hid bb4; clear bb4; have H_k4 := Lib.hid k4; clear k4; have H_o4 := Lib.hid o4; clear o4; have H_r4 := Lib.hid r4; clear r4; have H_i4 := Lib.hid i4; clear i4
    have y0 := (H_k4.out 0 _ rfl).at
    have y1 := (H_k4.out 1 _ rfl).at
    go_wp2_with fail
    (with_reducible refine (H_qa.out _).mono ?_)
    rintro e w_ ⟨rfl, hw_⟩
    subst hw_
    go_wp2_with fail
    (with_reducible refine (H_q1.out _ ?_).mono ?_)
    · exact H_i4.out.below (show Below w4.heap.size w4 _ by (repeat (first | with_reducible exact Below.refl _ _ | with_reducible exact Nat.le_refl _ | with_reducible assumption | with_reducible refine Below.drew ?_ | with_reducible refine below_drewN ?_ _ | with_reducible refine Below.alloc ?_ ?_ _ | with_reducible refine Below.setCell ?_ ?_ _ | with_reducible exact And.right (by assumption) | with_reducible refine Below.trans ?_ (Below.mono (by assumption) ?_) | with_reducible exact Below.size (And.right (by assumption)) | (focus omega) | (focus (simp; done)) | (focus (simp; omega)) | (focus (simp at *; omega)))))
    rintro e w5 ⟨rfl, b5⟩
    have c5 : Below w4.heap.size w4 w5 := Below.trans (by (repeat (first | with_reducible exact Below.refl _ _ | with_reducible exact Nat.le_refl _ | with_reducible assumption | with_reducible refine Below.drew ?_ | with_reducible refine below_drewN ?_ _ | with_reducible refine Below.alloc ?_ ?_ _ | with_reducible refine Below.setCell ?_ ?_ _ | with_reducible exact And.right (by assumption) | with_reducible refine Below.trans ?_ (Below.mono (by assumption) ?_) | with_reducible exact Below.size (And.right (by assumption)) | (focus omega) | (focus (simp; done)) | (focus (simp; omega)) | (focus (simp at *; omega))))) (b5.mono (by first | exact Nat.le_refl _ | omega | (simp; done) | (simp; omega)))
    have s5 := c5.size
    have bb5 := H_bb4.out.trans (c5.mono H_bb4.out.size)
    have k5 := H_k4.out.below c5
    have i5 := H_i4.out.below c5
    have o5 := H_o4.out.below c5
    have r5 := H_r4.out.below c5
    have H_b5 := Lib.hid b5; clear b5; have H_c5 := Lib.hid c5; clear c5; have H_bb5 := Lib.hid bb5; clear bb5; have H_k5 := Lib.hid k5; clear k5; have H_i5 := Lib.hid i5; clear i5; have H_o5 := Lib.hid o5; clear o5; have H_r5 := Lib.hid r5; clear r5
    clear y0 y1
    clear ly
    have lo := (H_o5.out 0 _ rfl).lt
    have yo0 := (H_o5.out 0 _ rfl).at
    have yo1 := (H_o5.out 1 _ rfl).at
    go_wp2_with fail
    (with_reducible refine (H_q2.out _ ?_).mono ?_)
    · exact H_i5.out.below (show Below w5.heap.size w5 _ by (repeat (first | with_reducible exact Below.refl _ _ | with_reducible exact Nat.le_refl _ | with_reducible assumption | with_reducible refine Below.drew ?_ | with_reducible refine below_drewN ?_ _ | with_reducible refine Below.alloc ?_ ?_ _ | with_reducible refine Below.setCell ?_ ?_ _ | with_reducible exact And.right (by assumption) | with_reducible refine Below.trans ?_ (Below.mono (by assumption) ?_) | with_reducible exact Below.size (And.right (by assumption)) | (focus omega) | (focus (simp; done)) | (focus (simp; omega)) | (focus (simp at *; omega)))))
    rintro e w6 ⟨rfl, b6⟩
    have c6 : Below w5.heap.size w5 w6 := Below.trans (by (repeat (first | with_reducible exact Below.refl _ _ | with_reducible exact Nat.le_refl _ | with_reducible assumption | with_reducible refine Below.drew ?_ | with_reducible refine below_drewN ?_ _ | with_reducible refine Below.alloc ?_ ?_ _ | with_reducible refine Below.setCell ?_ ?_ _ | with_reducible exact And.right (by assumption) | with_reducible refine Below.trans ?_ (Below.mono (by assumption) ?_) | with_reducible exact Below.size (And.right (by assumption)) | (focus omega) | (focus (simp; done)) | (focus (simp; omega)) | (focus (simp at *; omega))))) (b6.mono (by first | exact Nat.le_refl _ | omega | (simp; done) | (simp; omega)))
    have s6 := c6.size
    have bb6 := H_bb5.out.trans (c6.mono H_bb5.out.size)
    have k6 := H_k5.out.below c6
    have i6 := H_i5.out.below c6
    have o6 := H_o5.out.below c6
    have r6 := H_r5.out.below c6
    have H_b6 := Lib.hid b6; clear b6; have H_c6 := Lib.hid c6; clear c6; have H_bb6 := Lib.hid bb6; clear bb6; have H_k6 := Lib.hid k6; clear k6; have H_i6 := Lib.hid i6; clear i6; have H_o6 := Lib.hid o6; clear o6; have H_r6 := Lib.hid r6; clear r6
    have u6 : Blk w6 w5.heap.size #[.int .i64 M1, .int .i64 C1] := (blk_new rfl).below H_b6.out
    clear yo0 yo1
    clear lo
    have lr := (H_r6.out 0 _ rfl).lt
    have H_u6 := Lib.hid u6; clear u6
    have yr0 := (H_r6.out 0 _ rfl).at
    have yr1 := (H_r6.out 1 _ rfl).at
    go_wp2_with fail
    (with_reducible refine (H_q3.out _ ?_).mono ?_)
    · exact H_i6.out.below (show Below w6.heap.size w6 _ by (repeat (first | with_reducible exact Below.refl _ _ | with_reducible exact Nat.le_refl _ | with_reducible assumption | with_reducible refine Below.drew ?_ | with_reducible refine below_drewN ?_ _ | with_reducible refine Below.alloc ?_ ?_ _ | with_reducible refine Below.setCell ?_ ?_ _ | with_reducible exact And.right (by assumption) | with_reducible refine Below.trans ?_ (Below.mono (by assumption) ?_) | with_reducible exact Below.size (And.right (by assumption)) | (focus omega) | (focus (simp; done)) | (focus (simp; omega)) | (focus (simp at *; omega)))))
    rintro e w7 ⟨rfl, b7⟩
    have c7 : Below w6.heap.size w6 w7 := Below.trans (by (repeat (first | with_reducible exact Below.refl _ _ | with_reducible exact Nat.le_refl _ | with_reducible assumption | with_reducible refine Below.drew ?_ | with_reducible refine below_drewN ?_ _ | with_reducible refine Below.alloc ?_ ?_ _ | with_reducible refine Below.setCell ?_ ?_ _ | with_reducible exact And.right (by assumption) | with_reducible refine Below.trans ?_ (Below.mono (by assumption) ?_) | with_reducible exact Below.size (And.right (by assumption)) | (focus omega) | (focus (simp; done)) | (focus (simp; omega)) | (focus (simp at *; omega))))) (b7.mono (by first | exact Nat.le_refl _ | omega | (simp; done) | (simp; omega)))
    have s7 := c7.size
    have bb7 := H_bb6.out.trans (c7.mono H_bb6.out.size)
    have k7 := H_k6.out.below c7
    have i7 := H_i6.out.below c7
    have o7 := H_o6.out.below c7
    have r7 := H_r6.out.below c7
    have u7 := H_u6.out.below c7
    have H_b7 := Lib.hid b7; clear b7; have H_c7 := Lib.hid c7; clear c7; have H_bb7 := Lib.hid bb7; clear bb7; have H_k7 := Lib.hid k7; clear k7; have H_i7 := Lib.hid i7; clear i7; have H_o7 := Lib.hid o7; clear o7; have H_r7 := Lib.hid r7; clear r7; have H_u7 := Lib.hid u7; clear u7
    have v7 : Blk w7 w6.heap.size #[.int .i64 M2, .int .i64 C2] := (blk_new rfl).below H_b7.out
    clear yr0 yr1
    clear lr
    go_upto_region 10 with (fail)
    obtain ⟨w8, hw8⟩ : ∃ W, w7.alloc (.cells #[.int .i64 M3, .int .i64 C1] 24) = W := ⟨_, rfl⟩
    rw [hw8]
    have c8 : Below w7.heap.size w7 w8 := by rw [← hw8]; exact (Below.refl _ _).alloc (Nat.le_refl _) _
    have z8 : Blk w8 w7.heap.size #[.int .i64 M3, .int .i64 C1] := by rw [← hw8]; exact blk_new rfl
    have bb8 := H_bb7.out.trans (c8.mono H_bb7.out.size)
    have u8 := H_u7.out.below c8
    have v8 := v7.below c8
    have o8 := H_o7.out.below c8
    have lu := (u8 0 _ rfl).lt
    have lv := (v8 0 _ rfl).lt
    have lo := (o8 0 _ rfl).lt
    have lz := (z8 0 _ rfl).lt
    have H_hw8 := Lib.hid hw8; clear hw8; have H_c8 := Lib.hid c8; clear c8; have H_z8 := Lib.hid z8; clear z8; have H_bb8 := Lib.hid bb8; clear bb8; have H_u8 := Lib.hid u8; clear u8; have H_v7 := Lib.hid v7; clear v7; have H_v8 := Lib.hid v8; clear v8; have H_o8 := Lib.hid o8; clear o8
    have yu0 := (H_u8.out 0 _ rfl).at
    have yu1 := (H_u8.out 1 _ rfl).at
    have yv0 := (H_v8.out 0 _ rfl).at
    have yv1 := (H_v8.out 1 _ rfl).at
    have yz0 := (H_z8.out 0 _ rfl).at
    have yz1 := (H_z8.out 1 _ rfl).at
    have yo0 := (H_o8.out 0 _ rfl).at
    have yo1 := (H_o8.out 1 _ rfl).at
    go_wp2_with fail
    go_ret
    exact ⟨rfl, H_bb8.out⟩
  · rw [hno] at qp
    have H_hw0 := Lib.hid hw0; clear hw0; have H_bb0 := Lib.hid bb0; clear bb0; have H_k0 := Lib.hid k0; clear k0; have H_t0 := Lib.hid t0; clear t0; have H_i0 := Lib.hid i0; clear i0; have H_qh := Lib.hid qh; clear qh; have H_qa := Lib.hid qa; clear qa; have H_hl := Lib.hid hl; clear hl; have H_ht := Lib.hid ht; clear ht; have H_hln := Lib.hid hln; clear hln; have H_ha := Lib.hid ha; clear ha; have H_hca := Lib.hid hca; clear hca; have H_q1 := Lib.hid q1; clear q1; have H_q2 := Lib.hid q2; clear q2; have H_q3 := Lib.hid q3; clear q3; have H_qp := Lib.hid qp; clear qp; have H_ng2 := Lib.hid ng2; clear ng2; have H_mo := Lib.hid mo; clear mo; have H_hV := Lib.hid hV; clear hV; have H_c1 := Lib.hid c1; clear c1; have H_c3 := Lib.hid c3; clear c3; have H_emp := Lib.hid emp; clear emp; have H_emn := Lib.hid emn; clear emn; have H_hno := Lib.hid hno; clear hno; have H_eM := Lib.hid eM; clear eM
    go_enter Tryd.func5, Tryd.ntmps5
    go_upto_region 1 with (fail)
    rw [H_hw0.out]
    go_wp2_with fail
    (with_reducible refine (H_qh.out).mono ?_)
    rintro e w1 ⟨rfl, b1⟩
    have c1 : Below w0.heap.size w0 w1 := Below.trans (by (repeat (first | with_reducible exact Below.refl _ _ | with_reducible exact Nat.le_refl _ | with_reducible assumption | with_reducible refine Below.drew ?_ | with_reducible refine below_drewN ?_ _ | with_reducible refine Below.alloc ?_ ?_ _ | with_reducible refine Below.setCell ?_ ?_ _ | with_reducible exact And.right (by assumption) | with_reducible refine Below.trans ?_ (Below.mono (by assumption) ?_) | with_reducible exact Below.size (And.right (by assumption)) | (focus omega) | (focus (simp; done)) | (focus (simp; omega)) | (focus (simp at *; omega))))) (b1.mono (by first | exact Nat.le_refl _ | omega | (simp; done) | (simp; omega)))
    have s1 := c1.size
    have bb1 := H_bb0.out.trans (c1.mono H_bb0.out.size)
    have k1 := H_k0.out.below c1
    have i1 := H_i0.out.below c1
    have H_b1 := Lib.hid b1; clear b1; have H_c1 := Lib.hid c1; clear c1; have H_bb1 := Lib.hid bb1; clear bb1; have H_k1 := Lib.hid k1; clear k1; have H_i1 := Lib.hid i1; clear i1
    have y0 := (H_k1.out 0 _ rfl).at
    have y1 := (H_k1.out 1 _ rfl).at
    have ly := (H_k1.out 0 _ rfl).lt
    go_upto_region 2 with (fail)
    go_cut [10, 11] from 19 to 20 (fun p1 q1 wx => ∃ g h, p1 = .pointer (some ⟨g, 0, none⟩) ∧ q1 = .pointer (some ⟨h, 0, none⟩) ∧ Two w1 wx g h #[.int .i64 m, .int .i64 c] #[.int .i64 m, .int .i64 c])
    case first =>
      go_region
      all_goals
        go_wp2_with fail
        go_meet
        case rel => first | exact ⟨_, _, rfl, rfl, (two_nn (Below.refl _ _)).drew⟩ | exact ⟨_, _, rfl, rfl, (two_nn' (Below.refl _ _)).drew⟩
    case rest =>
    obtain ⟨g, h, rfl, rfl, ⟨lg, lh, hgh⟩, o2, r2, c2⟩ := hcut
    obtain ⟨w2, hw2⟩ : ∃ W, wc = W := ⟨_, rfl⟩
    rw [hw2] at o2 r2 c2 ⊢
    have bb2 := H_bb1.out.trans (c2.mono H_bb1.out.size)
    have k2 := H_k1.out.below c2
    have mg := (o2 0 _ rfl).lt
    have mh := (r2 0 _ rfl).lt
    have kg : g ≠ w.heap.size := by omega
    have kh : h ≠ w.heap.size := by omega
    have hg : h ≠ g := fun e => hgh e.symm
    clear y0 y1
    have zy := ly
    clear ly
    have ly := (k2 0 _ rfl).lt
    have H_hw2 := Lib.hid hw2; clear hw2; have H_bb2 := Lib.hid bb2; clear bb2; have H_k2 := Lib.hid k2; clear k2; have H_o2 := Lib.hid o2; clear o2; have H_r2 := Lib.hid r2; clear r2; have H_c2 := Lib.hid c2; clear c2
    have yo0 := (H_o2.out 0 _ rfl).at
    have yo1 := (H_o2.out 1 _ rfl).at
    have fo0 := (H_o2.out 0 _ rfl).free
    have fo1 := (H_o2.out 1 _ rfl).free
    have yr0 := (H_r2.out 0 _ rfl).at
    have yr1 := (H_r2.out 1 _ rfl).at
    have fr0 := (H_r2.out 0 _ rfl).free
    have fr1 := (H_r2.out 1 _ rfl).free
    go_upto_region 4 with (fail)
    obtain ⟨w3, hw3⟩ : ∃ W, w2.setCell ⟨g, 0, none⟩ (.int .i64 mp) = W := ⟨_, rfl⟩
    rw [hw3]
    have bb3 : Below w.heap.size w (w2.setCell ⟨g, 0, none⟩ (.int .i64 mp)) := H_bb2.out.setCell (by simp; omega) _
    have o3 := H_o2.out.set 0 (.int .i64 mp) (by simp)
    simp only [List.setIfInBounds_toArray, List.set_cons_zero] at o3
    have r3 := H_r2.out.far (o := 0) hgh (.int .i64 mp)
    have k3 := H_k2.out.far (o := 0) kg (.int .i64 mp)
    rw [hw3] at bb3 o3 r3 k3
    clear yo0 yo1
    clear fo0 fo1
    clear yr0 yr1
    clear fr0 fr1
    have mg := (o3 0 _ rfl).lt
    have mh := (r3 0 _ rfl).lt
    have ly := (k3 0 _ rfl).lt
    have H_hw3 := Lib.hid hw3; clear hw3; have H_bb3 := Lib.hid bb3; clear bb3; have H_k3 := Lib.hid k3; clear k3; have H_o3 := Lib.hid o3; clear o3; have H_r3 := Lib.hid r3; clear r3
    have yo0 := (H_o3.out 0 _ rfl).at
    have yo1 := (H_o3.out 1 _ rfl).at
    have fo0 := (H_o3.out 0 _ rfl).free
    have fo1 := (H_o3.out 1 _ rfl).free
    have yr0 := (H_r3.out 0 _ rfl).at
    have yr1 := (H_r3.out 1 _ rfl).at
    have fr0 := (H_r3.out 0 _ rfl).free
    have fr1 := (H_r3.out 1 _ rfl).free
    go_upto_region 5 with (fail)
    obtain ⟨w4, hw4⟩ : ∃ W, w3.setCell ⟨h, 0, none⟩ (.int .i64 mn) = W := ⟨_, rfl⟩
    rw [hw4]
    have bb4 : Below w.heap.size w (w3.setCell ⟨h, 0, none⟩ (.int .i64 mn)) := H_bb3.out.setCell (by simp; omega) _
    have r4 := H_r3.out.set 0 (.int .i64 mn) (by simp)
    simp only [List.setIfInBounds_toArray, List.set_cons_zero] at r4
    have o4 := H_o3.out.far (o := 0) hg (.int .i64 mn)
    have k4 := H_k3.out.far (o := 0) kh (.int .i64 mn)
    rw [hw4] at bb4 o4 r4 k4
    clear yo0 yo1
    clear fo0 fo1
    clear yr0 yr1
    clear fr0 fr1
    have i4 := H_hl.out.below bb4
    clear mg mh ly
    have ly := (k4 0 _ rfl).lt
    have H_hw4 := Lib.hid hw4; clear hw4; have H_bb4 := Lib.hid bb4; clear bb4; have H_k4 := Lib.hid k4; clear k4; have H_o4 := Lib.hid o4; clear o4; have H_r4 := Lib.hid r4; clear r4; have H_i4 := Lib.hid i4; clear i4
    have y0 := (H_k4.out 0 _ rfl).at
    have y1 := (H_k4.out 1 _ rfl).at
    go_wp2_with fail
    (with_reducible refine (H_qa.out _).mono ?_)
    rintro e w_ ⟨rfl, hw_⟩
    subst hw_
    go_wp2_with fail
    (with_reducible refine (H_q1.out _ ?_).mono ?_)
    · exact H_i4.out.below (show Below w4.heap.size w4 _ by (repeat (first | with_reducible exact Below.refl _ _ | with_reducible exact Nat.le_refl _ | with_reducible assumption | with_reducible refine Below.drew ?_ | with_reducible refine below_drewN ?_ _ | with_reducible refine Below.alloc ?_ ?_ _ | with_reducible refine Below.setCell ?_ ?_ _ | with_reducible exact And.right (by assumption) | with_reducible refine Below.trans ?_ (Below.mono (by assumption) ?_) | with_reducible exact Below.size (And.right (by assumption)) | (focus omega) | (focus (simp; done)) | (focus (simp; omega)) | (focus (simp at *; omega)))))
    rintro e w5 ⟨rfl, b5⟩
    have c5 : Below w4.heap.size w4 w5 := Below.trans (by (repeat (first | with_reducible exact Below.refl _ _ | with_reducible exact Nat.le_refl _ | with_reducible assumption | with_reducible refine Below.drew ?_ | with_reducible refine below_drewN ?_ _ | with_reducible refine Below.alloc ?_ ?_ _ | with_reducible refine Below.setCell ?_ ?_ _ | with_reducible exact And.right (by assumption) | with_reducible refine Below.trans ?_ (Below.mono (by assumption) ?_) | with_reducible exact Below.size (And.right (by assumption)) | (focus omega) | (focus (simp; done)) | (focus (simp; omega)) | (focus (simp at *; omega))))) (b5.mono (by first | exact Nat.le_refl _ | omega | (simp; done) | (simp; omega)))
    have s5 := c5.size
    have bb5 := H_bb4.out.trans (c5.mono H_bb4.out.size)
    have k5 := H_k4.out.below c5
    have i5 := H_i4.out.below c5
    have o5 := H_o4.out.below c5
    have r5 := H_r4.out.below c5
    have H_b5 := Lib.hid b5; clear b5; have H_c5 := Lib.hid c5; clear c5; have H_bb5 := Lib.hid bb5; clear bb5; have H_k5 := Lib.hid k5; clear k5; have H_i5 := Lib.hid i5; clear i5; have H_o5 := Lib.hid o5; clear o5; have H_r5 := Lib.hid r5; clear r5
    clear y0 y1
    clear ly
    have lo := (H_o5.out 0 _ rfl).lt
    have yo0 := (H_o5.out 0 _ rfl).at
    have yo1 := (H_o5.out 1 _ rfl).at
    go_wp2_with fail
    (with_reducible refine (H_q2.out _ ?_).mono ?_)
    · exact H_i5.out.below (show Below w5.heap.size w5 _ by (repeat (first | with_reducible exact Below.refl _ _ | with_reducible exact Nat.le_refl _ | with_reducible assumption | with_reducible refine Below.drew ?_ | with_reducible refine below_drewN ?_ _ | with_reducible refine Below.alloc ?_ ?_ _ | with_reducible refine Below.setCell ?_ ?_ _ | with_reducible exact And.right (by assumption) | with_reducible refine Below.trans ?_ (Below.mono (by assumption) ?_) | with_reducible exact Below.size (And.right (by assumption)) | (focus omega) | (focus (simp; done)) | (focus (simp; omega)) | (focus (simp at *; omega)))))
    rintro e w6 ⟨rfl, b6⟩
    have c6 : Below w5.heap.size w5 w6 := Below.trans (by (repeat (first | with_reducible exact Below.refl _ _ | with_reducible exact Nat.le_refl _ | with_reducible assumption | with_reducible refine Below.drew ?_ | with_reducible refine below_drewN ?_ _ | with_reducible refine Below.alloc ?_ ?_ _ | with_reducible refine Below.setCell ?_ ?_ _ | with_reducible exact And.right (by assumption) | with_reducible refine Below.trans ?_ (Below.mono (by assumption) ?_) | with_reducible exact Below.size (And.right (by assumption)) | (focus omega) | (focus (simp; done)) | (focus (simp; omega)) | (focus (simp at *; omega))))) (b6.mono (by first | exact Nat.le_refl _ | omega | (simp; done) | (simp; omega)))
    have s6 := c6.size
    have bb6 := H_bb5.out.trans (c6.mono H_bb5.out.size)
    have k6 := H_k5.out.below c6
    have i6 := H_i5.out.below c6
    have o6 := H_o5.out.below c6
    have r6 := H_r5.out.below c6
    have H_b6 := Lib.hid b6; clear b6; have H_c6 := Lib.hid c6; clear c6; have H_bb6 := Lib.hid bb6; clear bb6; have H_k6 := Lib.hid k6; clear k6; have H_i6 := Lib.hid i6; clear i6; have H_o6 := Lib.hid o6; clear o6; have H_r6 := Lib.hid r6; clear r6
    have u6 : Blk w6 w5.heap.size #[.int .i64 M1, .int .i64 C1] := (blk_new rfl).below H_b6.out
    clear yo0 yo1
    clear lo
    have lr := (H_r6.out 0 _ rfl).lt
    have H_u6 := Lib.hid u6; clear u6
    have yr0 := (H_r6.out 0 _ rfl).at
    have yr1 := (H_r6.out 1 _ rfl).at
    go_wp2_with fail
    (with_reducible refine (H_q3.out _ ?_).mono ?_)
    · exact H_i6.out.below (show Below w6.heap.size w6 _ by (repeat (first | with_reducible exact Below.refl _ _ | with_reducible exact Nat.le_refl _ | with_reducible assumption | with_reducible refine Below.drew ?_ | with_reducible refine below_drewN ?_ _ | with_reducible refine Below.alloc ?_ ?_ _ | with_reducible refine Below.setCell ?_ ?_ _ | with_reducible exact And.right (by assumption) | with_reducible refine Below.trans ?_ (Below.mono (by assumption) ?_) | with_reducible exact Below.size (And.right (by assumption)) | (focus omega) | (focus (simp; done)) | (focus (simp; omega)) | (focus (simp at *; omega)))))
    rintro e w7 ⟨rfl, b7⟩
    have c7 : Below w6.heap.size w6 w7 := Below.trans (by (repeat (first | with_reducible exact Below.refl _ _ | with_reducible exact Nat.le_refl _ | with_reducible assumption | with_reducible refine Below.drew ?_ | with_reducible refine below_drewN ?_ _ | with_reducible refine Below.alloc ?_ ?_ _ | with_reducible refine Below.setCell ?_ ?_ _ | with_reducible exact And.right (by assumption) | with_reducible refine Below.trans ?_ (Below.mono (by assumption) ?_) | with_reducible exact Below.size (And.right (by assumption)) | (focus omega) | (focus (simp; done)) | (focus (simp; omega)) | (focus (simp at *; omega))))) (b7.mono (by first | exact Nat.le_refl _ | omega | (simp; done) | (simp; omega)))
    have s7 := c7.size
    have bb7 := H_bb6.out.trans (c7.mono H_bb6.out.size)
    have k7 := H_k6.out.below c7
    have i7 := H_i6.out.below c7
    have o7 := H_o6.out.below c7
    have r7 := H_r6.out.below c7
    have u7 := H_u6.out.below c7
    have H_b7 := Lib.hid b7; clear b7; have H_c7 := Lib.hid c7; clear c7; have H_bb7 := Lib.hid bb7; clear bb7; have H_k7 := Lib.hid k7; clear k7; have H_i7 := Lib.hid i7; clear i7; have H_o7 := Lib.hid o7; clear o7; have H_r7 := Lib.hid r7; clear r7; have H_u7 := Lib.hid u7; clear u7
    have v7 : Blk w7 w6.heap.size #[.int .i64 M2, .int .i64 C2] := (blk_new rfl).below H_b7.out
    clear yr0 yr1
    clear lr
    go_upto_region 10 with (fail)
    obtain ⟨w8, hw8⟩ : ∃ W, w7.alloc (.cells #[.int .i64 M3, .int .i64 C1] 24) = W := ⟨_, rfl⟩
    rw [hw8]
    have c8 : Below w7.heap.size w7 w8 := by rw [← hw8]; exact (Below.refl _ _).alloc (Nat.le_refl _) _
    have z8 : Blk w8 w7.heap.size #[.int .i64 M3, .int .i64 C1] := by rw [← hw8]; exact blk_new rfl
    have bb8 := H_bb7.out.trans (c8.mono H_bb7.out.size)
    have u8 := H_u7.out.below c8
    have v8 := v7.below c8
    have o8 := H_o7.out.below c8
    have lu := (u8 0 _ rfl).lt
    have lv := (v8 0 _ rfl).lt
    have lo := (o8 0 _ rfl).lt
    have lz := (z8 0 _ rfl).lt
    have H_hw8 := Lib.hid hw8; clear hw8; have H_c8 := Lib.hid c8; clear c8; have H_z8 := Lib.hid z8; clear z8; have H_bb8 := Lib.hid bb8; clear bb8; have H_u8 := Lib.hid u8; clear u8; have H_v7 := Lib.hid v7; clear v7; have H_v8 := Lib.hid v8; clear v8; have H_o8 := Lib.hid o8; clear o8
    have yu0 := (H_u8.out 0 _ rfl).at
    have yu1 := (H_u8.out 1 _ rfl).at
    have yv0 := (H_v8.out 0 _ rfl).at
    have yv1 := (H_v8.out 1 _ rfl).at
    have yz0 := (H_z8.out 0 _ rfl).at
    have yz1 := (H_z8.out 1 _ rfl).at
    have yo0 := (H_o8.out 0 _ rfl).at
    have yo1 := (H_o8.out 1 _ rfl).at
    go_wp2_with fail
    (with_reducible refine (H_qp.out _).mono ?_)
    rintro e w_ ⟨rfl, hw_⟩
    subst hw_
    go_wp2_with fail
    go_ret
    exact ⟨rfl, H_bb8.out⟩
  · have H_hw0 := Lib.hid hw0; clear hw0; have H_bb0 := Lib.hid bb0; clear bb0; have H_k0 := Lib.hid k0; clear k0; have H_t0 := Lib.hid t0; clear t0; have H_i0 := Lib.hid i0; clear i0; have H_qh := Lib.hid qh; clear qh; have H_qa := Lib.hid qa; clear qa; have H_hl := Lib.hid hl; clear hl; have H_ht := Lib.hid ht; clear ht; have H_hln := Lib.hid hln; clear hln; have H_ha := Lib.hid ha; clear ha; have H_hca := Lib.hid hca; clear hca; have H_q1 := Lib.hid q1; clear q1; have H_q2 := Lib.hid q2; clear q2; have H_q3 := Lib.hid q3; clear q3; have H_qp := Lib.hid qp; clear qp; have H_ng2 := Lib.hid ng2; clear ng2; have H_mo := Lib.hid mo; clear mo; have H_hV := Lib.hid hV; clear hV; have H_c1 := Lib.hid c1; clear c1; have H_c3 := Lib.hid c3; clear c3; have H_emp := Lib.hid emp; clear emp; have H_emn := Lib.hid emn; clear emn; have H_eM := Lib.hid eM; clear eM
    go_enter Tryd.func5, Tryd.ntmps5
    go_upto_region 1 with (fail)
    rw [H_hw0.out]
    go_wp2_with fail
    (with_reducible refine (H_qh.out).mono ?_)
    rintro e w1 ⟨rfl, b1⟩
    have c1 : Below w0.heap.size w0 w1 := Below.trans (by (repeat (first | with_reducible exact Below.refl _ _ | with_reducible exact Nat.le_refl _ | with_reducible assumption | with_reducible refine Below.drew ?_ | with_reducible refine below_drewN ?_ _ | with_reducible refine Below.alloc ?_ ?_ _ | with_reducible refine Below.setCell ?_ ?_ _ | with_reducible exact And.right (by assumption) | with_reducible refine Below.trans ?_ (Below.mono (by assumption) ?_) | with_reducible exact Below.size (And.right (by assumption)) | (focus omega) | (focus (simp; done)) | (focus (simp; omega)) | (focus (simp at *; omega))))) (b1.mono (by first | exact Nat.le_refl _ | omega | (simp; done) | (simp; omega)))
    have s1 := c1.size
    have bb1 := H_bb0.out.trans (c1.mono H_bb0.out.size)
    have k1 := H_k0.out.below c1
    have i1 := H_i0.out.below c1
    have H_b1 := Lib.hid b1; clear b1; have H_c1 := Lib.hid c1; clear c1; have H_bb1 := Lib.hid bb1; clear bb1; have H_k1 := Lib.hid k1; clear k1; have H_i1 := Lib.hid i1; clear i1
    have y0 := (H_k1.out 0 _ rfl).at
    have y1 := (H_k1.out 1 _ rfl).at
    have ly := (H_k1.out 0 _ rfl).lt
    go_upto_region 2 with (fail)
    go_cut [10, 11] from 19 to 20 (fun p1 q1 wx => ∃ g h, p1 = .pointer (some ⟨g, 0, none⟩) ∧ q1 = .pointer (some ⟨h, 0, none⟩) ∧ Two w1 wx g h #[.int .i64 m, .int .i64 c] #[.int .i64 m, .int .i64 c])
    case first =>
      go_region
      all_goals
        go_wp2_with fail
        go_meet
        case rel => first | exact ⟨_, _, rfl, rfl, (two_nn (Below.refl _ _)).drew⟩ | exact ⟨_, _, rfl, rfl, (two_nn' (Below.refl _ _)).drew⟩
    case rest =>
    obtain ⟨g, h, rfl, rfl, ⟨lg, lh, hgh⟩, o2, r2, c2⟩ := hcut
    obtain ⟨w2, hw2⟩ : ∃ W, wc = W := ⟨_, rfl⟩
    rw [hw2] at o2 r2 c2 ⊢
    have bb2 := H_bb1.out.trans (c2.mono H_bb1.out.size)
    have k2 := H_k1.out.below c2
    have mg := (o2 0 _ rfl).lt
    have mh := (r2 0 _ rfl).lt
    have kg : g ≠ w.heap.size := by omega
    have kh : h ≠ w.heap.size := by omega
    have hg : h ≠ g := fun e => hgh e.symm
    clear y0 y1
    have zy := ly
    clear ly
    have ly := (k2 0 _ rfl).lt
    have H_hw2 := Lib.hid hw2; clear hw2; have H_bb2 := Lib.hid bb2; clear bb2; have H_k2 := Lib.hid k2; clear k2; have H_o2 := Lib.hid o2; clear o2; have H_r2 := Lib.hid r2; clear r2; have H_c2 := Lib.hid c2; clear c2
    have yo0 := (H_o2.out 0 _ rfl).at
    have yo1 := (H_o2.out 1 _ rfl).at
    have fo0 := (H_o2.out 0 _ rfl).free
    have fo1 := (H_o2.out 1 _ rfl).free
    have yr0 := (H_r2.out 0 _ rfl).at
    have yr1 := (H_r2.out 1 _ rfl).at
    have fr0 := (H_r2.out 0 _ rfl).free
    have fr1 := (H_r2.out 1 _ rfl).free
    go_upto_region 4 with (fail)
    obtain ⟨w3, hw3⟩ : ∃ W, w2.setCell ⟨g, 0, none⟩ (.int .i64 mp) = W := ⟨_, rfl⟩
    rw [hw3]
    have bb3 : Below w.heap.size w (w2.setCell ⟨g, 0, none⟩ (.int .i64 mp)) := H_bb2.out.setCell (by simp; omega) _
    have o3 := H_o2.out.set 0 (.int .i64 mp) (by simp)
    simp only [List.setIfInBounds_toArray, List.set_cons_zero] at o3
    have r3 := H_r2.out.far (o := 0) hgh (.int .i64 mp)
    have k3 := H_k2.out.far (o := 0) kg (.int .i64 mp)
    rw [hw3] at bb3 o3 r3 k3
    clear yo0 yo1
    clear fo0 fo1
    clear yr0 yr1
    clear fr0 fr1
    have mg := (o3 0 _ rfl).lt
    have mh := (r3 0 _ rfl).lt
    have ly := (k3 0 _ rfl).lt
    have H_hw3 := Lib.hid hw3; clear hw3; have H_bb3 := Lib.hid bb3; clear bb3; have H_k3 := Lib.hid k3; clear k3; have H_o3 := Lib.hid o3; clear o3; have H_r3 := Lib.hid r3; clear r3
    have yo0 := (H_o3.out 0 _ rfl).at
    have yo1 := (H_o3.out 1 _ rfl).at
    have fo0 := (H_o3.out 0 _ rfl).free
    have fo1 := (H_o3.out 1 _ rfl).free
    have yr0 := (H_r3.out 0 _ rfl).at
    have yr1 := (H_r3.out 1 _ rfl).at
    have fr0 := (H_r3.out 0 _ rfl).free
    have fr1 := (H_r3.out 1 _ rfl).free
    go_upto_region 5 with (fail)
    obtain ⟨w4, hw4⟩ : ∃ W, w3.setCell ⟨h, 0, none⟩ (.int .i64 mn) = W := ⟨_, rfl⟩
    rw [hw4]
    have bb4 : Below w.heap.size w (w3.setCell ⟨h, 0, none⟩ (.int .i64 mn)) := H_bb3.out.setCell (by simp; omega) _
    have r4 := H_r3.out.set 0 (.int .i64 mn) (by simp)
    simp only [List.setIfInBounds_toArray, List.set_cons_zero] at r4
    have o4 := H_o3.out.far (o := 0) hg (.int .i64 mn)
    have k4 := H_k3.out.far (o := 0) kh (.int .i64 mn)
    rw [hw4] at bb4 o4 r4 k4
    clear yo0 yo1
    clear fo0 fo1
    clear yr0 yr1
    clear fr0 fr1
    have i4 := H_hl.out.below bb4
    clear mg mh ly
    have ly := (k4 0 _ rfl).lt
    have H_hw4 := Lib.hid hw4; clear hw4; have H_bb4 := Lib.hid bb4; clear bb4; have H_k4 := Lib.hid k4; clear k4; have H_o4 := Lib.hid o4; clear o4; have H_r4 := Lib.hid r4; clear r4; have H_i4 := Lib.hid i4; clear i4
    have y0 := (H_k4.out 0 _ rfl).at
    have y1 := (H_k4.out 1 _ rfl).at
    go_wp2_with fail
    (with_reducible refine (H_qa.out _).mono ?_)
    rintro e w_ ⟨rfl, hw_⟩
    subst hw_
    go_wp2_with fail
    (with_reducible refine (H_q1.out _ ?_).mono ?_)
    · exact H_i4.out.below (show Below w4.heap.size w4 _ by (repeat (first | with_reducible exact Below.refl _ _ | with_reducible exact Nat.le_refl _ | with_reducible assumption | with_reducible refine Below.drew ?_ | with_reducible refine below_drewN ?_ _ | with_reducible refine Below.alloc ?_ ?_ _ | with_reducible refine Below.setCell ?_ ?_ _ | with_reducible exact And.right (by assumption) | with_reducible refine Below.trans ?_ (Below.mono (by assumption) ?_) | with_reducible exact Below.size (And.right (by assumption)) | (focus omega) | (focus (simp; done)) | (focus (simp; omega)) | (focus (simp at *; omega)))))
    rintro e w5 ⟨rfl, b5⟩
    have c5 : Below w4.heap.size w4 w5 := Below.trans (by (repeat (first | with_reducible exact Below.refl _ _ | with_reducible exact Nat.le_refl _ | with_reducible assumption | with_reducible refine Below.drew ?_ | with_reducible refine below_drewN ?_ _ | with_reducible refine Below.alloc ?_ ?_ _ | with_reducible refine Below.setCell ?_ ?_ _ | with_reducible exact And.right (by assumption) | with_reducible refine Below.trans ?_ (Below.mono (by assumption) ?_) | with_reducible exact Below.size (And.right (by assumption)) | (focus omega) | (focus (simp; done)) | (focus (simp; omega)) | (focus (simp at *; omega))))) (b5.mono (by first | exact Nat.le_refl _ | omega | (simp; done) | (simp; omega)))
    have s5 := c5.size
    have bb5 := H_bb4.out.trans (c5.mono H_bb4.out.size)
    have k5 := H_k4.out.below c5
    have i5 := H_i4.out.below c5
    have o5 := H_o4.out.below c5
    have r5 := H_r4.out.below c5
    have H_b5 := Lib.hid b5; clear b5; have H_c5 := Lib.hid c5; clear c5; have H_bb5 := Lib.hid bb5; clear bb5; have H_k5 := Lib.hid k5; clear k5; have H_i5 := Lib.hid i5; clear i5; have H_o5 := Lib.hid o5; clear o5; have H_r5 := Lib.hid r5; clear r5
    clear y0 y1
    clear ly
    have lo := (H_o5.out 0 _ rfl).lt
    have yo0 := (H_o5.out 0 _ rfl).at
    have yo1 := (H_o5.out 1 _ rfl).at
    go_wp2_with fail
    (with_reducible refine (H_q2.out _ ?_).mono ?_)
    · exact H_i5.out.below (show Below w5.heap.size w5 _ by (repeat (first | with_reducible exact Below.refl _ _ | with_reducible exact Nat.le_refl _ | with_reducible assumption | with_reducible refine Below.drew ?_ | with_reducible refine below_drewN ?_ _ | with_reducible refine Below.alloc ?_ ?_ _ | with_reducible refine Below.setCell ?_ ?_ _ | with_reducible exact And.right (by assumption) | with_reducible refine Below.trans ?_ (Below.mono (by assumption) ?_) | with_reducible exact Below.size (And.right (by assumption)) | (focus omega) | (focus (simp; done)) | (focus (simp; omega)) | (focus (simp at *; omega)))))
    rintro e w6 ⟨rfl, b6⟩
    have c6 : Below w5.heap.size w5 w6 := Below.trans (by (repeat (first | with_reducible exact Below.refl _ _ | with_reducible exact Nat.le_refl _ | with_reducible assumption | with_reducible refine Below.drew ?_ | with_reducible refine below_drewN ?_ _ | with_reducible refine Below.alloc ?_ ?_ _ | with_reducible refine Below.setCell ?_ ?_ _ | with_reducible exact And.right (by assumption) | with_reducible refine Below.trans ?_ (Below.mono (by assumption) ?_) | with_reducible exact Below.size (And.right (by assumption)) | (focus omega) | (focus (simp; done)) | (focus (simp; omega)) | (focus (simp at *; omega))))) (b6.mono (by first | exact Nat.le_refl _ | omega | (simp; done) | (simp; omega)))
    have s6 := c6.size
    have bb6 := H_bb5.out.trans (c6.mono H_bb5.out.size)
    have k6 := H_k5.out.below c6
    have i6 := H_i5.out.below c6
    have o6 := H_o5.out.below c6
    have r6 := H_r5.out.below c6
    have H_b6 := Lib.hid b6; clear b6; have H_c6 := Lib.hid c6; clear c6; have H_bb6 := Lib.hid bb6; clear bb6; have H_k6 := Lib.hid k6; clear k6; have H_i6 := Lib.hid i6; clear i6; have H_o6 := Lib.hid o6; clear o6; have H_r6 := Lib.hid r6; clear r6
    have u6 : Blk w6 w5.heap.size #[.int .i64 M1, .int .i64 C1] := (blk_new rfl).below H_b6.out
    clear yo0 yo1
    clear lo
    have lr := (H_r6.out 0 _ rfl).lt
    have H_u6 := Lib.hid u6; clear u6
    have yr0 := (H_r6.out 0 _ rfl).at
    have yr1 := (H_r6.out 1 _ rfl).at
    go_wp2_with fail
    (with_reducible refine (H_q3.out _ ?_).mono ?_)
    · exact H_i6.out.below (show Below w6.heap.size w6 _ by (repeat (first | with_reducible exact Below.refl _ _ | with_reducible exact Nat.le_refl _ | with_reducible assumption | with_reducible refine Below.drew ?_ | with_reducible refine below_drewN ?_ _ | with_reducible refine Below.alloc ?_ ?_ _ | with_reducible refine Below.setCell ?_ ?_ _ | with_reducible exact And.right (by assumption) | with_reducible refine Below.trans ?_ (Below.mono (by assumption) ?_) | with_reducible exact Below.size (And.right (by assumption)) | (focus omega) | (focus (simp; done)) | (focus (simp; omega)) | (focus (simp at *; omega)))))
    rintro e w7 ⟨rfl, b7⟩
    have c7 : Below w6.heap.size w6 w7 := Below.trans (by (repeat (first | with_reducible exact Below.refl _ _ | with_reducible exact Nat.le_refl _ | with_reducible assumption | with_reducible refine Below.drew ?_ | with_reducible refine below_drewN ?_ _ | with_reducible refine Below.alloc ?_ ?_ _ | with_reducible refine Below.setCell ?_ ?_ _ | with_reducible exact And.right (by assumption) | with_reducible refine Below.trans ?_ (Below.mono (by assumption) ?_) | with_reducible exact Below.size (And.right (by assumption)) | (focus omega) | (focus (simp; done)) | (focus (simp; omega)) | (focus (simp at *; omega))))) (b7.mono (by first | exact Nat.le_refl _ | omega | (simp; done) | (simp; omega)))
    have s7 := c7.size
    have bb7 := H_bb6.out.trans (c7.mono H_bb6.out.size)
    have k7 := H_k6.out.below c7
    have i7 := H_i6.out.below c7
    have o7 := H_o6.out.below c7
    have r7 := H_r6.out.below c7
    have u7 := H_u6.out.below c7
    have H_b7 := Lib.hid b7; clear b7; have H_c7 := Lib.hid c7; clear c7; have H_bb7 := Lib.hid bb7; clear bb7; have H_k7 := Lib.hid k7; clear k7; have H_i7 := Lib.hid i7; clear i7; have H_o7 := Lib.hid o7; clear o7; have H_r7 := Lib.hid r7; clear r7; have H_u7 := Lib.hid u7; clear u7
    have v7 : Blk w7 w6.heap.size #[.int .i64 M2, .int .i64 C2] := (blk_new rfl).below H_b7.out
    clear yr0 yr1
    clear lr
    go_upto_region 10 with (fail)
    obtain ⟨w8, hw8⟩ : ∃ W, w7.alloc (.cells #[.int .i64 M3, .int .i64 C1] 24) = W := ⟨_, rfl⟩
    rw [hw8]
    have c8 : Below w7.heap.size w7 w8 := by rw [← hw8]; exact (Below.refl _ _).alloc (Nat.le_refl _) _
    have z8 : Blk w8 w7.heap.size #[.int .i64 M3, .int .i64 C1] := by rw [← hw8]; exact blk_new rfl
    have bb8 := H_bb7.out.trans (c8.mono H_bb7.out.size)
    have u8 := H_u7.out.below c8
    have v8 := v7.below c8
    have o8 := H_o7.out.below c8
    have lu := (u8 0 _ rfl).lt
    have lv := (v8 0 _ rfl).lt
    have lo := (o8 0 _ rfl).lt
    have lz := (z8 0 _ rfl).lt
    have H_hw8 := Lib.hid hw8; clear hw8; have H_c8 := Lib.hid c8; clear c8; have H_z8 := Lib.hid z8; clear z8; have H_bb8 := Lib.hid bb8; clear bb8; have H_u8 := Lib.hid u8; clear u8; have H_v7 := Lib.hid v7; clear v7; have H_v8 := Lib.hid v8; clear v8; have H_o8 := Lib.hid o8; clear o8
    have yu0 := (H_u8.out 0 _ rfl).at
    have yu1 := (H_u8.out 1 _ rfl).at
    have yv0 := (H_v8.out 0 _ rfl).at
    have yv1 := (H_v8.out 1 _ rfl).at
    have yz0 := (H_z8.out 0 _ rfl).at
    have yz1 := (H_z8.out 1 _ rfl).at
    have yo0 := (H_o8.out 0 _ rfl).at
    have yo1 := (H_o8.out 1 _ rfl).at
    go_wp2_with fail
    go_ret
    exact ⟨rfl, H_bb8.out⟩
end Go.Proofs.YtaloadadecoogaaDoor

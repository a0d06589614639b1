/- The walk of MoneyTexts. -/
import Derived.Test.YtaloadadecoogaaDoorMnY
import Derived.Test.YtaloadadecoogaaDoorOpnM
namespace Go.Proofs.YtaloadadecoogaaDoor
set_option linter.unusedSimpArgs false
set_option linter.unusedVariables false
set_option maxRecDepth 100000
open Go.RowKit Go.Maps

theorem wf_1 {n : Int} (h : (Lit.int .i64 n).wf = true) : -9223372036854775808 ≤ n ∧ n ≤ 9223372036854775807 := wf_i64 h
theorem tS_size (n : Int) : (tS n).size ≤ 100 := by
  unfold tS
  split
  · rename_i h
    have hb := amtB_iff.1 h
    have e : (mS n).size = (mT n).length := by rw [mS]; exact List.size_toArray
    have l1 : (Lib.decDigits (n.natAbs / 100)).length ≤ 21 := by
      have := dec_len ((n.natAbs / 100 : Nat) : Int) (by omega)
      rw [decB, List.length_map, Lib.itoa, if_neg (by omega), Int.toNat_natCast] at this; exact this
    rw [e, mT, List.length_append, List.length_append]
    split <;> simp <;> omega
  · exact Nat.zero_le _
theorem tE_ok {n : Int} (h : amtB n = true) : tE n = 0 := by rw [tE, if_pos h]
theorem parse_text {a : Int} (ha : amtB a = true) : psE (tS a) = 0 ∧ psR (tS a) = a := by
  have e1 : tS a = mS a := by rw [tS, if_pos ha]
  have e2 : psN (mS a) = a := psV_text (amtB_iff.1 ha)
  have e3 : amtB (psN (mS a)) = true ∧ mS (psN (mS a)) = mS a := ⟨by rw [e2]; exact ha, by rw [e2]⟩
  rw [e1]
  exact ⟨by rw [psE, if_pos e3], by rw [psR, if_pos e3, e2]⟩
theorem text_ne {a b : Int} (ha : amtB a = true) (hb : amtB b = true) (h : a ≠ b) : ((tS a).toList == (tS b).toList) = false := by
  rw [beq_eq_false_iff_ne, Lib.toList_data, Lib.toList_data, tS, tS, if_pos ha, if_pos hb]
  intro e
  exact h (mS_inj (amtB_iff.1 ha) (amtB_iff.1 hb) (ByteArray.ext (Array.toList_inj.1 e)))
theorem ps_two (s : ByteArray) : (psE s = 0 ∧ psR s = psN s ∧ tE (psN s) = 0 ∧ tS (psN s) = s) ∨ (psE s = 7 ∧ psR s = 0) := by
  rcases ps_ways s with ⟨_, h1, h2⟩ | ⟨h1, h2, h3, h4⟩ | ⟨_, _, h1, h2⟩
  · exact .inr ⟨h2, h1⟩
  · exact .inl ⟨h4, h3, h1, h2⟩
  · exact .inr ⟨h2, h1⟩
set_option maxRecDepth 100000 in
set_option maxHeartbeats 16000000 in
theorem moneyTexts_walk (a b : Int) (s : ByteArray) (w : World) (ha : (Lit.int .i64 a).wf = true) (hb : (Lit.int .i64 b).wf = true) (_ : s.size ≤ maxLen) (ht : Tab w) :
    Calls Tryd.prog 8 #[.int .i64 a, .int .i64 b, .string s] w fun e w' => e = .returned (.bool true) ∧ Below w.heap.size w w' := by
  have hA := wf_1 ha
  have hB := wf_1 hb
  have qh := head06_any w ht
  have bb0 := Below.refl w.heap.size w
  have t0 := ht
  obtain ⟨w0, hw0⟩ : ∃ W, W = w := ⟨w, rfl⟩
  by_cases hs : 100 < s.size
  · have i1 : decide ((100 : Int) < (s.size : Int)) = true := decide_eq_true (by omega)
    have H_qh := Lib.hid qh; clear qh
    go_enter Tryd.func8, Tryd.ntmps8
    go_wp2_with fail
    (with_reducible refine (H_qh.out).mono ?_)
    rintro e w1 ⟨rfl, bb1⟩
    have H_bb1 := Lib.hid bb1; clear bb1
    go_wp2_with fail
    go_ret
    exact ⟨rfl, H_bb1.out⟩
  have i1 : decide ((100 : Int) < (s.size : Int)) = false := decide_eq_false (by omega)
  have q1 := fun W h => mparse_any s (by omega) W h
  have qa := fun W => ramount_any a W
  have qb := fun W => ramount_any b W
  clear hw0 w0
  rcases ps_two s with ⟨p1, p2, p3, p4⟩ | ⟨p1, p2⟩
  · rw [p1, p2] at q1
    have nb := psN_bound s
    have q2 := fun W h => mtext_any (psN s) (by omega) W h
    rw [p3, p4] at q2
    generalize psN s = N at *
    clear nb
    cases hA1 : amtB a with
    | false =>
      rw [hA1] at qa
      have H_qh := Lib.hid qh; clear qh; have H_q1 := Lib.hid q1; clear q1; have H_qa := Lib.hid qa; clear qa; have H_qb := Lib.hid qb; clear qb; have H_t0 := Lib.hid t0; clear t0; have H_bb0 := Lib.hid bb0; clear bb0; have H_p1 := Lib.hid p1; clear p1; have H_p2 := Lib.hid p2; clear p2; have H_q2 := Lib.hid q2; clear q2; have H_p3 := Lib.hid p3; clear p3; have H_p4 := Lib.hid p4; clear p4; have H_hA1 := Lib.hid hA1; clear hA1
      go_enter Tryd.func8, Tryd.ntmps8
      go_wp2_with fail
      (with_reducible refine (H_qh.out).mono ?_)
      rintro e w1 ⟨rfl, bb1⟩
      have t1 := H_t0.out.below bb1
      have H_bb1 := Lib.hid bb1; clear bb1; have H_t1 := Lib.hid t1; clear t1
      go_wp2_with fail
      (with_reducible refine (H_q1.out _ ?_).mono ?_)
      · exact H_t1.out.below (show Below w1.heap.size w1 _ by (repeat (first | with_reducible exact Below.refl _ _ | with_reducible exact Nat.le_refl _ | with_reducible assumption | with_reducible refine Below.drew ?_ | with_reducible refine below_drewN ?_ _ | with_reducible refine Below.alloc ?_ ?_ _ | with_reducible refine Below.setCell ?_ ?_ _ | with_reducible exact And.right (by assumption) | with_reducible refine Below.trans ?_ (Below.mono (by assumption) ?_) | with_reducible exact Below.size (And.right (by assumption)) | (focus omega) | (focus (simp; done)) | (focus (simp; omega)) | (focus (simp at *; omega)))))
      rintro e w2 ⟨rfl, b2⟩
      have c2 : Below w1.heap.size w1 w2 := Below.trans (by (repeat (first | with_reducible exact Below.refl _ _ | with_reducible exact Nat.le_refl _ | with_reducible assumption | with_reducible refine Below.drew ?_ | with_reducible refine below_drewN ?_ _ | with_reducible refine Below.alloc ?_ ?_ _ | with_reducible refine Below.setCell ?_ ?_ _ | with_reducible exact And.right (by assumption) | with_reducible refine Below.trans ?_ (Below.mono (by assumption) ?_) | with_reducible exact Below.size (And.right (by assumption)) | (focus omega) | (focus (simp; done)) | (focus (simp; omega)) | (focus (simp at *; omega))))) (b2.mono (by first | exact Nat.le_refl _ | omega | (simp; done) | (simp; omega)))
      have s2 := c2.size
      have bb2 := H_bb1.out.trans (c2.mono H_bb1.out.size)
      have t2 := H_t1.out.below c2
      have H_b2 := Lib.hid b2; clear b2; have H_c2 := Lib.hid c2; clear c2; have H_bb2 := Lib.hid bb2; clear bb2; have H_t2 := Lib.hid t2; clear t2
      go_wp2_with fail
      (with_reducible refine (H_q2.out _ ?_).mono ?_)
      · exact H_t2.out.below (show Below w2.heap.size w2 _ by (repeat (first | with_reducible exact Below.refl _ _ | with_reducible exact Nat.le_refl _ | with_reducible assumption | with_reducible refine Below.drew ?_ | with_reducible refine below_drewN ?_ _ | with_reducible refine Below.alloc ?_ ?_ _ | with_reducible refine Below.setCell ?_ ?_ _ | with_reducible exact And.right (by assumption) | with_reducible refine Below.trans ?_ (Below.mono (by assumption) ?_) | with_reducible exact Below.size (And.right (by assumption)) | (focus omega) | (focus (simp; done)) | (focus (simp; omega)) | (focus (simp at *; omega)))))
      rintro e w3 ⟨rfl, b3⟩
      have c3 : Below w2.heap.size w2 w3 := Below.trans (by (repeat (first | with_reducible exact Below.refl _ _ | with_reducible exact Nat.le_refl _ | with_reducible assumption | with_reducible refine Below.drew ?_ | with_reducible refine below_drewN ?_ _ | with_reducible refine Below.alloc ?_ ?_ _ | with_reducible refine Below.setCell ?_ ?_ _ | with_reducible exact And.right (by assumption) | with_reducible refine Below.trans ?_ (Below.mono (by assumption) ?_) | with_reducible exact Below.size (And.right (by assumption)) | (focus omega) | (focus (simp; done)) | (focus (simp; omega)) | (focus (simp at *; omega))))) (b3.mono (by first | exact Nat.le_refl _ | omega | (simp; done) | (simp; omega)))
      have s3 := c3.size
      have bb3 := H_bb2.out.trans (c3.mono H_bb2.out.size)
      have t3 := H_t2.out.below c3
      have H_b3 := Lib.hid b3; clear b3; have H_c3 := Lib.hid c3; clear c3; have H_bb3 := Lib.hid bb3; clear bb3; have H_t3 := Lib.hid t3; clear t3
      go_wp2_with fail
      (with_reducible refine (H_qa.out _).mono ?_)
      rintro e w_ ⟨rfl, hw_⟩
      subst hw_
      go_wp2_with fail
      go_ret
      exact ⟨rfl, H_bb3.out⟩
    | true =>
      rw [hA1] at qa
      cases hB1 : amtB b with
      | false =>
        rw [hB1] at qb
        have H_qh := Lib.hid qh; clear qh; have H_q1 := Lib.hid q1; clear q1; have H_qa := Lib.hid qa; clear qa; have H_qb := Lib.hid qb; clear qb; have H_t0 := Lib.hid t0; clear t0; have H_bb0 := Lib.hid bb0; clear bb0; have H_p1 := Lib.hid p1; clear p1; have H_p2 := Lib.hid p2; clear p2; have H_q2 := Lib.hid q2; clear q2; have H_p3 := Lib.hid p3; clear p3; have H_p4 := Lib.hid p4; clear p4; have H_hA1 := Lib.hid hA1; clear hA1; have H_hB1 := Lib.hid hB1; clear hB1
        go_enter Tryd.func8, Tryd.ntmps8
        go_wp2_with fail
        (with_reducible refine (H_qh.out).mono ?_)
        rintro e w1 ⟨rfl, bb1⟩
        have t1 := H_t0.out.below bb1
        have H_bb1 := Lib.hid bb1; clear bb1; have H_t1 := Lib.hid t1; clear t1
        go_wp2_with fail
        (with_reducible refine (H_q1.out _ ?_).mono ?_)
        · exact H_t1.out.below (show Below w1.heap.size w1 _ by (repeat (first | with_reducible exact Below.refl _ _ | with_reducible exact Nat.le_refl _ | with_reducible assumption | with_reducible refine Below.drew ?_ | with_reducible refine below_drewN ?_ _ | with_reducible refine Below.alloc ?_ ?_ _ | with_reducible refine Below.setCell ?_ ?_ _ | with_reducible exact And.right (by assumption) | with_reducible refine Below.trans ?_ (Below.mono (by assumption) ?_) | with_reducible exact Below.size (And.right (by assumption)) | (focus omega) | (focus (simp; done)) | (focus (simp; omega)) | (focus (simp at *; omega)))))
        rintro e w2 ⟨rfl, b2⟩
        have c2 : Below w1.heap.size w1 w2 := Below.trans (by (repeat (first | with_reducible exact Below.refl _ _ | with_reducible exact Nat.le_refl _ | with_reducible assumption | with_reducible refine Below.drew ?_ | with_reducible refine below_drewN ?_ _ | with_reducible refine Below.alloc ?_ ?_ _ | with_reducible refine Below.setCell ?_ ?_ _ | with_reducible exact And.right (by assumption) | with_reducible refine Below.trans ?_ (Below.mono (by assumption) ?_) | with_reducible exact Below.size (And.right (by assumption)) | (focus omega) | (focus (simp; done)) | (focus (simp; omega)) | (focus (simp at *; omega))))) (b2.mono (by first | exact Nat.le_refl _ | omega | (simp; done) | (simp; omega)))
        have s2 := c2.size
        have bb2 := H_bb1.out.trans (c2.mono H_bb1.out.size)
        have t2 := H_t1.out.below c2
        have H_b2 := Lib.hid b2; clear b2; have H_c2 := Lib.hid c2; clear c2; have H_bb2 := Lib.hid bb2; clear bb2; have H_t2 := Lib.hid t2; clear t2
        go_wp2_with fail
        (with_reducible refine (H_q2.out _ ?_).mono ?_)
        · exact H_t2.out.below (show Below w2.heap.size w2 _ by (repeat (first | with_reducible exact Below.refl _ _ | with_reducible exact Nat.le_refl _ | with_reducible assumption | with_reducible refine Below.drew ?_ | with_reducible refine below_drewN ?_ _ | with_reducible refine Below.alloc ?_ ?_ _ | with_reducible refine Below.setCell ?_ ?_ _ | with_reducible exact And.right (by assumption) | with_reducible refine Below.trans ?_ (Below.mono (by assumption) ?_) | with_reducible exact Below.size (And.right (by assumption)) | (focus omega) | (focus (simp; done)) | (focus (simp; omega)) | (focus (simp at *; omega)))))
        rintro e w3 ⟨rfl, b3⟩
        have c3 : Below w2.heap.size w2 w3 := Below.trans (by (repeat (first | with_reducible exact Below.refl _ _ | with_reducible exact Nat.le_refl _ | with_reducible assumption | with_reducible refine Below.drew ?_ | with_reducible refine below_drewN ?_ _ | with_reducible refine Below.alloc ?_ ?_ _ | with_reducible refine Below.setCell ?_ ?_ _ | with_reducible exact And.right (by assumption) | with_reducible refine Below.trans ?_ (Below.mono (by assumption) ?_) | with_reducible exact Below.size (And.right (by assumption)) | (focus omega) | (focus (simp; done)) | (focus (simp; omega)) | (focus (simp at *; omega))))) (b3.mono (by first | exact Nat.le_refl _ | omega | (simp; done) | (simp; omega)))
        have s3 := c3.size
        have bb3 := H_bb2.out.trans (c3.mono H_bb2.out.size)
        have t3 := H_t2.out.below c3
        have H_b3 := Lib.hid b3; clear b3; have H_c3 := Lib.hid c3; clear c3; have H_bb3 := Lib.hid bb3; clear bb3; have H_t3 := Lib.hid t3; clear t3
        go_wp2_with fail
        (with_reducible refine (H_qa.out _).mono ?_)
        rintro e w_ ⟨rfl, hw_⟩
        subst hw_
        go_wp2_with fail
        (with_reducible refine (H_qb.out _).mono ?_)
        rintro e w_ ⟨rfl, hw_⟩
        subst hw_
        go_wp2_with fail
        go_ret
        exact ⟨rfl, H_bb3.out⟩
      | true =>
        rw [hB1] at qb
        have q3 := fun W h => mtext_any a hA W h
        have q4 := fun W h => mtext_any b hB W h
        have q5 := fun W h => mparse_any (tS a) (by have := tS_size a; omega) W h
        rw [tE_ok hA1] at q3
        rw [tE_ok hB1] at q4
        rw [(parse_text hA1).1, (parse_text hA1).2] at q5
        by_cases hab : a = b
        · have i2 : (a == b) = true := by rw [beq_iff_eq]; exact hab
          have i3 : ((tS a).toList == (tS b).toList) = true := by rw [hab]; simp
          have i4 : tS a = tS b := by rw [hab]
          have H_qh := Lib.hid qh; clear qh; have H_q1 := Lib.hid q1; clear q1; have H_qa := Lib.hid qa; clear qa; have H_qb := Lib.hid qb; clear qb; have H_t0 := Lib.hid t0; clear t0; have H_bb0 := Lib.hid bb0; clear bb0; have H_p1 := Lib.hid p1; clear p1; have H_p2 := Lib.hid p2; clear p2; have H_q2 := Lib.hid q2; clear q2; have H_p3 := Lib.hid p3; clear p3; have H_p4 := Lib.hid p4; clear p4; have H_hA1 := Lib.hid hA1; clear hA1; have H_hB1 := Lib.hid hB1; clear hB1; have H_q3 := Lib.hid q3; clear q3; have H_q4 := Lib.hid q4; clear q4; have H_q5 := Lib.hid q5; clear q5; have H_hab := Lib.hid hab; clear hab; have H_i4 := Lib.hid i4; clear i4
          go_enter Tryd.func8, Tryd.ntmps8
          go_wp2_with fail
          (with_reducible refine (H_qh.out).mono ?_)
          rintro e w1 ⟨rfl, bb1⟩
          have t1 := H_t0.out.below bb1
          have H_bb1 := Lib.hid bb1; clear bb1; have H_t1 := Lib.hid t1; clear t1
          go_wp2_with fail
          (with_reducible refine (H_q1.out _ ?_).mono ?_)
          · exact H_t1.out.below (show Below w1.heap.size w1 _ by (repeat (first | with_reducible exact Below.refl _ _ | with_reducible exact Nat.le_refl _ | with_reducible assumption | with_reducible refine Below.drew ?_ | with_reducible refine below_drewN ?_ _ | with_reducible refine Below.alloc ?_ ?_ _ | with_reducible refine Below.setCell ?_ ?_ _ | with_reducible exact And.right (by assumption) | with_reducible refine Below.trans ?_ (Below.mono (by assumption) ?_) | with_reducible exact Below.size (And.right (by assumption)) | (focus omega) | (focus (simp; done)) | (focus (simp; omega)) | (focus (simp at *; omega)))))
          rintro e w2 ⟨rfl, b2⟩
          have c2 : Below w1.heap.size w1 w2 := Below.trans (by (repeat (first | with_reducible exact Below.refl _ _ | with_reducible exact Nat.le_refl _ | with_reducible assumption | with_reducible refine Below.drew ?_ | with_reducible refine below_drewN ?_ _ | with_reducible refine Below.alloc ?_ ?_ _ | with_reducible refine Below.setCell ?_ ?_ _ | with_reducible exact And.right (by assumption) | with_reducible refine Below.trans ?_ (Below.mono (by assumption) ?_) | with_reducible exact Below.size (And.right (by assumption)) | (focus omega) | (focus (simp; done)) | (focus (simp; omega)) | (focus (simp at *; omega))))) (b2.mono (by first | exact Nat.le_refl _ | omega | (simp; done) | (simp; omega)))
          have s2 := c2.size
          have bb2 := H_bb1.out.trans (c2.mono H_bb1.out.size)
          have t2 := H_t1.out.below c2
          have H_b2 := Lib.hid b2; clear b2; have H_c2 := Lib.hid c2; clear c2; have H_bb2 := Lib.hid bb2; clear bb2; have H_t2 := Lib.hid t2; clear t2
          go_wp2_with fail
          (with_reducible refine (H_q2.out _ ?_).mono ?_)
          · exact H_t2.out.below (show Below w2.heap.size w2 _ by (repeat (first | with_reducible exact Below.refl _ _ | with_reducible exact Nat.le_refl _ | with_reducible assumption | with_reducible refine Below.drew ?_ | with_reducible refine below_drewN ?_ _ | with_reducible refine Below.alloc ?_ ?_ _ | with_reducible refine Below.setCell ?_ ?_ _ | with_reducible exact And.right (by assumption) | with_reducible refine Below.trans ?_ (Below.mono (by assumption) ?_) | with_reducible exact Below.size (And.right (by assumption)) | (focus omega) | (focus (simp; done)) | (focus (simp; omega)) | (focus (simp at *; omega)))))
          rintro e w3 ⟨rfl, b3⟩
          have c3 : Below w2.heap.size w2 w3 := Below.trans (by (repeat (first | with_reducible exact Below.refl _ _ | with_reducible exact Nat.le_refl _ | with_reducible assumption | with_reducible refine Below.drew ?_ | with_reducible refine below_drewN ?_ _ | with_reducible refine Below.alloc ?_ ?_ _ | with_reducible refine Below.setCell ?_ ?_ _ | with_reducible exact And.right (by assumption) | with_reducible refine Below.trans ?_ (Below.mono (by assumption) ?_) | with_reducible exact Below.size (And.right (by assumption)) | (focus omega) | (focus (simp; done)) | (focus (simp; omega)) | (focus (simp at *; omega))))) (b3.mono (by first | exact Nat.le_refl _ | omega | (simp; done) | (simp; omega)))
          have s3 := c3.size
          have bb3 := H_bb2.out.trans (c3.mono H_bb2.out.size)
          have t3 := H_t2.out.below c3
          have H_b3 := Lib.hid b3; clear b3; have H_c3 := Lib.hid c3; clear c3; have H_bb3 := Lib.hid bb3; clear bb3; have H_t3 := Lib.hid t3; clear t3
          go_wp2_with fail
          (with_reducible refine (H_qa.out _).mono ?_)
          rintro e w_ ⟨rfl, hw_⟩
          subst hw_
          go_wp2_with fail
          (with_reducible refine (H_qb.out _).mono ?_)
          rintro e w_ ⟨rfl, hw_⟩
          subst hw_
          go_wp2_with fail
          (with_reducible refine (H_q3.out _ ?_).mono ?_)
          · exact H_t3.out.below (show Below w3.heap.size w3 _ by (repeat (first | with_reducible exact Below.refl _ _ | with_reducible exact Nat.le_refl _ | with_reducible assumption | with_reducible refine Below.drew ?_ | with_reducible refine below_drewN ?_ _ | with_reducible refine Below.alloc ?_ ?_ _ | with_reducible refine Below.setCell ?_ ?_ _ | with_reducible exact And.right (by assumption) | with_reducible refine Below.trans ?_ (Below.mono (by assumption) ?_) | with_reducible exact Below.size (And.right (by assumption)) | (focus omega) | (focus (simp; done)) | (focus (simp; omega)) | (focus (simp at *; omega)))))
          rintro e w4 ⟨rfl, b4⟩
          have c4 : Below w3.heap.size w3 w4 := Below.trans (by (repeat (first | with_reducible exact Below.refl _ _ | with_reducible exact Nat.le_refl _ | with_reducible assumption | with_reducible refine Below.drew ?_ | with_reducible refine below_drewN ?_ _ | with_reducible refine Below.alloc ?_ ?_ _ | with_reducible refine Below.setCell ?_ ?_ _ | with_reducible exact And.right (by assumption) | with_reducible refine Below.trans ?_ (Below.mono (by assumption) ?_) | with_reducible exact Below.size (And.right (by assumption)) | (focus omega) | (focus (simp; done)) | (focus (simp; omega)) | (focus (simp at *; omega))))) (b4.mono (by first | exact Nat.le_refl _ | omega | (simp; done) | (simp; omega)))
          have s4 := c4.size
          have bb4 := H_bb3.out.trans (c4.mono H_bb3.out.size)
          have t4 := H_t3.out.below c4
          have H_b4 := Lib.hid b4; clear b4; have H_c4 := Lib.hid c4; clear c4; have H_bb4 := Lib.hid bb4; clear bb4; have H_t4 := Lib.hid t4; clear t4
          go_wp2_with fail
          (with_reducible refine (H_q4.out _ ?_).mono ?_)
          · exact H_t4.out.below (show Below w4.heap.size w4 _ by (repeat (first | with_reducible exact Below.refl _ _ | with_reducible exact Nat.le_refl _ | with_reducible assumption | with_reducible refine Below.drew ?_ | with_reducible refine below_drewN ?_ _ | with_reducible refine Below.alloc ?_ ?_ _ | with_reducible refine Below.setCell ?_ ?_ _ | with_reducible exact And.right (by assumption) | with_reducible refine Below.trans ?_ (Below.mono (by assumption) ?_) | with_reducible exact Below.size (And.right (by assumption)) | (focus omega) | (focus (simp; done)) | (focus (simp; omega)) | (focus (simp at *; omega)))))
          rintro e w5 ⟨rfl, b5⟩
          have c5 : Below w4.heap.size w4 w5 := Below.trans (by (repeat (first | with_reducible exact Below.refl _ _ | with_reducible exact Nat.le_refl _ | with_reducible assumption | with_reducible refine Below.drew ?_ | with_reducible refine below_drewN ?_ _ | with_reducible refine Below.alloc ?_ ?_ _ | with_reducible refine Below.setCell ?_ ?_ _ | with_reducible exact And.right (by assumption) | with_reducible refine Below.trans ?_ (Below.mono (by assumption) ?_) | with_reducible exact Below.size (And.right (by assumption)) | (focus omega) | (focus (simp; done)) | (focus (simp; omega)) | (focus (simp at *; omega))))) (b5.mono (by first | exact Nat.le_refl _ | omega | (simp; done) | (simp; omega)))
          have s5 := c5.size
          have bb5 := H_bb4.out.trans (c5.mono H_bb4.out.size)
          have t5 := H_t4.out.below c5
          have H_b5 := Lib.hid b5; clear b5; have H_c5 := Lib.hid c5; clear c5; have H_bb5 := Lib.hid bb5; clear bb5; have H_t5 := Lib.hid t5; clear t5
          go_wp2_with fail
          (with_reducible refine (H_q5.out _ ?_).mono ?_)
          · exact H_t5.out.below (show Below w5.heap.size w5 _ by (repeat (first | with_reducible exact Below.refl _ _ | with_reducible exact Nat.le_refl _ | with_reducible assumption | with_reducible refine Below.drew ?_ | with_reducible refine below_drewN ?_ _ | with_reducible refine Below.alloc ?_ ?_ _ | with_reducible refine Below.setCell ?_ ?_ _ | with_reducible exact And.right (by assumption) | with_reducible refine Below.trans ?_ (Below.mono (by assumption) ?_) | with_reducible exact Below.size (And.right (by assumption)) | (focus omega) | (focus (simp; done)) | (focus (simp; omega)) | (focus (simp at *; omega)))))
          rintro e w6 ⟨rfl, b6⟩
          have c6 : Below w5.heap.size w5 w6 := Below.trans (by (repeat (first | with_reducible exact Below.refl _ _ | with_reducible exact Nat.le_refl _ | with_reducible assumption | with_reducible refine Below.drew ?_ | with_reducible refine below_drewN ?_ _ | with_reducible refine Below.alloc ?_ ?_ _ | with_reducible refine Below.setCell ?_ ?_ _ | with_reducible exact And.right (by assumption) | with_reducible refine Below.trans ?_ (Below.mono (by assumption) ?_) | with_reducible exact Below.size (And.right (by assumption)) | (focus omega) | (focus (simp; done)) | (focus (simp; omega)) | (focus (simp at *; omega))))) (b6.mono (by first | exact Nat.le_refl _ | omega | (simp; done) | (simp; omega)))
          have s6 := c6.size
          have bb6 := H_bb5.out.trans (c6.mono H_bb5.out.size)
          have t6 := H_t5.out.below c6
          have H_b6 := Lib.hid b6; clear b6; have H_c6 := Lib.hid c6; clear c6; have H_bb6 := Lib.hid bb6; clear bb6; have H_t6 := Lib.hid t6; clear t6
          go_wp2_with fail
          go_ret
          exact ⟨rfl, H_bb6.out⟩
        · have i2 : (a == b) = false := by rw [beq_eq_false_iff_ne]; exact hab
          have i3 := text_ne hA1 hB1 hab
          have H_qh := Lib.hid qh; clear qh; have H_q1 := Lib.hid q1; clear q1; have H_qa := Lib.hid qa; clear qa; have H_qb := Lib.hid qb; clear qb; have H_t0 := Lib.hid t0; clear t0; have H_bb0 := Lib.hid bb0; clear bb0; have H_p1 := Lib.hid p1; clear p1; have H_p2 := Lib.hid p2; clear p2; have H_q2 := Lib.hid q2; clear q2; have H_p3 := Lib.hid p3; clear p3; have H_p4 := Lib.hid p4; clear p4; have H_hA1 := Lib.hid hA1; clear hA1; have H_hB1 := Lib.hid hB1; clear hB1; have H_q3 := Lib.hid q3; clear q3; have H_q4 := Lib.hid q4; clear q4; have H_q5 := Lib.hid q5; clear q5; have H_hab := Lib.hid hab; clear hab
          go_enter Tryd.func8, Tryd.ntmps8
          go_wp2_with fail
          (with_reducible refine (H_qh.out).mono ?_)
          rintro e w1 ⟨rfl, bb1⟩
          have t1 := H_t0.out.below bb1
          have H_bb1 := Lib.hid bb1; clear bb1; have H_t1 := Lib.hid t1; clear t1
          go_wp2_with fail
          (with_reducible refine (H_q1.out _ ?_).mono ?_)
          · exact H_t1.out.below (show Below w1.heap.size w1 _ by (repeat (first | with_reducible exact Below.refl _ _ | with_reducible exact Nat.le_refl _ | with_reducible assumption | with_reducible refine Below.drew ?_ | with_reducible refine below_drewN ?_ _ | with_reducible refine Below.alloc ?_ ?_ _ | with_reducible refine Below.setCell ?_ ?_ _ | with_reducible exact And.right (by assumption) | with_reducible refine Below.trans ?_ (Below.mono (by assumption) ?_) | with_reducible exact Below.size (And.right (by assumption)) | (focus omega) | (focus (simp; done)) | (focus (simp; omega)) | (focus (simp at *; omega)))))
          rintro e w2 ⟨rfl, b2⟩
          have c2 : Below w1.heap.size w1 w2 := Below.trans (by (repeat (first | with_reducible exact Below.refl _ _ | with_reducible exact Nat.le_refl _ | with_reducible assumption | with_reducible refine Below.drew ?_ | with_reducible refine below_drewN ?_ _ | with_reducible refine Below.alloc ?_ ?_ _ | with_reducible refine Below.setCell ?_ ?_ _ | with_reducible exact And.right (by assumption) | with_reducible refine Below.trans ?_ (Below.mono (by assumption) ?_) | with_reducible exact Below.size (And.right (by assumption)) | (focus omega) | (focus (simp; done)) | (focus (simp; omega)) | (focus (simp at *; omega))))) (b2.mono (by first | exact Nat.le_refl _ | omega | (simp; done) | (simp; omega)))
          have s2 := c2.size
          have bb2 := H_bb1.out.trans (c2.mono H_bb1.out.size)
          have t2 := H_t1.out.below c2
          have H_b2 := Lib.hid b2; clear b2; have H_c2 := Lib.hid c2; clear c2; have H_bb2 := Lib.hid bb2; clear bb2; have H_t2 := Lib.hid t2; clear t2
          go_wp2_with fail
          (with_reducible refine (H_q2.out _ ?_).mono ?_)
          · exact H_t2.out.below (show Below w2.heap.size w2 _ by (repeat (first | with_reducible exact Below.refl _ _ | with_reducible exact Nat.le_refl _ | with_reducible assumption | with_reducible refine Below.drew ?_ | with_reducible refine below_drewN ?_ _ | with_reducible refine Below.alloc ?_ ?_ _ | with_reducible refine Below.setCell ?_ ?_ _ | with_reducible exact And.right (by assumption) | with_reducible refine Below.trans ?_ (Below.mono (by assumption) ?_) | with_reducible exact Below.size (And.right (by assumption)) | (focus omega) | (focus (simp; done)) | (focus (simp; omega)) | (focus (simp at *; omega)))))
          rintro e w3 ⟨rfl, b3⟩
          have c3 : Below w2.heap.size w2 w3 := Below.trans (by (repeat (first | with_reducible exact Below.refl _ _ | with_reducible exact Nat.le_refl _ | with_reducible assumption | with_reducible refine Below.drew ?_ | with_reducible refine below_drewN ?_ _ | with_reducible refine Below.alloc ?_ ?_ _ | with_reducible refine Below.setCell ?_ ?_ _ | with_reducible exact And.right (by assumption) | with_reducible refine Below.trans ?_ (Below.mono (by assumption) ?_) | with_reducible exact Below.size (And.right (by assumption)) | (focus omega) | (focus (simp; done)) | (focus (simp; omega)) | (focus (simp at *; omega))))) (b3.mono (by first | exact Nat.le_refl _ | omega | (simp; done) | (simp; omega)))
          have s3 := c3.size
          have bb3 := H_bb2.out.trans (c3.mono H_bb2.out.size)
          have t3 := H_t2.out.below c3
          have H_b3 := Lib.hid b3; clear b3; have H_c3 := Lib.hid c3; clear c3; have H_bb3 := Lib.hid bb3; clear bb3; have H_t3 := Lib.hid t3; clear t3
          go_wp2_with fail
          (with_reducible refine (H_qa.out _).mono ?_)
          rintro e w_ ⟨rfl, hw_⟩
          subst hw_
          go_wp2_with fail
          (with_reducible refine (H_qb.out _).mono ?_)
          rintro e w_ ⟨rfl, hw_⟩
          subst hw_
          go_wp2_with fail
          (with_reducible refine (H_q3.out _ ?_).mono ?_)
          · exact H_t3.out.below (show Below w3.heap.size w3 _ by (repeat (first | with_reducible exact Below.refl _ _ | with_reducible exact Nat.le_refl _ | with_reducible assumption | with_reducible refine Below.drew ?_ | with_reducible refine below_drewN ?_ _ | with_reducible refine Below.alloc ?_ ?_ _ | with_reducible refine Below.setCell ?_ ?_ _ | with_reducible exact And.right (by assumption) | with_reducible refine Below.trans ?_ (Below.mono (by assumption) ?_) | with_reducible exact Below.size (And.right (by assumption)) | (focus omega) | (focus (simp; done)) | (focus (simp; omega)) | (focus (simp at *; omega)))))
          rintro e w4 ⟨rfl, b4⟩
          have c4 : Below w3.heap.size w3 w4 := Below.trans (by (repeat (first | with_reducible exact Below.refl _ _ | with_reducible exact Nat.le_refl _ | with_reducible assumption | with_reducible refine Below.drew ?_ | with_reducible refine below_drewN ?_ _ | with_reducible refine Below.alloc ?_ ?_ _ | with_reducible refine Below.setCell ?_ ?_ _ | with_reducible exact And.right (by assumption) | with_reducible refine Below.trans ?_ (Below.mono (by assumption) ?_) | with_reducible exact Below.size (And.right (by assumption)) | (focus omega) | (focus (simp; done)) | (focus (simp; omega)) | (focus (simp at *; omega))))) (b4.mono (by first | exact Nat.le_refl _ | omega | (simp; done) | (simp; omega)))
          have s4 := c4.size
          have bb4 := H_bb3.out.trans (c4.mono H_bb3.out.size)
          have t4 := H_t3.out.below c4
          have H_b4 := Lib.hid b4; clear b4; have H_c4 := Lib.hid c4; clear c4; have H_bb4 := Lib.hid bb4; clear bb4; have H_t4 := Lib.hid t4; clear t4
          go_wp2_with fail
          (with_reducible refine (H_q4.out _ ?_).mono ?_)
          · exact H_t4.out.below (show Below w4.heap.size w4 _ by (repeat (first | with_reducible exact Below.refl _ _ | with_reducible exact Nat.le_refl _ | with_reducible assumption | with_reducible refine Below.drew ?_ | with_reducible refine below_drewN ?_ _ | with_reducible refine Below.alloc ?_ ?_ _ | with_reducible refine Below.setCell ?_ ?_ _ | with_reducible exact And.right (by assumption) | with_reducible refine Below.trans ?_ (Below.mono (by assumption) ?_) | with_reducible exact Below.size (And.right (by assumption)) | (focus omega) | (focus (simp; done)) | (focus (simp; omega)) | (focus (simp at *; omega)))))
          rintro e w5 ⟨rfl, b5⟩
          have c5 : Below w4.heap.size w4 w5 := Below.trans (by (repeat (first | with_reducible exact Below.refl _ _ | with_reducible exact Nat.le_refl _ | with_reducible assumption | with_reducible refine Below.drew ?_ | with_reducible refine below_drewN ?_ _ | with_reducible refine Below.alloc ?_ ?_ _ | with_reducible refine Below.setCell ?_ ?_ _ | with_reducible exact And.right (by assumption) | with_reducible refine Below.trans ?_ (Below.mono (by assumption) ?_) | with_reducible exact Below.size (And.right (by assumption)) | (focus omega) | (focus (simp; done)) | (focus (simp; omega)) | (focus (simp at *; omega))))) (b5.mono (by first | exact Nat.le_refl _ | omega | (simp; done) | (simp; omega)))
          have s5 := c5.size
          have bb5 := H_bb4.out.trans (c5.mono H_bb4.out.size)
          have t5 := H_t4.out.below c5
          have H_b5 := Lib.hid b5; clear b5; have H_c5 := Lib.hid c5; clear c5; have H_bb5 := Lib.hid bb5; clear bb5; have H_t5 := Lib.hid t5; clear t5
          go_wp2_with fail
          (with_reducible refine (H_q5.out _ ?_).mono ?_)
          · exact H_t5.out.below (show Below w5.heap.size w5 _ by (repeat (first | with_reducible exact Below.refl _ _ | with_reducible exact Nat.le_refl _ | with_reducible assumption | with_reducible refine Below.drew ?_ | with_reducible refine below_drewN ?_ _ | with_reducible refine Below.alloc ?_ ?_ _ | with_reducible refine Below.setCell ?_ ?_ _ | with_reducible exact And.right (by assumption) | with_reducible refine Below.trans ?_ (Below.mono (by assumption) ?_) | with_reducible exact Below.size (And.right (by assumption)) | (focus omega) | (focus (simp; done)) | (focus (simp; omega)) | (focus (simp at *; omega)))))
          rintro e w6 ⟨rfl, b6⟩
          have c6 : Below w5.heap.size w5 w6 := Below.trans (by (repeat (first | with_reducible exact Below.refl _ _ | with_reducible exact Nat.le_refl _ | with_reducible assumption | with_reducible refine Below.drew ?_ | with_reducible refine below_drewN ?_ _ | with_reducible refine Below.alloc ?_ ?_ _ | with_reducible refine Below.setCell ?_ ?_ _ | with_reducible exact And.right (by assumption) | with_reducible refine Below.trans ?_ (Below.mono (by assumption) ?_) | with_reducible exact Below.size (And.right (by assumption)) | (focus omega) | (focus (simp; done)) | (focus (simp; omega)) | (focus (simp at *; omega))))) (b6.mono (by first | exact Nat.le_refl _ | omega | (simp; done) | (simp; omega)))
          have s6 := c6.size
          have bb6 := H_bb5.out.trans (c6.mono H_bb5.out.size)
          have t6 := H_t5.out.below c6
          have H_b6 := Lib.hid b6; clear b6; have H_c6 := Lib.hid c6; clear c6; have H_bb6 := Lib.hid bb6; clear bb6; have H_t6 := Lib.hid t6; clear t6
          go_wp2_with fail
          go_ret
          exact ⟨rfl, H_bb6.out⟩
  · rw [p1, p2] at q1
    cases hA1 : amtB a with
    | false =>
      rw [hA1] at qa
      have H_qh := Lib.hid qh; clear qh; have H_q1 := Lib.hid q1; clear q1; have H_qa := Lib.hid qa; clear qa; have H_qb := Lib.hid qb; clear qb; have H_t0 := Lib.hid t0; clear t0; have H_bb0 := Lib.hid bb0; clear bb0; have H_p1 := Lib.hid p1; clear p1; have H_p2 := Lib.hid p2; clear p2; have H_hA1 := Lib.hid hA1; clear hA1
      go_enter Tryd.func8, Tryd.ntmps8
      go_wp2_with fail
      (with_reducible refine (H_qh.out).mono ?_)
      rintro e w1 ⟨rfl, bb1⟩
      have t1 := H_t0.out.below bb1
      have H_bb1 := Lib.hid bb1; clear bb1; have H_t1 := Lib.hid t1; clear t1
      go_wp2_with fail
      (with_reducible refine (H_q1.out _ ?_).mono ?_)
      · exact H_t1.out.below (show Below w1.heap.size w1 _ by (repeat (first | with_reducible exact Below.refl _ _ | with_reducible exact Nat.le_refl _ | with_reducible assumption | with_reducible refine Below.drew ?_ | with_reducible refine below_drewN ?_ _ | with_reducible refine Below.alloc ?_ ?_ _ | with_reducible refine Below.setCell ?_ ?_ _ | with_reducible exact And.right (by assumption) | with_reducible refine Below.trans ?_ (Below.mono (by assumption) ?_) | with_reducible exact Below.size (And.right (by assumption)) | (focus omega) | (focus (simp; done)) | (focus (simp; omega)) | (focus (simp at *; omega)))))
      rintro e w2 ⟨rfl, b2⟩
      have c2 : Below w1.heap.size w1 w2 := Below.trans (by (repeat (first | with_reducible exact Below.refl _ _ | with_reducible exact Nat.le_refl _ | with_reducible assumption | with_reducible refine Below.drew ?_ | with_reducible refine below_drewN ?_ _ | with_reducible refine Below.alloc ?_ ?_ _ | with_reducible refine Below.setCell ?_ ?_ _ | with_reducible exact And.right (by assumption) | with_reducible refine Below.trans ?_ (Below.mono (by assumption) ?_) | with_reducible exact Below.size (And.right (by assumption)) | (focus omega) | (focus (simp; done)) | (focus (simp; omega)) | (focus (simp at *; omega))))) (b2.mono (by first | exact Nat.le_refl _ | omega | (simp; done) | (simp; omega)))
      have s2 := c2.size
      have bb2 := H_bb1.out.trans (c2.mono H_bb1.out.size)
      have t2 := H_t1.out.below c2
      have H_b2 := Lib.hid b2; clear b2; have H_c2 := Lib.hid c2; clear c2; have H_bb2 := Lib.hid bb2; clear bb2; have H_t2 := Lib.hid t2; clear t2
      go_wp2_with fail
      (with_reducible refine (H_qa.out _).mono ?_)
      rintro e w_ ⟨rfl, hw_⟩
      subst hw_
      go_wp2_with fail
      go_ret
      exact ⟨rfl, H_bb2.out⟩
    | true =>
      rw [hA1] at qa
      cases hB1 : amtB b with
      | false =>
        rw [hB1] at qb
        have H_qh := Lib.hid qh; clear qh; have H_q1 := Lib.hid q1; clear q1; have H_qa := Lib.hid qa; clear qa; have H_qb := Lib.hid qb; clear qb; have H_t0 := Lib.hid t0; clear t0; have H_bb0 := Lib.hid bb0; clear bb0; have H_p1 := Lib.hid p1; clear p1; have H_p2 := Lib.hid p2; clear p2; have H_hA1 := Lib.hid hA1; clear hA1; have H_hB1 := Lib.hid hB1; clear hB1
        go_enter Tryd.func8, Tryd.ntmps8
        go_wp2_with fail
        (with_reducible refine (H_qh.out).mono ?_)
        rintro e w1 ⟨rfl, bb1⟩
        have t1 := H_t0.out.below bb1
        have H_bb1 := Lib.hid bb1; clear bb1; have H_t1 := Lib.hid t1; clear t1
        go_wp2_with fail
        (with_reducible refine (H_q1.out _ ?_).mono ?_)
        · exact H_t1.out.below (show Below w1.heap.size w1 _ by (repeat (first | with_reducible exact Below.refl _ _ | with_reducible exact Nat.le_refl _ | with_reducible assumption | with_reducible refine Below.drew ?_ | with_reducible refine below_drewN ?_ _ | with_reducible refine Below.alloc ?_ ?_ _ | with_reducible refine Below.setCell ?_ ?_ _ | with_reducible exact And.right (by assumption) | with_reducible refine Below.trans ?_ (Below.mono (by assumption) ?_) | with_reducible exact Below.size (And.right (by assumption)) | (focus omega) | (focus (simp; done)) | (focus (simp; omega)) | (focus (simp at *; omega)))))
        rintro e w2 ⟨rfl, b2⟩
        have c2 : Below w1.heap.size w1 w2 := Below.trans (by (repeat (first | with_reducible exact Below.refl _ _ | with_reducible exact Nat.le_refl _ | with_reducible assumption | with_reducible refine Below.drew ?_ | with_reducible refine below_drewN ?_ _ | with_reducible refine Below.alloc ?_ ?_ _ | with_reducible refine Below.setCell ?_ ?_ _ | with_reducible exact And.right (by assumption) | with_reducible refine Below.trans ?_ (Below.mono (by assumption) ?_) | with_reducible exact Below.size (And.right (by assumption)) | (focus omega) | (focus (simp; done)) | (focus (simp; omega)) | (focus (simp at *; omega))))) (b2.mono (by first | exact Nat.le_refl _ | omega | (simp; done) | (simp; omega)))
        have s2 := c2.size
        have bb2 := H_bb1.out.trans (c2.mono H_bb1.out.size)
        have t2 := H_t1.out.below c2
        have H_b2 := Lib.hid b2; clear b2; have H_c2 := Lib.hid c2; clear c2; have H_bb2 := Lib.hid bb2; clear bb2; have H_t2 := Lib.hid t2; clear t2
        go_wp2_with fail
        (with_reducible refine (H_qa.out _).mono ?_)
        rintro e w_ ⟨rfl, hw_⟩
        subst hw_
        go_wp2_with fail
        (with_reducible refine (H_qb.out _).mono ?_)
        rintro e w_ ⟨rfl, hw_⟩
        subst hw_
        go_wp2_with fail
        go_ret
        exact ⟨rfl, H_bb2.out⟩
      | true =>
        rw [hB1] at qb
        have q3 := fun W h => mtext_any a hA W h
        have q4 := fun W h => mtext_any b hB W h
        have q5 := fun W h => mparse_any (tS a) (by have := tS_size a; omega) W h
        rw [tE_ok hA1] at q3
        rw [tE_ok hB1] at q4
        rw [(parse_text hA1).1, (parse_text hA1).2] at q5
        by_cases hab : a = b
        · have i2 : (a == b) = true := by rw [beq_iff_eq]; exact hab
          have i3 : ((tS a).toList == (tS b).toList) = true := by rw [hab]; simp
          have i4 : tS a = tS b := by rw [hab]
          have H_qh := Lib.hid qh; clear qh; have H_q1 := Lib.hid q1; clear q1; have H_qa := Lib.hid qa; clear qa; have H_qb := Lib.hid qb; clear qb; have H_t0 := Lib.hid t0; clear t0; have H_bb0 := Lib.hid bb0; clear bb0; have H_p1 := Lib.hid p1; clear p1; have H_p2 := Lib.hid p2; clear p2; have H_hA1 := Lib.hid hA1; clear hA1; have H_hB1 := Lib.hid hB1; clear hB1; have H_q3 := Lib.hid q3; clear q3; have H_q4 := Lib.hid q4; clear q4; have H_q5 := Lib.hid q5; clear q5; have H_hab := Lib.hid hab; clear hab; have H_i4 := Lib.hid i4; clear i4
          go_enter Tryd.func8, Tryd.ntmps8
          go_wp2_with fail
          (with_reducible refine (H_qh.out).mono ?_)
          rintro e w1 ⟨rfl, bb1⟩
          have t1 := H_t0.out.below bb1
          have H_bb1 := Lib.hid bb1; clear bb1; have H_t1 := Lib.hid t1; clear t1
          go_wp2_with fail
          (with_reducible refine (H_q1.out _ ?_).mono ?_)
          · exact H_t1.out.below (show Below w1.heap.size w1 _ by (repeat (first | with_reducible exact Below.refl _ _ | with_reducible exact Nat.le_refl _ | with_reducible assumption | with_reducible refine Below.drew ?_ | with_reducible refine below_drewN ?_ _ | with_reducible refine Below.alloc ?_ ?_ _ | with_reducible refine Below.setCell ?_ ?_ _ | with_reducible exact And.right (by assumption) | with_reducible refine Below.trans ?_ (Below.mono (by assumption) ?_) | with_reducible exact Below.size (And.right (by assumption)) | (focus omega) | (focus (simp; done)) | (focus (simp; omega)) | (focus (simp at *; omega)))))
          rintro e w2 ⟨rfl, b2⟩
          have c2 : Below w1.heap.size w1 w2 := Below.trans (by (repeat (first | with_reducible exact Below.refl _ _ | with_reducible exact Nat.le_refl _ | with_reducible assumption | with_reducible refine Below.drew ?_ | with_reducible refine below_drewN ?_ _ | with_reducible refine Below.alloc ?_ ?_ _ | with_reducible refine Below.setCell ?_ ?_ _ | with_reducible exact And.right (by assumption) | with_reducible refine Below.trans ?_ (Below.mono (by assumption) ?_) | with_reducible exact Below.size (And.right (by assumption)) | (focus omega) | (focus (simp; done)) | (focus (simp; omega)) | (focus (simp at *; omega))))) (b2.mono (by first | exact Nat.le_refl _ | omega | (simp; done) | (simp; omega)))
          have s2 := c2.size
          have bb2 := H_bb1.out.trans (c2.mono H_bb1.out.size)
          have t2 := H_t1.out.below c2
          have H_b2 := Lib.hid b2; clear b2; have H_c2 := Lib.hid c2; clear c2; have H_bb2 := Lib.hid bb2; clear bb2; have H_t2 := Lib.hid t2; clear t2
          go_wp2_with fail
          (with_reducible refine (H_qa.out _).mono ?_)
          rintro e w_ ⟨rfl, hw_⟩
          subst hw_
          go_wp2_with fail
          (with_reducible refine (H_qb.out _).mono ?_)
          rintro e w_ ⟨rfl, hw_⟩
          subst hw_
          go_wp2_with fail
          (with_reducible refine (H_q3.out _ ?_).mono ?_)
          · exact H_t2.out.below (show Below w2.heap.size w2 _ by (repeat (first | with_reducible exact Below.refl _ _ | with_reducible exact Nat.le_refl _ | with_reducible assumption | with_reducible refine Below.drew ?_ | with_reducible refine below_drewN ?_ _ | with_reducible refine Below.alloc ?_ ?_ _ | with_reducible refine Below.setCell ?_ ?_ _ | with_reducible exact And.right (by assumption) | with_reducible refine Below.trans ?_ (Below.mono (by assumption) ?_) | with_reducible exact Below.size (And.right (by assumption)) | (focus omega) | (focus (simp; done)) | (focus (simp; omega)) | (focus (simp at *; omega)))))
          rintro e w3 ⟨rfl, b3⟩
          have c3 : Below w2.heap.size w2 w3 := Below.trans (by (repeat (first | with_reducible exact Below.refl _ _ | with_reducible exact Nat.le_refl _ | with_reducible assumption | with_reducible refine Below.drew ?_ | with_reducible refine below_drewN ?_ _ | with_reducible refine Below.alloc ?_ ?_ _ | with_reducible refine Below.setCell ?_ ?_ _ | with_reducible exact And.right (by assumption) | with_reducible refine Below.trans ?_ (Below.mono (by assumption) ?_) | with_reducible exact Below.size (And.right (by assumption)) | (focus omega) | (focus (simp; done)) | (focus (simp; omega)) | (focus (simp at *; omega))))) (b3.mono (by first | exact Nat.le_refl _ | omega | (simp; done) | (simp; omega)))
          have s3 := c3.size
          have bb3 := H_bb2.out.trans (c3.mono H_bb2.out.size)
          have t3 := H_t2.out.below c3
          have H_b3 := Lib.hid b3; clear b3; have H_c3 := Lib.hid c3; clear c3; have H_bb3 := Lib.hid bb3; clear bb3; have H_t3 := Lib.hid t3; clear t3
          go_wp2_with fail
          (with_reducible refine (H_q4.out _ ?_).mono ?_)
          · exact H_t3.out.below (show Below w3.heap.size w3 _ by (repeat (first | with_reducible exact Below.refl _ _ | with_reducible exact Nat.le_refl _ | with_reducible assumption | with_reducible refine Below.drew ?_ | with_reducible refine below_drewN ?_ _ | with_reducible refine Below.alloc ?_ ?_ _ | with_reducible refine Below.setCell ?_ ?_ _ | with_reducible exact And.right (by assumption) | with_reducible refine Below.trans ?_ (Below.mono (by assumption) ?_) | with_reducible exact Below.size (And.right (by assumption)) | (focus omega) | (focus (simp; done)) | (focus (simp; omega)) | (focus (simp at *; omega)))))
          rintro e w4 ⟨rfl, b4⟩
          have c4 : Below w3.heap.size w3 w4 := Below.trans (by (repeat (first | with_reducible exact Below.refl _ _ | with_reducible exact Nat.le_refl _ | with_reducible assumption | with_reducible refine Below.drew ?_ | with_reducible refine below_drewN ?_ _ | with_reducible refine Below.alloc ?_ ?_ _ | with_reducible refine Below.setCell ?_ ?_ _ | with_reducible exact And.right (by assumption) | with_reducible refine Below.trans ?_ (Below.mono (by assumption) ?_) | with_reducible exact Below.size (And.right (by assumption)) | (focus omega) | (focus (simp; done)) | (focus (simp; omega)) | (focus (simp at *; omega))))) (b4.mono (by first | exact Nat.le_refl _ | omega | (simp; done) | (simp; omega)))
          have s4 := c4.size
          have bb4 := H_bb3.out.trans (c4.mono H_bb3.out.size)
          have t4 := H_t3.out.below c4
          have H_b4 := Lib.hid b4; clear b4; have H_c4 := Lib.hid c4; clear c4; have H_bb4 := Lib.hid bb4; clear bb4; have H_t4 := Lib.hid t4; clear t4
          go_wp2_with fail
          (with_reducible refine (H_q5.out _ ?_).mono ?_)
          · exact H_t4.out.below (show Below w4.heap.size w4 _ by (repeat (first | with_reducible exact Below.refl _ _ | with_reducible exact Nat.le_refl _ | with_reducible assumption | with_reducible refine Below.drew ?_ | with_reducible refine below_drewN ?_ _ | with_reducible refine Below.alloc ?_ ?_ _ | with_reducible refine Below.setCell ?_ ?_ _ | with_reducible exact And.right (by assumption) | with_reducible refine Below.trans ?_ (Below.mono (by assumption) ?_) | with_reducible exact Below.size (And.right (by assumption)) | (focus omega) | (focus (simp; done)) | (focus (simp; omega)) | (focus (simp at *; omega)))))
          rintro e w5 ⟨rfl, b5⟩
          have c5 : Below w4.heap.size w4 w5 := Below.trans (by (repeat (first | with_reducible exact Below.refl _ _ | with_reducible exact Nat.le_refl _ | with_reducible assumption | with_reducible refine Below.drew ?_ | with_reducible refine below_drewN ?_ _ | with_reducible refine Below.alloc ?_ ?_ _ | with_reducible refine Below.setCell ?_ ?_ _ | with_reducible exact And.right (by assumption) | with_reducible refine Below.trans ?_ (Below.mono (by assumption) ?_) | with_reducible exact Below.size (And.right (by assumption)) | (focus omega) | (focus (simp; done)) | (focus (simp; omega)) | (focus (simp at *; omega))))) (b5.mono (by first | exact Nat.le_refl _ | omega | (simp; done) | (simp; omega)))
          have s5 := c5.size
          have bb5 := H_bb4.out.trans (c5.mono H_bb4.out.size)
          have t5 := H_t4.out.below c5
          have H_b5 := Lib.hid b5; clear b5; have H_c5 := Lib.hid c5; clear c5; have H_bb5 := Lib.hid bb5; clear bb5; have H_t5 := Lib.hid t5; clear t5
          go_wp2_with fail
          go_ret
          exact ⟨rfl, H_bb5.out⟩
        · have i2 : (a == b) = false := by rw [beq_eq_false_iff_ne]; exact hab
          have i3 := text_ne hA1 hB1 hab
          have H_qh := Lib.hid qh; clear qh; have H_q1 := Lib.hid q1; clear q1; have H_qa := Lib.hid qa; clear qa; have H_qb := Lib.hid qb; clear qb; have H_t0 := Lib.hid t0; clear t0; have H_bb0 := Lib.hid bb0; clear bb0; have H_p1 := Lib.hid p1; clear p1; have H_p2 := Lib.hid p2; clear p2; have H_hA1 := Lib.hid hA1; clear hA1; have H_hB1 := Lib.hid hB1; clear hB1; have H_q3 := Lib.hid q3; clear q3; have H_q4 := Lib.hid q4; clear q4; have H_q5 := Lib.hid q5; clear q5; have H_hab := Lib.hid hab; clear hab
          go_enter Tryd.func8, Tryd.ntmps8
          go_wp2_with fail
          (with_reducible refine (H_qh.out).mono ?_)
          rintro e w1 ⟨rfl, bb1⟩
          have t1 := H_t0.out.below bb1
          have H_bb1 := Lib.hid bb1; clear bb1; have H_t1 := Lib.hid t1; clear t1
          go_wp2_with fail
          (with_reducible refine (H_q1.out _ ?_).mono ?_)
          · exact H_t1.out.below (show Below w1.heap.size w1 _ by (repeat (first | with_reducible exact Below.refl _ _ | with_reducible exact Nat.le_refl _ | with_reducible assumption | with_reducible refine Below.drew ?_ | with_reducible refine below_drewN ?_ _ | with_reducible refine Below.alloc ?_ ?_ _ | with_reducible refine Below.setCell ?_ ?_ _ | with_reducible exact And.right (by assumption) | with_reducible refine Below.trans ?_ (Below.mono (by assumption) ?_) | with_reducible exact Below.size (And.right (by assumption)) | (focus omega) | (focus (simp; done)) | (focus (simp; omega)) | (focus (simp at *; omega)))))
          rintro e w2 ⟨rfl, b2⟩
          have c2 : Below w1.heap.size w1 w2 := Below.trans (by (repeat (first | with_reducible exact Below.refl _ _ | with_reducible exact Nat.le_refl _ | with_reducible assumption | with_reducible refine Below.drew ?_ | with_reducible refine below_drewN ?_ _ | with_reducible refine Below.alloc ?_ ?_ _ | with_reducible refine Below.setCell ?_ ?_ _ | with_reducible exact And.right (by assumption) | with_reducible refine Below.trans ?_ (Below.mono (by assumption) ?_) | with_reducible exact Below.size (And.right (by assumption)) | (focus omega) | (focus (simp; done)) | (focus (simp; omega)) | (focus (simp at *; omega))))) (b2.mono (by first | exact Nat.le_refl _ | omega | (simp; done) | (simp; omega)))
          have s2 := c2.size
          have bb2 := H_bb1.out.trans (c2.mono H_bb1.out.size)
          have t2 := H_t1.out.below c2
          have H_b2 := Lib.hid b2; clear b2; have H_c2 := Lib.hid c2; clear c2; have H_bb2 := Lib.hid bb2; clear bb2; have H_t2 := Lib.hid t2; clear t2
          go_wp2_with fail
          (with_reducible refine (H_qa.out _).mono ?_)
          rintro e w_ ⟨rfl, hw_⟩
          subst hw_
          go_wp2_with fail
          (with_reducible refine (H_qb.out _).mono ?_)
          rintro e w_ ⟨rfl, hw_⟩
          subst hw_
          go_wp2_with fail
          (with_reducible refine (H_q3.out _ ?_).mono ?_)
          · exact H_t2.out.below (show Below w2.heap.size w2 _ by (repeat (first | with_reducible exact Below.refl _ _ | with_reducible exact Nat.le_refl _ | with_reducible assumption | with_reducible refine Below.drew ?_ | with_reducible refine below_drewN ?_ _ | with_reducible refine Below.alloc ?_ ?_ _ | with_reducible refine Below.setCell ?_ ?_ _ | with_reducible exact And.right (by assumption) | with_reducible refine Below.trans ?_ (Below.mono (by assumption) ?_) | with_reducible exact Below.size (And.right (by assumption)) | (focus omega) | (focus (simp; done)) | (focus (simp; omega)) | (focus (simp at *; omega)))))
          rintro e w3 ⟨rfl, b3⟩
          have c3 : Below w2.heap.size w2 w3 := Below.trans (by (repeat (first | with_reducible exact Below.refl _ _ | with_reducible exact Nat.le_refl _ | with_reducible assumption | with_reducible refine Below.drew ?_ | with_reducible refine below_drewN ?_ _ | with_reducible refine Below.alloc ?_ ?_ _ | with_reducible refine Below.setCell ?_ ?_ _ | with_reducible exact And.right (by assumption) | with_reducible refine Below.trans ?_ (Below.mono (by assumption) ?_) | with_reducible exact Below.size (And.right (by assumption)) | (focus omega) | (focus (simp; done)) | (focus (simp; omega)) | (focus (simp at *; omega))))) (b3.mono (by first | exact Nat.le_refl _ | omega | (simp; done) | (simp; omega)))
          have s3 := c3.size
          have bb3 := H_bb2.out.trans (c3.mono H_bb2.out.size)
          have t3 := H_t2.out.below c3
          have H_b3 := Lib.hid b3; clear b3; have H_c3 := Lib.hid c3; clear c3; have H_bb3 := Lib.hid bb3; clear bb3; have H_t3 := Lib.hid t3; clear t3
          go_wp2_with fail
          (with_reducible refine (H_q4.out _ ?_).mono ?_)
          · exact H_t3.out.below (show Below w3.heap.size w3 _ by (repeat (first | with_reducible exact Below.refl _ _ | with_reducible exact Nat.le_refl _ | with_reducible assumption | with_reducible refine Below.drew ?_ | with_reducible refine below_drewN ?_ _ | with_reducible refine Below.alloc ?_ ?_ _ | with_reducible refine Below.setCell ?_ ?_ _ | with_reducible exact And.right (by assumption) | with_reducible refine Below.trans ?_ (Below.mono (by assumption) ?_) | with_reducible exact Below.size (And.right (by assumption)) | (focus omega) | (focus (simp; done)) | (focus (simp; omega)) | (focus (simp at *; omega)))))
          rintro e w4 ⟨rfl, b4⟩
          have c4 : Below w3.heap.size w3 w4 := Below.trans (by (repeat (first | with_reducible exact Below.refl _ _ | with_reducible exact Nat.le_refl _ | with_reducible assumption | with_reducible refine Below.drew ?_ | with_reducible refine below_drewN ?_ _ | with_reducible refine Below.alloc ?_ ?_ _ | with_reducible refine Below.setCell ?_ ?_ _ | with_reducible exact And.right (by assumption) | with_reducible refine Below.trans ?_ (Below.mono (by assumption) ?_) | with_reducible exact Below.size (And.right (by assumption)) | (focus omega) | (focus (simp; done)) | (focus (simp; omega)) | (focus (simp at *; omega))))) (b4.mono (by first | exact Nat.le_refl _ | omega | (simp; done) | (simp; omega)))
          have s4 := c4.size
          have bb4 := H_bb3.out.trans (c4.mono H_bb3.out.size)
          have t4 := H_t3.out.below c4
          have H_b4 := Lib.hid b4; clear b4; have H_c4 := Lib.hid c4; clear c4; have H_bb4 := Lib.hid bb4; clear bb4; have H_t4 := Lib.hid t4; clear t4
          go_wp2_with fail
          (with_reducible refine (H_q5.out _ ?_).mono ?_)
          · exact H_t4.out.below (show Below w4.heap.size w4 _ by (repeat (first | with_reducible exact Below.refl _ _ | with_reducible exact Nat.le_refl _ | with_reducible assumption | with_reducible refine Below.drew ?_ | with_reducible refine below_drewN ?_ _ | with_reducible refine Below.alloc ?_ ?_ _ | with_reducible refine Below.setCell ?_ ?_ _ | with_reducible exact And.right (by assumption) | with_reducible refine Below.trans ?_ (Below.mono (by assumption) ?_) | with_reducible exact Below.size (And.right (by assumption)) | (focus omega) | (focus (simp; done)) | (focus (simp; omega)) | (focus (simp at *; omega)))))
          rintro e w5 ⟨rfl, b5⟩
          have c5 : Below w4.heap.size w4 w5 := Below.trans (by (repeat (first | with_reducible exact Below.refl _ _ | with_reducible exact Nat.le_refl _ | with_reducible assumption | with_reducible refine Below.drew ?_ | with_reducible refine below_drewN ?_ _ | with_reducible refine Below.alloc ?_ ?_ _ | with_reducible refine Below.setCell ?_ ?_ _ | with_reducible exact And.right (by assumption) | with_reducible refine Below.trans ?_ (Below.mono (by assumption) ?_) | with_reducible exact Below.size (And.right (by assumption)) | (focus omega) | (focus (simp; done)) | (focus (simp; omega)) | (focus (simp at *; omega))))) (b5.mono (by first | exact Nat.le_refl _ | omega | (simp; done) | (simp; omega)))
          have s5 := c5.size
          have bb5 := H_bb4.out.trans (c5.mono H_bb4.out.size)
          have t5 := H_t4.out.below c5
          have H_b5 := Lib.hid b5; clear b5; have H_c5 := Lib.hid c5; clear c5; have H_bb5 := Lib.hid bb5; clear bb5; have H_t5 := Lib.hid t5; clear t5
          go_wp2_with fail
          go_ret
          exact ⟨rfl, H_bb5.out⟩
end Go.Proofs.YtaloadadecoogaaDoor

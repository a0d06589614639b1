/- The walk of DigestMatchesReference. -/
import Derived.Test.YtopdgjpoknndmaaDoorDigH
import Derived.Test.YtopdgjpoknndmaaDoorOpn
namespace Go.Proofs.YtopdgjpoknndmaaDoor
set_option linter.unusedSimpArgs false
set_option linter.unusedVariables false
set_option maxRecDepth 100000
open Go.RowKit

theorem wf_u64 {n : Int} (h : (Lit.int .u64 n).wf = true) : 0 ≤ n ∧ n ≤ 18446744073709551615 := by
  rw [Lit.wf_int_iff] at h; exact h
theorem fit_of {l : List Int} (h : ∀ n ∈ l, (Lit.int .i64 n).wf = true) : Fit l := fun x hx => wf_i64 (h x hx)
theorem bytes_of {l : List Int} (h : ∀ n ∈ l, (Lit.int .u8 n).wf = true) : ∀ x ∈ l, 0 ≤ x ∧ x ≤ 255 := fun x hx => wf_u8 (h x hx)
theorem fits_of {ll : List (List Int)} (h : ∀ l ∈ ll, l.length ≤ maxLen ∧ ∀ n ∈ l, (Lit.int .i64 n).wf = true) (hf : fewB ll = true) : Fits ll := fun l hl =>
  ⟨by have := (fewB_in hf).2 l hl; omega, fit_of (h l hl).2⟩
theorem short_of {ll : List (List Int)} (h : ∀ l ∈ ll, l.length ≤ maxLen ∧ ∀ n ∈ l, (Lit.int .i64 n).wf = true) (k : Nat) : (ll.getD k []).length ≤ 9223372036854775807 := by
  rcases Nat.lt_or_ge k ll.length with hk | hk
  · have : ll.getD k [] = ll[k] := by simp [List.getD_eq_getElem?_getD, hk]
    rw [this]; have := (h _ (List.getElem_mem hk)).1; unfold maxLen at this; omega
  · have : ll.getD k [] = [] := by simp [List.getD_eq_getElem?_getD, List.getElem?_eq_none hk]
    rw [this]; simp

set_option maxHeartbeats 4000000 in
theorem digestMatches_walk (A : Option Addr) (c : Nat) (l : List Int) (d : Int) (A2 : Option Addr) (c2 : Nat) (m : List Int) (A3 : Option Addr) (c3 : Nat) (ll : List (List Int)) (w : World)
    (hl : IntsAt w A .u8 l) (hlc : l.length ≤ c) (hcm : c ≤ maxLen) (hlw : ∀ n ∈ l, (Lit.int .u8 n).wf = true) (hdw : (Lit.int .u64 d).wf = true)
    (hm : IntsAt w A2 .i64 m) (hmc : m.length ≤ c2) (hcm2 : c2 ≤ maxLen) (hmw : ∀ n ∈ m, (Lit.int .i64 n).wf = true)
    (hll : ListsAt w A3 ll) (hllc : ll.length ≤ c3) (hcm3 : c3 ≤ maxLen) (hllw : ∀ l ∈ ll, l.length ≤ maxLen ∧ ∀ n ∈ l, (Lit.int .i64 n).wf = true) (ht : Tab w) :
    Calls Tryd.prog 3 #[.slice A l.length c, .int .u64 d, .slice A2 m.length c2, .slice A3 ll.length c3] w fun e w' => e = .returned (.bool true) ∧ Below w.heap.size w w' := by
  have hd := wf_u64 hdw
  unfold maxLen at hcm hcm2 hcm3
  have q1 := head_any w ht
  have H_hl := Lib.hid hl; clear hl; have H_hlw := Lib.hid hlw; clear hlw; have H_hdw := Lib.hid hdw; clear hdw; have H_hm := Lib.hid hm; clear hm; have H_hmw := Lib.hid hmw; clear hmw; have H_hll := Lib.hid hll; clear hll; have H_hllw := Lib.hid hllw; clear hllw; have H_ht := Lib.hid ht; clear ht; have H_q1 := Lib.hid q1; clear q1; have H_hd := Lib.hid hd; clear hd
  go_enter Tryd.func3, Tryd.ntmps3
  go_wp2_with fail
  refine H_q1.out.mono ?_
  rintro e w1 ⟨rfl, b1⟩
  have s1 := b1.size
  have l1 := H_hl.out.below b1
  have m1 := H_hm.out.below b1
  have ll1 := H_hll.out.below b1
  have t1 := H_ht.out.below b1
  have cb := bytes_of H_hlw.out
  have cf := fit_of H_hmw.out
  by_cases g1 : (500 : Int) < (l.length : Int)
  · have H_b1 := Lib.hid b1; clear b1; have H_l1 := Lib.hid l1; clear l1; have H_m1 := Lib.hid m1; clear m1; have H_ll1 := Lib.hid ll1; clear ll1; have H_t1 := Lib.hid t1; clear t1; have H_cb := Lib.hid cb; clear cb; have H_cf := Lib.hid cf; clear cf
    go_wp2_with fail
    go_ret
    exact ⟨rfl, H_b1.out⟩
  have g1' : decide ((500 : Int) < (l.length : Int)) = false := by simpa using g1
  by_cases g2 : (40 : Int) < (m.length : Int)
  · have H_b1 := Lib.hid b1; clear b1; have H_l1 := Lib.hid l1; clear l1; have H_m1 := Lib.hid m1; clear m1; have H_ll1 := Lib.hid ll1; clear ll1; have H_t1 := Lib.hid t1; clear t1; have H_cb := Lib.hid cb; clear cb; have H_cf := Lib.hid cf; clear cf
    go_wp2_with fail
    go_ret
    exact ⟨rfl, H_b1.out⟩
  have g2' : decide ((40 : Int) < (m.length : Int)) = false := by simpa using g2
  have hfew := few_any A3 c3 ll w1 ll1 (by omega) (short_of H_hllw.out)
  have hft := fits_of H_hllw.out
  generalize hF : fewB ll = F at *
  cases F with
  | false =>
    have H_b1 := Lib.hid b1; clear b1; have H_l1 := Lib.hid l1; clear l1; have H_m1 := Lib.hid m1; clear m1; have H_ll1 := Lib.hid ll1; clear ll1; have H_t1 := Lib.hid t1; clear t1; have H_cb := Lib.hid cb; clear cb; have H_cf := Lib.hid cf; clear cf; have H_hfew := Lib.hid hfew; clear hfew; have H_hF := Lib.hid hF; clear hF; have H_hft := Lib.hid hft; clear hft
    go_wp2_with fail
    refine H_hfew.out.mono ?_
    rintro e w2 ⟨rfl, rfl⟩
    go_wp2_with fail
    go_ret
    exact ⟨rfl, H_b1.out⟩
  | true =>
    have hft2 := hft rfl
    have hl40 := (fewB_in hF).1
    have q2 := digSum_val A c l.length l rfl _ rfl w1 l1 (by omega) cb
    generalize hS : sumB 14695981039346656037 l = S at *
    generalize hN : nextB d m = N at *
    generalize hC : chainB ll = C at *
    have e1 : (S == S) = true := by simp
    have e2 : (N == N) = true := by simp
    have e3 : (C == C) = true := by simp
    have H_b1 := Lib.hid b1; clear b1; have H_l1 := Lib.hid l1; clear l1; have H_m1 := Lib.hid m1; clear m1; have H_ll1 := Lib.hid ll1; clear ll1; have H_t1 := Lib.hid t1; clear t1; have H_cb := Lib.hid cb; clear cb; have H_cf := Lib.hid cf; clear cf; have H_hfew := Lib.hid hfew; clear hfew; have H_hF := Lib.hid hF; clear hF; have H_hft := Lib.hid hft; clear hft; have H_hft2 := Lib.hid hft2; clear hft2; have H_hS := Lib.hid hS; clear hS; have H_hN := Lib.hid hN; clear hN; have H_hC := Lib.hid hC; clear hC; have H_q2 := Lib.hid q2; clear q2
    go_wp2_with fail
    refine H_hfew.out.mono ?_
    rintro e w2 ⟨rfl, rfl⟩
    go_wp2_with fail
    refine H_q2.out.mono ?_
    rintro e w2 ⟨rfl, b2⟩
    have s2 := b2.size
    have bb2 := H_b1.out.trans (b2.mono s1)
    have q3 := refSum_val A c l.length l rfl S H_hS.out w2 (H_l1.out.below b2) (by omega) H_cb.out
    have q4 := digNext_val d A2 c2 m.length m rfl N H_hN.out w2 H_hd.out (H_m1.out.below b2) (by omega) H_cf.out (H_t1.out.below b2)
    have m2 := H_m1.out.below b2
    have ll2 := H_ll1.out.below b2
    have t2 := H_t1.out.below b2
    have H_b2 := Lib.hid b2; clear b2; have H_bb2 := Lib.hid bb2; clear bb2; have H_q3 := Lib.hid q3; clear q3; have H_q4 := Lib.hid q4; clear q4; have H_m2 := Lib.hid m2; clear m2; have H_ll2 := Lib.hid ll2; clear ll2; have H_t2 := Lib.hid t2; clear t2
    go_wp2_with fail
    refine H_q3.out.mono ?_
    rintro e w3 ⟨rfl, rfl⟩
    go_wp2_with fail
    refine H_q4.out.mono ?_
    rintro e w3 ⟨rfl, b3⟩
    have s3 := b3.size
    have bb3 := H_bb2.out.trans (b3.mono (by omega))
    have q5 := refNext_val d A2 c2 m.length m rfl N H_hN.out w3 H_hd.out (H_m2.out.below b3) (by omega) H_cf.out
    have ll3 := H_ll2.out.below b3
    have t3 := H_t2.out.below b3
    have H_b3 := Lib.hid b3; clear b3; have H_bb3 := Lib.hid bb3; clear bb3; have H_q5 := Lib.hid q5; clear q5; have H_ll3 := Lib.hid ll3; clear ll3; have H_t3 := Lib.hid t3; clear t3
    go_wp2_with fail
    refine H_q5.out.mono ?_
    rintro e w4 ⟨rfl, b4⟩
    have s4 := b4.size
    have bb4 := H_bb3.out.trans (b4.mono (by omega))
    have q6 := digChain_val A3 c3 ll.length ll rfl C H_hC.out w4 (H_ll3.out.below b4) (by omega) H_hft2.out (H_t3.out.below b4)
    have ll4 := H_ll3.out.below b4
    have H_b4 := Lib.hid b4; clear b4; have H_bb4 := Lib.hid bb4; clear bb4; have H_q6 := Lib.hid q6; clear q6; have H_ll4 := Lib.hid ll4; clear ll4
    go_wp2_with fail
    refine H_q6.out.mono ?_
    rintro e w5 ⟨rfl, b5⟩
    have s5 := b5.size
    have bb5 := H_bb4.out.trans (b5.mono (by omega))
    have q7 := refChain_val A3 c3 ll.length ll rfl C H_hC.out w5 (H_ll4.out.below b5) (by omega) H_hft2.out
    have H_b5 := Lib.hid b5; clear b5; have H_bb5 := Lib.hid bb5; clear bb5; have H_q7 := Lib.hid q7; clear q7
    go_wp2_with fail
    refine H_q7.out.mono ?_
    rintro e w6 ⟨rfl, b6⟩
    have bb6 := H_bb5.out.trans (b6.mono (by omega))
    have H_b6 := Lib.hid b6; clear b6; have H_bb6 := Lib.hid bb6; clear bb6
    go_wp2_with fail
    go_ret
    exact ⟨rfl, H_bb6.out⟩
end Go.Proofs.YtopdgjpoknndmaaDoor

/- The walk of CodecTorn. -/
import Derived.Test.YtopdgjpoknndmaaCodL4
namespace Go.Proofs.Ytopdgjpoknndmaa
set_option linter.unusedSimpArgs false
set_option linter.unusedVariables false
set_option maxRecDepth 100000
open Go.RowKit

theorem whole_torn (l : List Int) (j : Nat) (hj : j < (frameB l).length) (hn : l.length ≤ 30) (h : Fit l) : wholeB ((frameB l).take j) = none := by
  have hfl := frameB_len l
  have hfs := frame_short hn h
  generalize hN : (putB l).length = N at *
  have hlen : ((frameB l).take j).length = j := by simp; omega
  rw [wholeB, hlen]
  by_cases h1 : j < 11
  · rw [if_pos h1]
  rw [if_neg h1]
  have e : (frameB l).take j = hdB N ++ ((frameB l).drop 3).take (j - 3) := by
    have e1 : frameB l = hdB N ++ (frameB l).drop 3 := by simp [frameB, hdB, hN]
    conv => lhs; rw [e1]
    rw [List.take_append]
    have : (hdB N).length = 3 := rfl
    rw [this, List.take_of_length_le (by rw [this]; omega)]
  have hl : lenB ((frameB l).take j) = N := by rw [e]; exact lenB_hd N _ (by omega)
  rw [hl, if_pos (by omega)]
theorem frB_none {b : List Int} (h : wholeB b = none) : framesB b = ([], 0) := by rw [framesB, frB, h]
theorem torn (ll : List (List Int)) : ∀ (j : Nat), (∀ l ∈ ll, l.length ≤ 30 ∧ Fit l) →
    ∃ k, k ≤ ll.length ∧ (∀ i, i ≤ ll.length → ((allB (ll.take i)).length ≤ j ↔ i ≤ k)) ∧ framesB ((allB ll).take j) = (ll.take k, (allB (ll.take k)).length) := by
  induction ll with
  | nil => exact fun j _ => ⟨0, by simp, fun i hi => by simp at hi; subst hi; simp [allB], by simp [allB, framesB_nil]⟩
  | cons l r ih =>
    intro j h
    have hl := h l (by simp)
    have hr : ∀ x ∈ r, x.length ≤ 30 ∧ Fit x := fun x hx => h x (by simp [hx])
    have eall : ∀ i, allB ((l :: r).take (i + 1)) = frameB l ++ allB (r.take i) := fun i => by simp [allB]
    have eall' : allB (l :: r) = frameB l ++ allB r := by simp [allB]
    by_cases hf : (frameB l).length ≤ j
    · obtain ⟨k, h1, h2, h3⟩ := ih (j - (frameB l).length) hr
      refine ⟨k + 1, by simp; exact h1, fun i hi => ?_, ?_⟩
      · cases i with
        | zero => simp [allB]
        | succ i =>
          have := h2 i (by simpa using hi)
          rw [eall, List.length_append]
          omega
      · rw [eall', List.take_append, List.take_of_length_le hf]
        have := frames_behind [l] ((allB r).take (j - (frameB l).length)) (fun x hx => by simp at hx; subst hx; exact ⟨by omega, hl.2⟩)
        rw [show allB [l] = frameB l by simp [allB], h3] at this
        rw [this, eall]
        simp
    · refine ⟨0, by simp, fun i hi => ?_, ?_⟩
      · cases i with
        | zero => simp [allB]
        | succ i =>
          rw [eall, List.length_append]
          omega
      · rw [eall', List.take_append_of_le_length (by omega), frB_none (whole_torn l j (by omega) hl.1 hl.2)]
        simp [allB]
theorem endsB_get (ll : List (List Int)) (i : Nat) (hi : i < ll.length) : (endsB ll).getD i 0 = ((allB (ll.take (i + 1))).length : Int) := by
  simp [endsB, List.getD_eq_getElem?_getD, hi]
theorem endsB_len (ll : List (List Int)) : (endsB ll).length = ll.length := by simp [endsB]
theorem allB_take_le (ll : List (List Int)) (i : Nat) : (allB (ll.take i)).length ≤ (allB ll).length := by
  conv => rhs; rw [← List.take_append_drop i ll, allB, List.flatMap_append, List.length_append]
  exact Nat.le_add_right _ _

set_option maxHeartbeats 4000000 in
theorem codecTorn_walk (A : Option Addr) (c : Nat) (ll : List (List Int)) (cut : Int) (w : World) (hl : ListsAt w A ll) (hlc : ll.length ≤ c) (hcm : c ≤ maxLen) (hlw : ∀ l ∈ ll, l.length ≤ maxLen ∧ ∀ n ∈ l, (Lit.int .i64 n).wf = true)
    (hcut : (Lit.int .u16 cut).wf = true) :
    Calls Try.prog 5 #[.slice A ll.length c, .int .u16 cut] w fun e w' => e = .returned (.bool true) ∧ Below w.heap.size w w' := by
  have fl : ∀ l ∈ ll, Fit l := fun l hl x hx => wf_i64 ((hlw l hl).2 x hx)
  have hcu := wf_u16 hcut
  have hm1 : ll.length ≤ maxLen := by omega
  have hm3 : ∀ k, (ll.getD k []).length ≤ maxLen := getD_short fun l hl => (hlw l hl).1
  unfold maxLen at hm1 hm3
  have hh := head_any w
  have H_hl := Lib.hid hl; clear hl; have H_hlc := Lib.hid hlc; clear hlc; have H_hcm := Lib.hid hcm; clear hcm; have H_hlw := Lib.hid hlw; clear hlw; have H_fl := Lib.hid fl; clear fl; have H_hh := Lib.hid hh; clear hh; have H_hm3 := Lib.hid hm3; clear hm3; have H_hcut := Lib.hid hcut; clear hcut
  go_enter Try.func5, Try.ntmps5
  go_wp2_with fail
  refine H_hh.out.mono ?_
  rintro e w1 ⟨rfl, b1⟩
  have s1 := b1.size
  have l1 := H_hl.out.below b1
  have q1 := small_any A c ll w1 l1 H_hm3.out (by omega)
  have H_b1 := Lib.hid b1; clear b1; have H_l1 := Lib.hid l1; clear l1; have H_q1 := Lib.hid q1; clear q1
  go_wp2_with fail
  refine H_q1.out.mono ?_
  rintro e w2 ⟨rfl, rfl⟩
  by_cases hsm : smallB ll = true
  rotate_left
  · rw [Bool.not_eq_true] at hsm
    go_wp2_with fail
    go_ret
    exact ⟨rfl, H_b1.out⟩
  have hlen := smallB_len hsm
  have hin := smallB_in hsm
  have hin2 : ∀ l ∈ ll, l.length ≤ 30 ∧ Fit l := fun l hl => ⟨hin l hl, H_fl.out l hl⟩
  have q2 := frames_any A c ll w1 H_l1.out hsm H_fl.out
  have hal := allB_len ll hin2
  have hab := allB_bytes ll hin2
  obtain ⟨J, hJ⟩ : ∃ J : Nat, (J : Int) = cut % (((allB ll).length : Int) + 1) := ⟨(cut % (((allB ll).length : Int) + 1)).toNat, Int.toNat_of_nonneg (Int.emod_nonneg _ (by omega))⟩
  have hJ2 : J ≤ (allB ll).length := by have := Int.emod_lt_of_pos cut (b := (((allB ll).length : Int) + 1)) (by omega); omega
  obtain ⟨k, hk1, hk2, hk3⟩ := torn ll J hin2
  have hen := endsB_get ll
  have hel := endsB_len ll
  have hat := allB_take_le ll
  unfold FrsPost at q2
  generalize hX : allB ll = X at *
  generalize hE : endsB ll = E at *
  have hll : ∀ k, (ll.getD k []).length ≤ 1000000 := getD_short fun l hl => by have := hin l hl; omega
  have H_q2 := Lib.hid q2; clear q2; have H_hab := Lib.hid hab; clear hab; have H_hX := Lib.hid hX; clear hX; have H_hin := Lib.hid hin; clear hin; have H_hin2 := Lib.hid hin2; clear hin2; have H_hll := Lib.hid hll; clear hll; have H_hk2 := Lib.hid hk2; clear hk2; have H_hk3 := Lib.hid hk3; clear hk3; have H_hen := Lib.hid hen; clear hen; have H_hel := Lib.hid hel; clear hel; have H_hat := Lib.hid hat; clear hat; have H_hE := Lib.hid hE; clear hE
  go_wp2_with fail
  refine H_q2.out.mono ?_
  rintro e w2 ⟨X2, x2, F, f, rfl, o2, e2, b2⟩
  have s2 := b2.size
  have l2 := H_l1.out.below b2
  have bb2 := H_b1.out.trans (b2.mono s1)
  have oi2 := o2.ints
  have ei2 := e2.ints
  have oc2 := o2.cap
  have H_o2 := Lib.hid o2; clear o2; have H_e2 := Lib.hid e2; clear e2; have H_b2 := Lib.hid b2; clear b2; have H_l2 := Lib.hid l2; clear l2; have H_bb2 := Lib.hid bb2; clear bb2; have H_oi2 := Lib.hid oi2; clear oi2; have H_ei2 := Lib.hid ei2; clear ei2
  go_wp2_with fail
  go_loopw [10, 11, 12] (fun want size i wr => ∃ n q : Nat, n ≤ ll.length ∧ want = .int .i64 ((min n k : Nat) : Int) ∧ size = .int .i64 ((allB (ll.take (min n k))).length : Nat) ∧ i = .int .i64 n ∧ wr = w2.drewN q) (fun _ _ i _ => ll.length - (intOf i).toNat)
  case atStart => exact ⟨0, 0, by omega, by simp, by simp [allB], rfl, rfl⟩
  case round =>
    obtain ⟨n, q, hn, rfl, rfl, rfl, rfl⟩ := hrel
    by_cases hlt : n < ll.length
    · obtain ⟨eb, eoff, hF, hbs, hc⟩ := H_ei2.out n (by rw [H_hel.out]; exact hlt)
      rw [H_hen.out n hlt] at hc
      have i1 : (0 : Int) ≤ (n : Int) := by omega
      have i2 : (n : Int) < (ll.length : Int) := by omega
      have hiff := H_hk2.out (n + 1) (by omega)
      have hbd := H_hat.out (n + 1)
      subst hF
      by_cases hkn : n + 1 ≤ k
      · have hle := hiff.2 hkn
        have e1 : min n k = n := by omega
        have e2 : min (n + 1) k = n + 1 := by omega
        rw [e1]
        generalize hG : (allB (ll.take (n + 1))).length = G at *
        have i3 : (G : Int) ≤ cut % (↑X.length + 1) := by omega
        have H_hiff := Lib.hid hiff; clear hiff; have H_e1 := Lib.hid e1; clear e1; have H_e2 := Lib.hid e2; clear e2; have H_hG := Lib.hid hG; clear hG
        go_wp2_with fail
        go_quiet (fail)
        go_wp2_with fail
        go_roundw
        case rel => exact ⟨n + 1, _, by omega, by rw [H_e2.out]; go_num, by rw [H_e2.out, H_hG.out], by go_num, rfl⟩
        case measure => simp [intOf]; omega
      · have hle : ¬ (allB (ll.take (n + 1))).length ≤ J := fun h => hkn (hiff.1 h)
        have e2 : min (n + 1) k = min n k := by omega
        generalize hG : (allB (ll.take (n + 1))).length = G at *
        generalize hM : (allB (ll.take (min n k))).length = M at *
        have i3 : ¬ (G : Int) ≤ cut % (↑X.length + 1) := by omega
        have H_hiff := Lib.hid hiff; clear hiff; have H_e2 := Lib.hid e2; clear e2; have H_hG := Lib.hid hG; clear hG; have H_hM := Lib.hid hM; clear hM
        go_wp2_with fail
        go_roundw
        case rel => exact ⟨n + 1, _, by omega, by rw [H_e2.out], by rw [H_e2.out, H_hM.out], by go_num, rfl⟩
        case measure => simp [intOf]; omega
    · have i2 : ¬ (n : Int) < (ll.length : Int) := by omega
      have e1 : min n k = k := by omega
      rw [e1]
      have q3 := codFrames_at X2 x2 (cut % ((X.length : Int) + 1)).toNat (X.take J) (by simp; omega) (w2.drewN q) (H_oi2.out.take J) (by omega) (by omega) (bytes_getD fun x hx => H_hab.out x (List.mem_of_mem_take hx))
      have hkl : (ll.take k).length = k := by simp; omega
      have hM := H_hat.out k
      unfold FrPost at q3
      rw [H_hk3.out, hkl] at q3
      dsimp only at q3
      generalize hG : (allB (ll.take k)).length = G at *
      have H_e1 := Lib.hid e1; clear e1; have H_q3 := Lib.hid q3; clear q3; have H_hkl := Lib.hid hkl; clear hkl; have H_hG := Lib.hid hG; clear hG
      go_wp2_with fail
      refine H_q3.out.mono ?_
      rintro e w3 ⟨M, m, rfl, o3, b3⟩
      have s3 := b3.size
      have bq : Below w2.heap.size w2 w3 := (below_drewN (Below.refl w2.heap.size w2) q).trans b3
      have sq := bq.size
      have bb3 := H_bb2.out.trans (bq.mono (by omega))
      have l3 := (H_l2.out.take k).below bq
      have hkc : k ≤ c := by have := H_hlc.out; omega
      have hgd := getD_short (ll := ll.take k) (n := 1000000) fun l hl => by have := H_hin.out l (List.mem_of_mem_take hl); omega
      have q4 := sameLists_any M A m c (ll.take k) (ll.take k) w3 o3.lists l3 (by rw [H_hkl.out]; omega) (by rw [H_hkl.out]; omega) hgd hgd
      rw [sameL_refl, H_hkl.out] at q4
      have H_o3 := Lib.hid o3; clear o3; have H_b3 := Lib.hid b3; clear b3; have H_bq := Lib.hid bq; clear bq; have H_l3 := Lib.hid l3; clear l3; have H_bb3 := Lib.hid bb3; clear bb3; have H_q4 := Lib.hid q4; clear q4; have H_hgd := Lib.hid hgd; clear hgd
      go_wp2_with fail
      refine H_q4.out.mono ?_
      rintro e w4 ⟨rfl, q, e4⟩
      have b4 : Below w3.heap.size w3 w4 := by rw [e4]; exact below_drewN (Below.refl _ _) _
      clear e4
      have bb4 := H_bb3.out.trans (b4.mono (by omega))
      have H_b4 := Lib.hid b4; clear b4; have H_bb4 := Lib.hid bb4; clear bb4
      go_wp2_with fail
      go_ret
      exact ⟨rfl, H_bb4.out⟩
end Go.Proofs.Ytopdgjpoknndmaa

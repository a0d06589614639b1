/- Contracts of package innkeeperref06: SameInts, Weights, Share. -/
import Derived.Test.YtaloadadecoogaaDoorMnS
import Derived.Test.YtaloadadecoogaaDoorMnJ
import Derived.Test.YtaloadadecoogaaDoorStr
import Derived.BigQuiet
namespace Go.Proofs.YtaloadadecoogaaDoor
set_option linter.unusedSimpArgs false
set_option linter.unusedVariables false
set_option maxRecDepth 100000
open Go.RowKit Go.Maps

set_option maxHeartbeats 1000000 in
theorem rsame_any (A B : Option Addr) (c d : Nat) (l m : List Int) (w : World) (hl : IntsAt w A .i64 l) (hm : IntsAt w B .i64 m) (hn : l.length ≤ 1000000) (hn2 : m.length ≤ 1000000) :
    Calls Tryd.prog 16 #[.slice A l.length c, .slice B m.length d] w fun e w' => e = .returned (.bool (sameB l m)) ∧ ∃ q, w' = w.drewN q := by
  by_cases hne : l.length = m.length
  · have hd : ((l.length : Int) != (m.length : Int)) = false := by simp [hne]
    generalize hN : l.length = N at *
    generalize hM : m.length = M at *
    have hs := @list_eq_of l m (by omega)
    have H_hl := Lib.hid hl; clear hl; have H_hm := Lib.hid hm; clear hm; have H_hN := Lib.hid hN; clear hN; have H_hM := Lib.hid hM; clear hM; have H_hne := Lib.hid hne; clear hne; have H_hs := Lib.hid hs; clear hs
    go_enter Tryd.func16, Tryd.ntmps16
    go_wp2
    go_loopw [5] (fun i wr => ∃ k q : Nat, k ≤ N ∧ i = .int .i64 k ∧ (∀ j, j < k → l.getD j 0 = m.getD j 0) ∧ wr = w.drewN q) (fun i _ => N - (intOf i).toNat)
    case atStart => exact ⟨0, 0, by omega, rfl, fun j hj => absurd hj (by omega), rfl⟩
    case round =>
      obtain ⟨k, q, hk, rfl, hall, rfl⟩ := hrel
      by_cases hlt : k < N
      · obtain ⟨b, off, hA, hbs, hc⟩ := H_hl.out k (by rw [H_hN.out]; exact hlt)
        obtain ⟨b2, off2, hA2, hbs2, hc2⟩ := H_hm.out k (by rw [H_hM.out]; have := H_hne.out; omega)
        have hltM : k < M := by have := H_hne.out; omega
        have i1 : (0 : Int) ≤ (k : Int) := by omega
        have i2 : (k : Int) < (N : Int) := by omega
        have i3 : (k : Int) < (M : Int) := by omega
        have hnx := @list_ne_at l m k
        subst hA hA2
        have hnext : l.getD k 0 = m.getD k 0 → ∀ j, j < k + 1 → l.getD j 0 = m.getD j 0 := fun he j hj => by
          rcases Nat.lt_or_ge j k with h | h
          · exact hall j h
          · rw [show j = k by omega]; exact he
        generalize l.getD k 0 = x at *
        generalize m.getD k 0 = y at *
        by_cases hxy : x = y
        · have hb : (x != y) = false := by simp [hxy]
          have H_hall := Lib.hid hall; clear hall; have H_hnext := Lib.hid hnext; clear hnext; have H_hnx := Lib.hid hnx; clear hnx; have H_hxy := Lib.hid hxy; clear hxy
          go_wp2
          go_quiet (fail)
          go_wp2
          go_roundw
          case rel => exact ⟨k + 1, _, by omega, by go_num, H_hnext.out H_hxy.out, rfl⟩
          case measure => simp [intOf]; omega
        · have hb : (x != y) = true := by simp [hxy]
          have H_hall := Lib.hid hall; clear hall; have H_hnext := Lib.hid hnext; clear hnext; have H_hnx := Lib.hid hnx; clear hnx; have H_hxy := Lib.hid hxy; clear hxy
          go_wp2
          go_quiet (fail)
          go_wp2
          go_ret
          exact ⟨ret_bool (H_hnx.out H_hxy.out).symm, _, World.drewN_drewN _ _ _⟩
      · have hfin : sameB l m = true := H_hs.out fun j hj => hall j (by rw [H_hN.out] at hj; omega)
        have H_hall := Lib.hid hall; clear hall; have H_hfin := Lib.hid hfin; clear hfin
        go_wp2
        go_ret
        exact ⟨ret_bool H_hfin.out.symm, _, rfl⟩
  · have hd : ((l.length : Int) != (m.length : Int)) = true := by simp; omega
    have hz : sameB l m = false := by rw [Bool.eq_false_iff]; intro h; rw [sameB_iff] at h; exact hne (by rw [h])
    have H_hl := Lib.hid hl; clear hl; have H_hm := Lib.hid hm; clear hm; have H_hne := Lib.hid hne; clear hne; have H_hz := Lib.hid hz; clear hz
    go_enter Tryd.func16, Tryd.ntmps16
    go_wp2
    go_ret
    exact ⟨ret_bool H_hz.out.symm, 0, rfl⟩


theorem wts_yes {l : List Int} (h : ∀ x ∈ l, 0 ≤ x ∧ x ≤ 1000000) (h2 : l.length ≤ 1000) : wtsB l = decide (0 < sumL l) := by
  by_cases h3 : 0 < sumL l
  · rw [decide_eq_true h3]; exact wts_iff.2 ⟨h, h2, h3⟩
  · rw [decide_eq_false h3, Bool.eq_false_iff]; intro e; exact h3 (wts_iff.1 e).2.2
theorem wts_no {l : List Int} {k : Nat} (hk : k < l.length) (h : ¬ (0 ≤ l.getD k 0 ∧ l.getD k 0 ≤ 1000000)) : wtsB l = false := by
  rw [Bool.eq_false_iff]; intro e
  have hm : l.getD k 0 ∈ l := by rw [List.getD_eq_getElem?_getD, List.getElem?_eq_getElem hk]; exact List.getElem_mem hk
  exact h ((wts_iff.1 e).1 _ hm)
theorem wts_long {l : List Int} (h : 1000 < l.length) : wtsB l = false := by
  rw [Bool.eq_false_iff]; intro e
  have := (wts_iff.1 e).2.1; omega
set_option maxHeartbeats 4000000 in
theorem rweights_any (A : Option Addr) (cp n : Nat) (l : List Int) (hln : l.length = n) (hn : n ≤ 9223372036854775807) (w : World) (hl : IntsAt w A .i64 l) :
    Calls Tryd.prog 23 #[.slice A n cp] w fun e w' => e = .returned (.bool (wtsB l)) ∧ w = w' := by
  have H_hl := Lib.hid hl; clear hl; have H_hln := Lib.hid hln; clear hln
  go_enter Tryd.func23, Tryd.ntmps23
  go_wp2_with fail
  go_loopw [3, 4] (fun s i wr => ∃ k : Nat, k ≤ n ∧ i = .int .i64 k ∧ s = .int .i64 (sumL (l.take k)) ∧ (∀ x ∈ l.take k, 0 ≤ x ∧ x ≤ 1000000) ∧ k ≤ 1000 ∧ w = wr) (fun _ i _ => n - (intOf i).toNat)
  case atStart => exact ⟨0, by omega, rfl, rfl, fun x hx => by simp at hx, by omega, rfl⟩
  case round =>
    obtain ⟨k, hk, rfl, rfl, hall, hk1, rfl⟩ := hrel
    by_cases hlt : k < n
    · have g1 : (k : Int) < (n : Int) := by omega
      have g0 : (0 : Int) ≤ (k : Int) := by omega
      have hk9 : (k : Int) < 100000 := by omega
      have hk8 : (k : Int) ≤ 1000 := by omega
      have hkl : k < l.length := by rw [H_hln.out]; exact hlt
      obtain ⟨b, off, hA, hbl, hcx⟩ := H_hl.out k hkl
      subst hA
      have stp := sum_take l k hkl
      have bd := (sum_le _ hall).1
      have bu := (sum_le _ hall).2.1
      have tl := List.length_take_le k l
      have yw := fun h1 => all_take hkl hall h1
      have nw := wts_no hkl
      generalize l.getD k 0 = x at *
      by_cases h1 : x < 0
      · have i1 : decide (x < 0) = true := decide_eq_true h1
        have e := nw (by omega)
        have H_stp := Lib.hid stp; clear stp; have H_bd := Lib.hid bd; clear bd; have H_bu := Lib.hid bu; clear bu; have H_tl := Lib.hid tl; clear tl; have H_yw := Lib.hid yw; clear yw; have H_nw := Lib.hid nw; clear nw; have H_e := Lib.hid e; clear e; have H_hall := Lib.hid hall; clear hall
        go_wp2_with fail
        go_ret
        exact ⟨ret_bool (by rw [H_e.out]), rfl⟩
      have i1 : decide (x < 0) = false := decide_eq_false h1
      by_cases h2 : 1000000 < x
      · have i2 : decide (1000000 < x) = true := decide_eq_true h2
        have e := nw (by omega)
        have H_stp := Lib.hid stp; clear stp; have H_bd := Lib.hid bd; clear bd; have H_bu := Lib.hid bu; clear bu; have H_tl := Lib.hid tl; clear tl; have H_yw := Lib.hid yw; clear yw; have H_nw := Lib.hid nw; clear nw; have H_e := Lib.hid e; clear e; have H_hall := Lib.hid hall; clear hall
        go_wp2_with fail
        go_ret
        exact ⟨ret_bool (by rw [H_e.out]), rfl⟩
      have i2 : decide (1000000 < x) = false := decide_eq_false h2
      by_cases h3 : 1000 ≤ k
      · have i3 : decide ((1000 : Int) ≤ (k : Int)) = true := decide_eq_true (by omega)
        have e := wts_long (l := l) (by omega)
        have H_stp := Lib.hid stp; clear stp; have H_bd := Lib.hid bd; clear bd; have H_bu := Lib.hid bu; clear bu; have H_tl := Lib.hid tl; clear tl; have H_yw := Lib.hid yw; clear yw; have H_nw := Lib.hid nw; clear nw; have H_e := Lib.hid e; clear e; have H_hall := Lib.hid hall; clear hall
        go_wp2_with fail
        go_ret
        exact ⟨ret_bool (by rw [H_e.out]), rfl⟩
      have i3 : decide ((1000 : Int) ≤ (k : Int)) = false := decide_eq_false (by omega)
      have h9 := yw (by omega)
      have kk : IntKind.i64.wrap (sumL (l.take k) + x) = sumL (l.take k) + x := IntWalk.i64_in _ (by omega)
      rw [← stp] at kk
      generalize hS1 : sumL (l.take (k + 1)) = S1 at *
      generalize sumL (l.take k) = S at *
      have k4 : IntKind.i64.wrap (S + x) = S1 := by rw [← stp, kk]
      clear kk
      have H_hS1 := Lib.hid hS1; clear hS1; have H_stp := Lib.hid stp; clear stp; have H_bd := Lib.hid bd; clear bd; have H_bu := Lib.hid bu; clear bu; have H_tl := Lib.hid tl; clear tl; have H_yw := Lib.hid yw; clear yw; have H_nw := Lib.hid nw; clear nw; have H_hall := Lib.hid hall; clear hall; have H_h9 := Lib.hid h9; clear h9
      go_wp2_with fail
      go_roundw
      case rel => exact ⟨k + 1, by omega, by go_num, (by rw [H_hS1.out]), H_h9.out, by omega, (by first | trivial | rfl)⟩
      case measure => simp [intOf]; omega
    · have g1 : ¬ (k : Int) < (n : Int) := by omega
      have tk : l.take k = l := List.take_of_length_le (by rw [H_hln.out]; omega)
      rw [tk] at hall
      have e := wts_yes hall (by rw [H_hln.out]; omega)
      rw [tk]
      generalize sumL l = S at *
      have H_hall := Lib.hid hall; clear hall; have H_tk := Lib.hid tk; clear tk; have H_e := Lib.hid e; clear e
      go_wp2_with fail
      go_ret
      exact ⟨ret_bool (by rw [H_e.out]), rfl⟩
set_option maxHeartbeats 8000000 in
theorem rshare_any (A : Option Addr) (cp n : Nat) (c : Int) (l : List Int) (hln : l.length = n) (hn : n ≤ 100000) (w : World) (hl : IntsAt w A .i64 l) :
    Calls Tryd.prog 15 #[.int .i64 c, .slice A n cp] w (OwnErr 3 .i64 (shV c l) (shE c l) w) := by
  obtain ⟨i0, hi, hz0, hz1, hz2⟩ := info_parts infoMI
  have q1 := fun W => ramount_any c W
  have q2 := rweights_any A cp n l hln (by omega) w hl
  cases ha : amtB c with
  | false =>
    rw [ha] at q1
    obtain ⟨eE, eV⟩ := sh_no (c := c) (l := l) (by rw [ha]; simp)
    have H_hi := Lib.hid hi; clear hi; have H_hz0 := Lib.hid hz0; clear hz0; have H_hz1 := Lib.hid hz1; clear hz1; have H_hz2 := Lib.hid hz2; clear hz2; have H_q1 := Lib.hid q1; clear q1; have H_q2 := Lib.hid q2; clear q2; have H_ha := Lib.hid ha; clear ha; have H_eE := Lib.hid eE; clear eE; have H_eV := Lib.hid eV; clear eV; have H_hl := Lib.hid hl; clear hl; have H_hln := Lib.hid hln; clear hln
    go_enter Tryd.func15, Tryd.ntmps15
    go_wp2_with fail
    (with_reducible refine (H_q1.out _).mono ?_)
    rintro e w_ ⟨rfl, hw_⟩
    subst hw_
    go_wp2_with fail
    go_ret2
    exact ⟨none, 0, by rw [H_eE.out, H_eV.out]; rfl, by rw [H_eV.out]; exact OwnInts.nil _ _ _ _, Below.refl _ _⟩
  | true =>
  rw [ha] at q1
  cases hw : wtsB l with
  | false =>
    rw [hw] at q2
    obtain ⟨eE, eV⟩ := sh_no (c := c) (l := l) (by rw [hw]; simp)
    have H_hi := Lib.hid hi; clear hi; have H_hz0 := Lib.hid hz0; clear hz0; have H_hz1 := Lib.hid hz1; clear hz1; have H_hz2 := Lib.hid hz2; clear hz2; have H_q1 := Lib.hid q1; clear q1; have H_q2 := Lib.hid q2; clear q2; have H_ha := Lib.hid ha; clear ha; have H_hw := Lib.hid hw; clear hw; have H_eE := Lib.hid eE; clear eE; have H_eV := Lib.hid eV; clear eV; have H_hl := Lib.hid hl; clear hl; have H_hln := Lib.hid hln; clear hln
    go_enter Tryd.func15, Tryd.ntmps15
    go_wp2_with fail
    (with_reducible refine (H_q1.out _).mono ?_)
    rintro e w_ ⟨rfl, hw_⟩
    subst hw_
    go_wp2_with fail
    (with_reducible refine H_q2.out.mono ?_)
    rintro e w_ ⟨rfl, hw_⟩
    subst hw_
    go_wp2_with fail
    go_ret2
    exact ⟨none, 0, by rw [H_eE.out, H_eV.out]; rfl, by rw [H_eV.out]; exact OwnInts.nil _ _ _ _, Below.refl _ _⟩
  | true =>
  rw [hw] at q2
  obtain ⟨eE, eV⟩ := sh_yes ⟨ha, hw⟩
  obtain ⟨hall, hlen, hpos⟩ := wts_iff.1 hw
  obtain ⟨sn, su, _⟩ := sum_le l hall
  have hca := amtB_iff.1 ha
  have shl := shL_len c (sumL l) l 0
  have stk := sum_take_le l hall
  rw [hln] at shl su hlen
  have htm : sumL l ≤ 1000000000 := by omega
  generalize hT : sumL l = T at *
  have H_hi := Lib.hid hi; clear hi; have H_hz0 := Lib.hid hz0; clear hz0; have H_hz1 := Lib.hid hz1; clear hz1; have H_hz2 := Lib.hid hz2; clear hz2; have H_q1 := Lib.hid q1; clear q1; have H_q2 := Lib.hid q2; clear q2; have H_ha := Lib.hid ha; clear ha; have H_hw := Lib.hid hw; clear hw; have H_eE := Lib.hid eE; clear eE; have H_eV := Lib.hid eV; clear eV; have H_hl := Lib.hid hl; clear hl; have H_hln := Lib.hid hln; clear hln; have H_hall := Lib.hid hall; clear hall; have H_sn := Lib.hid sn; clear sn; have H_su := Lib.hid su; clear su; have H_hca := Lib.hid hca; clear hca; have H_shl := Lib.hid shl; clear shl; have H_stk := Lib.hid stk; clear stk; have H_hT := Lib.hid hT; clear hT
  go_enter Tryd.func15, Tryd.ntmps15
  go_wp2_with fail
  (with_reducible refine (H_q1.out _).mono ?_)
  rintro e w_ ⟨rfl, hw_⟩
  subst hw_
  go_wp2_with fail
  (with_reducible refine H_q2.out.mono ?_)
  rintro e w_ ⟨rfl, hw_⟩
  subst hw_
  go_wp2_with fail
  go_loopw [6, 7] (fun s i wr => ∃ k : Nat, k ≤ n ∧ i = .int .i64 k ∧ s = .int .i64 (sumL (l.take k)) ∧ w = wr) (fun _ i _ => n - (intOf i).toNat)
  case atStart => exact ⟨0, by omega, rfl, rfl, rfl⟩
  case round =>
    obtain ⟨k, hk, rfl, rfl, rfl⟩ := hrel
    by_cases hlt : k < n
    · have g1 : (k : Int) < (n : Int) := by omega
      have g0 : (0 : Int) ≤ (k : Int) := by omega
      have hk9 : (k : Int) < 100000 := by omega
      have hkl : k < l.length := by rw [H_hln.out]; exact hlt
      obtain ⟨b, off, hA, hbl, hcx⟩ := H_hl.out k hkl
      subst hA
      have stp := sum_take l k hkl
      have b1 := H_stk.out k
      have b2 := H_stk.out (k + 1)
      generalize l.getD k 0 = x at *
      generalize hS1 : sumL (l.take (k + 1)) = S1 at *
      generalize sumL (l.take k) = S at *
      have k4 : IntKind.i64.wrap (S + x) = S1 := by rw [← stp, IntWalk.i64_in _ (by omega)]
      have H_hS1 := Lib.hid hS1; clear hS1; have H_stp := Lib.hid stp; clear stp; have H_b1 := Lib.hid b1; clear b1; have H_b2 := Lib.hid b2; clear b2
      go_wp2_with fail
      go_roundw
      case rel => exact ⟨k + 1, by omega, by go_num, (by rw [H_hS1.out]), (by first | trivial | rfl)⟩
      case measure => simp [intOf]; omega
    · have g1 : ¬ (k : Int) < (n : Int) := by omega
      have tk : l.take k = l := List.take_of_length_le (by rw [H_hln.out]; omega)
      rw [tk, H_hT.out]
      go_wp2_with fail
      go_loopw [8, 9, 10] (fun o s i wr => ∃ (k : Nat) (B : Option Addr) (d : Nat), k ≤ n ∧ i = .int .i64 k ∧ s = .int .i64 (sumL (l.take k)) ∧ o = .slice B k d ∧ OwnInts wr w.heap.size 3 .i64 B d (shL c T 0 (l.take k)) ∧ Below w.heap.size w wr) (fun _ _ i _ => n - (intOf i).toNat)
      case atStart => exact ⟨0, none, 0, by omega, rfl, rfl, rfl, OwnInts.nil _ _ _ _, Below.refl _ _⟩
      case round =>
        obtain ⟨k, B, d, hk, rfl, rfl, rfl, own, bz⟩ := hrel
        have sz := bz.size
        by_cases hlt : k < n
        · have g1 : (k : Int) < (n : Int) := by omega
          have g0 : (0 : Int) ≤ (k : Int) := by omega
          have hk9 : (k : Int) < 100000 := by omega
          obtain ⟨b, off, hA, hbl, hcx⟩ := (H_hl.out.below bz) k (by rw [H_hln.out]; exact hlt)
          subst hA
          have hkl : k < l.length := by rw [H_hln.out]; exact hlt
          have stp := sum_take l k hkl
          have sno := shL_snoc (c := c) (T := T) hkl
          have t1 := H_stk.out k
          have t2 := H_stk.out (k + 1)
          have len := shL_len c T (l.take k) 0
          rw [List.length_take, H_hln.out, Nat.min_eq_left (by omega)] at len
          rw [stp] at t2
          generalize l.getD k 0 = x at *
          generalize shL c T 0 (l.take k) = L at *
          generalize hL1 : shL c T 0 (l.take (k + 1)) = L1 at *
          generalize hS1 : sumL (l.take (k + 1)) = S1 at *
          generalize sumL (l.take k) = S at *
          have m1 := mul_in H_hca.out (S := S) (by omega)
          have m2 := mul_in H_hca.out (S := S + x) (by omega)
          have qq1 := fun W => rfloor_any (c * S) T (by omega) (by omega) W
          have qq2 := fun W => rfloor_any (c * (S + x)) T (by omega) (by omega) W
          have hab : (-1000000000000000000 ≤ (c * S) / T ∧ (c * S) / T ≤ 1000000000000000000) ∧ (-1000000000000000000 ≤ (c * (S + x)) / T ∧ (c * (S + x)) / T ≤ 1000000000000000000) := by
            have a1 := Int.ediv_le_ediv (show 0 < T by omega) m1.1
            have a2 := Int.ediv_le_ediv (show 0 < T by omega) m1.2
            have a3 := Int.ediv_le_ediv (show 0 < T by omega) m2.1
            have a4 := Int.ediv_le_ediv (show 0 < T by omega) m2.2
            have z1 : (1000000000000000000 : Int) / T ≤ 1000000000000000000 := Int.ediv_le_self _ (by omega)
            have z2 : (-1000000000000000000 : Int) ≤ (-1000000000000000000 : Int) / T := by
              rw [Int.le_ediv_iff_mul_le (by omega)]; omega
            omega
          have k1 : IntKind.i64.wrap (c * S) = c * S := IntWalk.i64_in _ (by omega)
          have k2 : IntKind.i64.wrap (c * (S + x)) = c * (S + x) := IntWalk.i64_in _ (by omega)
          have k3 : IntKind.i64.wrap (S + x) = S + x := IntWalk.i64_in _ (by omega)
          have k4 : IntKind.i64.wrap ((c * (S + x)) / T - (c * S) / T) = (c * (S + x)) / T - (c * S) / T := IntWalk.i64_in _ (by omega)
          clear m1 m2
          generalize hP : (c * S) / T = P at *
          generalize hQ : (c * (S + x)) / T = Q at *
          have H_hP := Lib.hid hP; clear hP; have H_hQ := Lib.hid hQ; clear hQ; have H_hL1 := Lib.hid hL1; clear hL1; have H_hS1 := Lib.hid hS1; clear hS1; have H_own := Lib.hid own; clear own; have H_bz := Lib.hid bz; clear bz; have H_stp := Lib.hid stp; clear stp; have H_sno := Lib.hid sno; clear sno; have H_t1 := Lib.hid t1; clear t1; have H_t2 := Lib.hid t2; clear t2; have H_len := Lib.hid len; clear len; have H_qq1 := Lib.hid qq1; clear qq1; have H_qq2 := Lib.hid qq2; clear qq2; have H_hab := Lib.hid hab; clear hab
          go_wp2_with fail
          (with_reducible refine (H_qq1.out _).mono ?_)
          rintro e w_ ⟨rfl, rfl⟩
          go_wp2_with fail
          (with_reducible refine (H_qq2.out _).mono ?_)
          rintro e w_ ⟨rfl, rfl⟩
          go_wp2_with (at_builtin; refine wp_app_at _ rfl (.tmp 49) (.tmp 57) _ rfl w.heap.size 3 i0 _ 8 Tryd.underlying25 H_hi.out H_hz0.out H_hz1.out H_hz2.out rfl .i64 B d k L H_len.out rfl (H_own.out.alloc _) (some ⟨wr.heap.size, 0, none⟩) 1 1 [Q - P] rfl rfl (ints_new1 _ _ _ _ _ rfl) (by omega) (by omega) (by simp; omega) ?_)
          intro B2 d2 w4 own4 g4 _
          have b4 : Below w.heap.size w w4 := (H_bz.out.alloc sz _).grown g4 (by simp; omega) (fun g hg => (H_own.out.lt g hg).1)
          rw [← H_sno.out] at own4
          have H_own4 := Lib.hid own4; clear own4; have H_g4 := Lib.hid g4; clear g4; have H_b4 := Lib.hid b4; clear b4
          go_wp2_with fail
          go_roundw
          case rel => exact ⟨k + 1, B2, d2, by omega, by go_num, (by rw [H_hS1.out, H_stp.out]), by rfl, (by rw [H_hL1.out]; exact H_own4.out), H_b4.out⟩
          case measure => simp [intOf]; omega
        · have g1 : ¬ (k : Int) < (n : Int) := by omega
          have hkn : k = n := by omega
          have tk : l.take k = l := List.take_of_length_le (by rw [H_hln.out]; omega)
          rw [tk] at own
          subst hkn
          have H_own := Lib.hid own; clear own; have H_bz := Lib.hid bz; clear bz; have H_tk := Lib.hid tk; clear tk
          go_wp2_with fail
          go_ret2
          exact ⟨B, d, by rw [H_eE.out, H_eV.out, H_shl.out]; rfl, by rw [H_eV.out]; exact H_own.out, H_bz.out⟩
end Go.Proofs.YtaloadadecoogaaDoor

/- Contracts of package innkeeperref01: abs, gcd, Valid, Rounded and Part at rounding to even. -/
import Derived.Test.YtaloadadecoogaaDoorMnI
import Derived.Test.YtaloadadecoogaaDoorMnE
namespace Go.Proofs.YtaloadadecoogaaDoor
set_option linter.unusedSimpArgs false
set_option linter.unusedVariables false
set_option maxRecDepth 100000
open Go.RowKit Go.Maps

theorem qabs_any (n : Int) (w : World) (h : -9223372036854775807 ≤ n ∧ n ≤ 9223372036854775807) : Calls Tryd.prog 43 #[.int .i64 n] w fun e w' => e = .returned (.int .i64 (n.natAbs : Int)) ∧ w = w' := by
  by_cases h0 : n < 0
  · have k1 : IntKind.i64.wrap (-n) = (n.natAbs : Int) := by rw [IntWalk.i64_in _ (by omega)]; omega
    have i1 : decide (n < 0) = true := decide_eq_true h0
    go_enter Tryd.func43, Tryd.ntmps43
    go_wp2_with fail
    go_ret
    exact ⟨rfl, rfl⟩
  · have k1 : n = (n.natAbs : Int) := by omega
    have i1 : decide (n < 0) = false := decide_eq_false h0
    have H_k1 := Lib.hid k1; clear k1
    go_enter Tryd.func43, Tryd.ntmps43
    go_wp2_with fail
    go_ret
    exact ⟨ret_i64 H_k1.out, rfl⟩
theorem gcd_next (a b : Nat) : Nat.gcd a b = Nat.gcd b (a % b) := by rw [Nat.gcd_comm, Nat.gcd_rec, Nat.gcd_comm]
set_option maxHeartbeats 1000000 in
theorem qgcd_any (a b : Nat) (h : a ≤ 9223372036854775807 ∧ b ≤ 9223372036854775807) (w : World) : Calls Tryd.prog 42 #[.int .i64 a, .int .i64 b] w fun e w' => e = .returned (.int .i64 (Nat.gcd a b : Nat)) ∧ w = w' := by
  go_enter Tryd.func42, Tryd.ntmps42
  go_wp2_with fail
  go_loopw [0, 1] (fun x y wr => ∃ m n : Nat, x = .int .i64 m ∧ y = .int .i64 n ∧ (m ≤ 9223372036854775807 ∧ n ≤ 9223372036854775807) ∧ Nat.gcd a b = Nat.gcd m n ∧ w = wr) (fun _ y _ => (intOf y).toNat)
  case atStart => exact ⟨a, b, rfl, rfl, h, rfl, rfl⟩
  case round =>
    obtain ⟨m, n, rfl, rfl, hb, hg, rfl⟩ := hrel
    by_cases hn : n = 0
    · subst hn
      have i1 : (((0 : Nat) : Int) != 0) = false := rfl
      rw [Nat.gcd_zero_right] at hg
      have H_hg := Lib.hid hg; clear hg
      go_wp2_with fail
      go_ret
      exact ⟨by rw [H_hg.out]; rfl, rfl⟩
    · have i1 : ((n : Int) != 0) = true := by rw [bne_iff_ne]; omega
      have i2 : ((n : Int) == 0) = false := by rw [beq_eq_false_iff_ne]; omega
      have i3 : ¬ (n : Int) = 0 := by omega
      have lt := Nat.mod_lt m (show 0 < n by omega)
      have t1 : (m : Int).tmod (n : Int) = ((m % n : Nat) : Int) := (Int.ofNat_tmod m n).symm
      have k1 : IntKind.i64.wrap ((m % n : Nat) : Int) = ((m % n : Nat) : Int) := IntWalk.i64_in _ (by omega)
      rw [gcd_next m n] at hg
      generalize m % n = z at *
      have H_hg := Lib.hid hg; clear hg
      go_wp2_with fail
      go_roundw
      case rel => exact ⟨n, z, rfl, rfl, ⟨hb.2, by omega⟩, H_hg.out, (by first | trivial | rfl)⟩
      case measure => simp [intOf]; omega
set_option maxHeartbeats 4000000 in
theorem qrat_any (n d : Int) (hn : -9223372036854775808 ≤ n ∧ n ≤ 9223372036854775807) (hd : -9223372036854775808 ≤ d ∧ d ≤ 9223372036854775807) (w : World) :
    Calls Tryd.prog 30 #[.agg #[.int .i64 n, .int .i64 d]] w fun e w' => e = .returned (.bool (ratB n d)) ∧ Below w.heap.size w w' := by
  obtain ⟨w0, hw0⟩ : ∃ W, w.alloc (.cells #[.int .i64 n, .int .i64 d] 40) = W := ⟨_, rfl⟩
  have bb0 : Below w.heap.size w w0 := by rw [← hw0]; exact (Below.refl _ _).alloc (Nat.le_refl _) _
  have k0 : Blk w0 w.heap.size #[.int .i64 n, .int .i64 d] := by rw [← hw0]; exact blk_new rfl
  have y0 := (k0 0 _ rfl).at
  have y1 := (k0 1 _ rfl).at
  have ly := (k0 0 _ rfl).lt
  by_cases h1 : d < 1
  · have e : ratB n d = false := by simp [ratB, amtB]; omega
    have i1 : decide (d < 1) = true := decide_eq_true h1
    have H_hw0 := Lib.hid hw0; clear hw0; have H_bb0 := Lib.hid bb0; clear bb0; have H_k0 := Lib.hid k0; clear k0; have H_e := Lib.hid e; clear e; have H_hn := Lib.hid hn; clear hn; have H_hd := Lib.hid hd; clear hd
    go_enter Tryd.func30, Tryd.ntmps30
    go_wp2_with fail
    rw [H_hw0.out]
    go_wp2_with fail
    go_ret
    exact ⟨ret_bool H_e.out.symm, H_bb0.out⟩
  have i1 : decide (d < 1) = false := decide_eq_false h1
  by_cases h2 : 1000000 < d
  · have e : ratB n d = false := by simp [ratB, amtB]; omega
    have i2 : decide (1000000 < d) = true := decide_eq_true h2
    have H_hw0 := Lib.hid hw0; clear hw0; have H_bb0 := Lib.hid bb0; clear bb0; have H_k0 := Lib.hid k0; clear k0; have H_e := Lib.hid e; clear e; have H_hn := Lib.hid hn; clear hn; have H_hd := Lib.hid hd; clear hd
    go_enter Tryd.func30, Tryd.ntmps30
    go_wp2_with fail
    rw [H_hw0.out]
    go_wp2_with fail
    go_ret
    exact ⟨ret_bool H_e.out.symm, H_bb0.out⟩
  have i2 : decide (1000000 < d) = false := decide_eq_false h2
  by_cases h3 : n < -1000000000
  · have e : ratB n d = false := by simp [ratB, amtB]; omega
    have i3 : decide (n < -1000000000) = true := decide_eq_true h3
    have H_hw0 := Lib.hid hw0; clear hw0; have H_bb0 := Lib.hid bb0; clear bb0; have H_k0 := Lib.hid k0; clear k0; have H_e := Lib.hid e; clear e; have H_hn := Lib.hid hn; clear hn; have H_hd := Lib.hid hd; clear hd
    go_enter Tryd.func30, Tryd.ntmps30
    go_wp2_with fail
    rw [H_hw0.out]
    go_wp2_with fail
    go_ret
    exact ⟨ret_bool H_e.out.symm, H_bb0.out⟩
  have i3 : decide (n < -1000000000) = false := decide_eq_false h3
  by_cases h4 : 1000000000 < n
  · have e : ratB n d = false := by simp [ratB, amtB]; omega
    have i4 : decide (1000000000 < n) = true := decide_eq_true h4
    have H_hw0 := Lib.hid hw0; clear hw0; have H_bb0 := Lib.hid bb0; clear bb0; have H_k0 := Lib.hid k0; clear k0; have H_e := Lib.hid e; clear e; have H_hn := Lib.hid hn; clear hn; have H_hd := Lib.hid hd; clear hd
    go_enter Tryd.func30, Tryd.ntmps30
    go_wp2_with fail
    rw [H_hw0.out]
    go_wp2_with fail
    go_ret
    exact ⟨ret_bool H_e.out.symm, H_bb0.out⟩
  have i4 : decide (1000000000 < n) = false := decide_eq_false h4
  have e : ratB n d = (((Nat.gcd n.natAbs d.toNat : Nat) : Int) == 1) := by
    have e1 : decide (1 ≤ d) = true := decide_eq_true (by omega)
    have e2 : decide (d ≤ 1000000) = true := decide_eq_true (by omega)
    have e3 : amtB n = true := amtB_iff.2 (by omega)
    rw [ratB, e1, e2, e3, Bool.true_and, Bool.true_and, Bool.true_and, Bool.eq_iff_iff, decide_eq_true_eq, beq_iff_eq]
    omega
  have qa := fun W => qabs_any n W (by omega)
  obtain ⟨D, hD⟩ : ∃ D : Nat, d = (D : Int) := ⟨d.toNat, by omega⟩
  subst hD
  have qg := fun W => qgcd_any n.natAbs D ⟨by omega, by omega⟩ W
  rw [Int.toNat_natCast] at e
  generalize n.natAbs = M at *
  generalize Nat.gcd M D = G at *
  have H_hw0 := Lib.hid hw0; clear hw0; have H_bb0 := Lib.hid bb0; clear bb0; have H_k0 := Lib.hid k0; clear k0; have H_e := Lib.hid e; clear e; have H_hn := Lib.hid hn; clear hn; have H_hd := Lib.hid hd; clear hd; have H_qa := Lib.hid qa; clear qa; have H_qg := Lib.hid qg; clear qg
  go_enter Tryd.func30, Tryd.ntmps30
  go_wp2_with fail
  rw [H_hw0.out]
  go_wp2_with fail
  refine wp_region_held_drew (S := (fun W => (∀ b o, b < w0.heap.size → W.cell? ⟨b, o, none⟩ = w0.cell? ⟨b, o, none⟩) ∧ Below w0.heap.size w0 W)) (by kernel_rfl) ?_ (fun hHeld => ?_)
  · (try dsimp only); (first | (refine ext_mk ?_; (repeat (first | with_reducible exact Below.refl _ _ | with_reducible exact Nat.le_refl _ | with_reducible assumption | with_reducible refine Below.drew ?_ | with_reducible refine below_drewN ?_ _ | with_reducible refine Below.alloc ?_ ?_ _ | with_reducible refine Below.setCell ?_ ?_ _ | with_reducible exact And.right (by assumption) | with_reducible refine Below.trans ?_ (Below.mono (by assumption) ?_) | with_reducible exact Below.size (And.right (by assumption)) | (focus omega) | (focus (simp; done)) | (focus (simp; omega)) | (focus (simp at *; omega))))))
  refine take_at (i := 0) (some 21) rfl rfl (by kernel_rfl) (fun _ _ _ h => h) (by rfl) (v := ?_) ?_ (by assumption) ?_
  rotate_left
  · intro W hSw; (try dsimp only at hSw); go_simp; (try with_reducible rfl)
  (try simp only [Act.put, List.setIfInBounds_toArray, List.set_cons_zero, List.set_cons_succ])
  refine take_at (i := 1) (some 22) rfl rfl (by kernel_rfl) (fun _ _ _ h => h) (by rfl) (v := ?_) ?_ (by assumption) ?_
  rotate_left
  · intro W hSw; (try dsimp only at hSw); go_simp; (try with_reducible rfl)
  (try simp only [Act.put, List.setIfInBounds_toArray, List.set_cons_zero, List.set_cons_succ])
  refine take_at (i := 3) (some 24) rfl rfl (by kernel_rfl) (fun _ _ _ h => h) (by rfl) (v := ?_) ?_ (by assumption) ?_
  rotate_left
  · intro W hSw; (try dsimp only at hSw); go_simp; (try with_reducible rfl)
  (try simp only [Act.put, List.setIfInBounds_toArray, List.set_cons_zero, List.set_cons_succ])
  refine take_at (i := 4) (some 25) rfl rfl (by kernel_rfl) (fun _ _ _ h => h) (by rfl) (v := ?_) ?_ (by assumption) ?_
  rotate_left
  · intro W hSw; (try dsimp only at hSw); go_simp; (try with_reducible rfl)
  (try simp only [Act.put, List.setIfInBounds_toArray, List.set_cons_zero, List.set_cons_succ])
  refine wpAnyH_ready (rs := [2]) (by kernel_rfl) (by simp) ?_
  refine AllReadyH.cons rfl (fun K hK => ?_) AllReadyH.nil
  go_simp
  (first | ((with_reducible refine (H_qa.out _).mono ?_); rintro e w_ ⟨rfl, rfl⟩) | ((with_reducible refine (H_qg.out _).mono ?_); rintro e w_ ⟨rfl, rfl⟩))
  refine hK.out _ _ ?_ (fun hHeld => ?_)
  · (try dsimp only); (first | (refine ext_mk ?_; (repeat (first | with_reducible exact Below.refl _ _ | with_reducible exact Nat.le_refl _ | with_reducible assumption | with_reducible refine Below.drew ?_ | with_reducible refine below_drewN ?_ _ | with_reducible refine Below.alloc ?_ ?_ _ | with_reducible refine Below.setCell ?_ ?_ _ | with_reducible exact And.right (by assumption) | with_reducible refine Below.trans ?_ (Below.mono (by assumption) ?_) | with_reducible exact Below.size (And.right (by assumption)) | (focus omega) | (focus (simp; done)) | (focus (simp; omega)) | (focus (simp at *; omega))))))
  clear hK K
  (try simp only [Act.put, List.setIfInBounds_toArray, List.set_cons_zero, List.set_cons_succ])
  refine wpAnyH_ready (rs := [5]) (by kernel_rfl) (by simp) ?_
  refine AllReadyH.cons rfl (fun K hK => ?_) AllReadyH.nil
  go_simp
  (first | ((with_reducible refine (H_qa.out _).mono ?_); rintro e w_ ⟨rfl, rfl⟩) | ((with_reducible refine (H_qg.out _).mono ?_); rintro e w_ ⟨rfl, rfl⟩))
  refine hK.out _ _ ?_ (fun hHeld => ?_)
  · (try dsimp only); (first | (refine ext_mk ?_; (repeat (first | with_reducible exact Below.refl _ _ | with_reducible exact Nat.le_refl _ | with_reducible assumption | with_reducible refine Below.drew ?_ | with_reducible refine below_drewN ?_ _ | with_reducible refine Below.alloc ?_ ?_ _ | with_reducible refine Below.setCell ?_ ?_ _ | with_reducible exact And.right (by assumption) | with_reducible refine Below.trans ?_ (Below.mono (by assumption) ?_) | with_reducible exact Below.size (And.right (by assumption)) | (focus omega) | (focus (simp; done)) | (focus (simp; omega)) | (focus (simp at *; omega))))))
  clear hK K
  (try simp only [Act.put, List.setIfInBounds_toArray, List.set_cons_zero, List.set_cons_succ])
  refine take_at (i := 6) (some 27) rfl rfl (by kernel_rfl) (fun _ _ _ h => h) (by rfl) (v := ?_) ?_ (by assumption) ?_
  rotate_left
  · intro W hSw; (try dsimp only at hSw); go_simp; (try with_reducible rfl)
  (try simp only [Act.put, List.setIfInBounds_toArray, List.set_cons_zero, List.set_cons_succ])
  refine take_at (i := 7) (some 2) rfl rfl (by kernel_rfl) (fun _ _ _ h => h) (by rfl) (v := ?_) ?_ (by assumption) ?_
  rotate_left
  · intro W hSw; (try dsimp only at hSw); go_simp; (try with_reducible rfl)
  (try simp only [Act.put, List.setIfInBounds_toArray, List.set_cons_zero, List.set_cons_succ])
  refine wpAnyH_done (by kernel_rfl) ?_ _
  have gF : Below w0.heap.size w0 _ := And.right (by assumption)
  go_wp2_with fail
  go_ret
  exact ⟨ret_bool H_e.out.symm, H_bb0.out.trans (gF.mono H_bb0.out.size)⟩
set_option maxHeartbeats 4000000 in
theorem qround_any (x d : Int) (hx : -1000000000000000000 ≤ x ∧ x ≤ 1000000000000000000) (hd : 1 ≤ d ∧ d ≤ 1000000) (w : World) :
    Calls Tryd.prog 41 #[.int .i64 x, .int .i64 d, .int .i64 3] w fun e w' => e = .returned (.int .i64 (rdE x d)) ∧ w = w' := by
  obtain ⟨q, r, e1, h0, h1, hq, _, eR⟩ := rdE_cases (x := x) (d := d) (by omega)
  have qf := fun W => qfloor_any x d (by omega) (by omega) W
  rw [hq] at qf
  have qb : -1000000000000000001 ≤ q ∧ q ≤ 1000000000000000001 := by
    have a := rdE_le (x := x) (d := d) (B := 1000000000000000000) (by omega) (by omega) (by omega)
    have b := rdE_ge (x := x) (d := d) (B := 1000000000000000000) (by omega) (by omega) (by omega)
    rw [eR] at a b
    constructor
    · rw [← hq, Int.le_ediv_iff_mul_le (by omega)]; omega
    · split at a <;> omega
  have k1 : IntKind.i64.wrap (q * d) = x - r := by rw [Int.mul_comm, IntWalk.i64_in _ (by omega)]; omega
  have k2 : IntKind.i64.wrap (x - (x - r)) = r := by rw [IntWalk.i64_in _ (by omega)]; omega
  have k3 : IntKind.i64.wrap (d - r) = d - r := IntWalk.i64_in _ (by omega)
  have k4 : IntKind.i64.wrap (q + 1) = q + 1 := IntWalk.i64_in _ (by omega)
  have k6 : IntKind.i64.wrap r = r := IntWalk.i64_in _ (by omega)
  have tm := Int.tmod_eq_emod (a := q) (b := 2)
  have tb : -2 < q.tmod 2 ∧ q.tmod 2 < 2 := ⟨Int.lt_tmod_of_pos _ (by omega), Int.tmod_lt_of_pos _ (by omega)⟩
  have k5 : IntKind.i64.wrap (q.tmod 2) = q.tmod 2 := IntWalk.i64_in _ (by omega)
  by_cases hA : d - r < r
  · rw [if_pos (by omega)] at eR
    have i1 : decide (d - r < r) = true := decide_eq_true hA
    have H_e1 := Lib.hid e1; clear e1; have H_h0 := Lib.hid h0; clear h0; have H_h1 := Lib.hid h1; clear h1; have H_hq := Lib.hid hq; clear hq; have H_eR := Lib.hid eR; clear eR; have H_qf := Lib.hid qf; clear qf; have H_qb := Lib.hid qb; clear qb; have H_tm := Lib.hid tm; clear tm; have H_tb := Lib.hid tb; clear tb; have H_hx := Lib.hid hx; clear hx; have H_hd := Lib.hid hd; clear hd
    go_enter Tryd.func41, Tryd.ntmps41
    go_wp2_with fail
    (with_reducible refine (H_qf.out _).mono ?_)
    rintro e w_ ⟨rfl, rfl⟩
    go_wp2_with fail
    go_ret
    exact ⟨ret_i64 H_eR.out.symm, rfl⟩
  have i1 : decide (d - r < r) = false := decide_eq_false hA
  by_cases hB : r = d - r
  · have i2 : (r == d - r) = true := by rw [beq_iff_eq]; exact hB
    by_cases hC : q % 2 = 1
    · rw [if_pos (by omega)] at eR
      have i3 : (q.tmod 2 != 0) = true := by rw [bne_iff_ne]; intro e; rw [e] at tm; split at tm <;> omega
      have i4 : ¬ q.tmod 2 = 0 := by simpa using i3
      have H_e1 := Lib.hid e1; clear e1; have H_h0 := Lib.hid h0; clear h0; have H_h1 := Lib.hid h1; clear h1; have H_hq := Lib.hid hq; clear hq; have H_eR := Lib.hid eR; clear eR; have H_qf := Lib.hid qf; clear qf; have H_qb := Lib.hid qb; clear qb; have H_tm := Lib.hid tm; clear tm; have H_tb := Lib.hid tb; clear tb; have H_hx := Lib.hid hx; clear hx; have H_hd := Lib.hid hd; clear hd; have H_hB := Lib.hid hB; clear hB; have H_hC := Lib.hid hC; clear hC
      go_enter Tryd.func41, Tryd.ntmps41
      go_wp2_with fail
      (with_reducible refine (H_qf.out _).mono ?_)
      rintro e w_ ⟨rfl, rfl⟩
      go_wp2_with fail
      go_ret
      exact ⟨ret_i64 H_eR.out.symm, rfl⟩
    · rw [if_neg (by omega)] at eR
      have i4 : q.tmod 2 = 0 := by
        have : (2 : Int) ∣ q := ⟨q / 2, by omega⟩
        exact Int.tmod_eq_zero_of_dvd this
      have i3 : (q.tmod 2 != 0) = false := by rw [i4]; rfl
      have H_e1 := Lib.hid e1; clear e1; have H_h0 := Lib.hid h0; clear h0; have H_h1 := Lib.hid h1; clear h1; have H_hq := Lib.hid hq; clear hq; have H_eR := Lib.hid eR; clear eR; have H_qf := Lib.hid qf; clear qf; have H_qb := Lib.hid qb; clear qb; have H_tm := Lib.hid tm; clear tm; have H_tb := Lib.hid tb; clear tb; have H_hx := Lib.hid hx; clear hx; have H_hd := Lib.hid hd; clear hd; have H_hB := Lib.hid hB; clear hB; have H_hC := Lib.hid hC; clear hC
      go_enter Tryd.func41, Tryd.ntmps41
      go_wp2_with fail
      (with_reducible refine (H_qf.out _).mono ?_)
      rintro e w_ ⟨rfl, rfl⟩
      go_wp2_with fail
      go_ret
      exact ⟨ret_i64 H_eR.out.symm, rfl⟩
  · have i2 : (r == d - r) = false := by rw [beq_eq_false_iff_ne]; exact hB
    rw [if_neg (by omega)] at eR
    have H_e1 := Lib.hid e1; clear e1; have H_h0 := Lib.hid h0; clear h0; have H_h1 := Lib.hid h1; clear h1; have H_hq := Lib.hid hq; clear hq; have H_eR := Lib.hid eR; clear eR; have H_qf := Lib.hid qf; clear qf; have H_qb := Lib.hid qb; clear qb; have H_tm := Lib.hid tm; clear tm; have H_tb := Lib.hid tb; clear tb; have H_hx := Lib.hid hx; clear hx; have H_hd := Lib.hid hd; clear hd; have H_hB := Lib.hid hB; clear hB
    go_enter Tryd.func41, Tryd.ntmps41
    go_wp2_with fail
    (with_reducible refine (H_qf.out _).mono ?_)
    rintro e w_ ⟨rfl, rfl⟩
    go_wp2_with fail
    go_ret
    exact ⟨ret_i64 H_eR.out.symm, rfl⟩
end Go.Proofs.YtaloadadecoogaaDoor

/- Contracts of packages money and innkeeperref06, innkeeperref01: floor. -/
import Derived.Test.YtaloadadecoogaaDoorMnH
namespace Go.Proofs.YtaloadadecoogaaDoor
set_option linter.unusedSimpArgs false
set_option linter.unusedVariables false
set_option maxRecDepth 100000
open Go.RowKit Go.Maps

theorem tm_parts (n d : Int) (hd : 1 ≤ d) : (-d < n.tmod d ∧ n.tmod d < d) ∧ (n.tmod d + d).tmod d = n % d ∧ (n - n % d).tdiv d = n / d ∧ (n.tmod d < 0 → n / d = n.tdiv d - 1) ∧ (¬ n.tmod d < 0 → n / d = n.tdiv d) ∧ (0 ≤ n % d ∧ n % d < d) := by
  have b1 := Int.tmod_lt_of_pos n (show 0 < d by omega)
  have b2 := Int.lt_tmod_of_pos n (show 0 < d by omega)
  have b3 := Int.emod_nonneg n (show d ≠ 0 by omega)
  have b4 := Int.emod_lt_of_pos n (show 0 < d by omega)
  have e1 := Int.mul_tdiv_add_tmod n d
  have e2 := Int.mul_ediv_add_emod n d
  have u : ∀ {a b r s : Int}, d * a + r = d * b + s → -d < r - s → r - s < d → a = b := fun {a b r s} h h1 h2 => by
    rcases Int.lt_trichotomy a b with hh | hh | hh
    · exfalso
      have h3 : d * (a + 1) ≤ d * b := Int.mul_le_mul_of_nonneg_left hh (by omega)
      rw [Int.mul_add, Int.mul_one] at h3; omega
    · exact hh
    · exfalso
      have h3 : d * (b + 1) ≤ d * a := Int.mul_le_mul_of_nonneg_left hh (by omega)
      rw [Int.mul_add, Int.mul_one] at h3; omega
  refine ⟨⟨b2, b1⟩, ?_, ?_, fun h => ?_, fun h => ?_, b3, b4⟩
  · rw [Int.tmod_eq_emod_of_nonneg (by omega), Int.add_emod_right]
    have h5 := Int.add_mul_emod_self_left (n.tmod d) d (n.tdiv d)
    rw [Int.add_comm, e1] at h5; exact h5.symm
  · rw [show n - n % d = d * (n / d) by omega, Int.mul_tdiv_cancel_left _ (by omega)]
  · apply u (r := n % d) (s := n.tmod d + d)
    · rw [Int.mul_sub, Int.mul_one]; omega
    · omega
    · omega
  · apply u (r := n % d) (s := n.tmod d) <;> omega
set_option maxHeartbeats 4000000 in
theorem mfloor_any (n d : Int) (hn : -4000000000000000000 ≤ n ∧ n ≤ 4000000000000000000) (hd : 1 ≤ d ∧ d ≤ 1000000000000) (w : World) :
    Calls Tryd.prog 33 #[.int .i64 n, .int .i64 d] w fun e w' => e = .returned (.int .i64 (n / d)) ∧ w = w' := by
  obtain ⟨⟨a1, a2⟩, a3, a4, _, _, a5, a6⟩ := tm_parts n d hd.1
  have d0 : ¬ d = 0 := by omega
  have d1 : (d == 0) = false := by rw [beq_eq_false_iff_ne]; exact d0
  have ab := Int.natAbs_tdiv_le_natAbs (n - n % d) d
  have k1 : IntKind.i64.wrap (n.tmod d) = n.tmod d := IntWalk.i64_in _ (by omega)
  have k2 : IntKind.i64.wrap (n.tmod d + d) = n.tmod d + d := IntWalk.i64_in _ (by omega)
  have k3 : IntKind.i64.wrap (n % d) = n % d := IntWalk.i64_in _ (by omega)
  have k4 : IntKind.i64.wrap (n - n % d) = n - n % d := IntWalk.i64_in _ (by omega)
  rw [a4] at ab
  have k5 : IntKind.i64.wrap (n / d) = n / d := IntWalk.i64_in _ (by omega)
  have H_ab := Lib.hid ab; clear ab
  go_enter Tryd.func33, Tryd.ntmps33
  go_wp2_with fail
  go_ret
  exact ⟨rfl, rfl⟩
set_option maxHeartbeats 4000000 in
theorem rfloor_any (n d : Int) (hn : -4000000000000000000 ≤ n ∧ n ≤ 4000000000000000000) (hd : 1 ≤ d ∧ d ≤ 1000000000000) (w : World) :
    Calls Tryd.prog 34 #[.int .i64 n, .int .i64 d] w fun e w' => e = .returned (.int .i64 (n / d)) ∧ w = w' := by
  obtain ⟨⟨a1, a2⟩, _, _, a3, a4, _, _⟩ := tm_parts n d hd.1
  have d0 : ¬ d = 0 := by omega
  have d1 : (d == 0) = false := by rw [beq_eq_false_iff_ne]; exact d0
  have ab := Int.natAbs_tdiv_le_natAbs n d
  have k1 : IntKind.i64.wrap (n.tmod d) = n.tmod d := IntWalk.i64_in _ (by omega)
  have k2 : IntKind.i64.wrap (n.tdiv d) = n.tdiv d := IntWalk.i64_in _ (by omega)
  have k3 : IntKind.i64.wrap (n.tdiv d - 1) = n.tdiv d - 1 := IntWalk.i64_in _ (by omega)
  by_cases hm : n.tmod d < 0
  · have e := a3 hm
    have i1 : decide (n.tmod d < 0) = true := decide_eq_true hm
    clear a3 a4
    have H_ab := Lib.hid ab; clear ab; have H_e := Lib.hid e; clear e; have H_hm := Lib.hid hm; clear hm
    go_enter Tryd.func34, Tryd.ntmps34
    go_wp2_with fail
    go_ret
    exact ⟨ret_i64 H_e.out.symm, rfl⟩
  · have e := a4 hm
    have i1 : decide (n.tmod d < 0) = false := decide_eq_false hm
    clear a3 a4
    have H_ab := Lib.hid ab; clear ab; have H_e := Lib.hid e; clear e; have H_hm := Lib.hid hm; clear hm
    go_enter Tryd.func34, Tryd.ntmps34
    go_wp2_with fail
    go_ret
    exact ⟨ret_i64 H_e.out.symm, rfl⟩
set_option maxHeartbeats 4000000 in
theorem qfloor_any (n d : Int) (hn : -4000000000000000000 ≤ n ∧ n ≤ 4000000000000000000) (hd : 1 ≤ d ∧ d ≤ 1000000000000) (w : World) :
    Calls Tryd.prog 49 #[.int .i64 n, .int .i64 d] w fun e w' => e = .returned (.int .i64 (n / d)) ∧ w = w' := by
  obtain ⟨⟨a1, a2⟩, _, _, a3, a4, _, _⟩ := tm_parts n d hd.1
  have d0 : ¬ d = 0 := by omega
  have d1 : (d == 0) = false := by rw [beq_eq_false_iff_ne]; exact d0
  have ab := Int.natAbs_tdiv_le_natAbs n d
  have k1 : IntKind.i64.wrap (n.tmod d) = n.tmod d := IntWalk.i64_in _ (by omega)
  have k2 : IntKind.i64.wrap (n.tdiv d) = n.tdiv d := IntWalk.i64_in _ (by omega)
  have k3 : IntKind.i64.wrap (n.tdiv d - 1) = n.tdiv d - 1 := IntWalk.i64_in _ (by omega)
  by_cases hm : n.tmod d < 0
  · have e := a3 hm
    have i1 : decide (n.tmod d < 0) = true := decide_eq_true hm
    clear a3 a4
    have H_ab := Lib.hid ab; clear ab; have H_e := Lib.hid e; clear e; have H_hm := Lib.hid hm; clear hm
    go_enter Tryd.func49, Tryd.ntmps49
    go_wp2_with fail
    go_ret
    exact ⟨ret_i64 H_e.out.symm, rfl⟩
  · have e := a4 hm
    have i1 : decide (n.tmod d < 0) = false := decide_eq_false hm
    clear a3 a4
    have H_ab := Lib.hid ab; clear ab; have H_e := Lib.hid e; clear e; have H_hm := Lib.hid hm; clear hm
    go_enter Tryd.func49, Tryd.ntmps49
    go_wp2_with fail
    go_ret
    exact ⟨ret_i64 H_e.out.symm, rfl⟩
end Go.Proofs.YtaloadadecoogaaDoor

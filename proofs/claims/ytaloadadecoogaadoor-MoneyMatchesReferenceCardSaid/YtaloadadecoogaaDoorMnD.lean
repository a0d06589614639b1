/- Contracts of package ratio: rounding to even. -/
import Derived.Test.YtaloadadecoogaaDoorMnB
namespace Go.Proofs.YtaloadadecoogaaDoor
set_option linter.unusedSimpArgs false
set_option linter.unusedVariables false
set_option maxRecDepth 100000
open Go.RowKit Go.Maps

theorem and_one (n : Int) : bits .and .i64 n 1 = n % 2 := by
  have h1 : (BitVec.ofInt 64 1).toNat = 2 ^ 1 - 1 := by decide
  have key : (BitVec.ofInt 64 n &&& BitVec.ofInt 64 1).toNat = (n % ((2 ^ 64 : Nat) : Int)).toNat % 2 ^ 1 := by
    rw [BitVec.toNat_and, BitVec.toNat_ofInt, h1, Nat.and_two_pow_sub_one_eq_mod]
  show IntKind.i64.wrap ((BitVec.ofInt 64 n &&& BitVec.ofInt 64 1).toNat : Nat) = n % 2
  rw [key, IntKind.wrap_i64]
  omega
def evnB (b r d : Int) : Bool := decide (2 * r > d ∨ (2 * r = d ∧ b % 2 = 1))
set_option maxHeartbeats 4000000 in
theorem even_any (b r d : Int) (hb : -2000000000000000000 ≤ b ∧ b ≤ 2000000000000000000) (hr : 0 ≤ r ∧ r < d) (hd : d ≤ 1000000) (w : World) :
    Calls Tryd.prog 48 #[.int .i64 b, .int .i64 r, .int .i64 d] w fun e w' => e = .returned (.bool (evnB b r d)) ∧ Below w.heap.size w w' := by
  have k1 : IntKind.i64.wrap (2 * r) = 2 * r := IntWalk.i64_in _ (by omega)
  by_cases h1 : d < 2 * r
  · have e : evnB b r d = true := by simp [evnB]; omega
    have i1 : decide (d < 2 * r) = true := decide_eq_true h1
    have H_hb := Lib.hid hb; clear hb; have H_hr := Lib.hid hr; clear hr; have H_hd := Lib.hid hd; clear hd; have H_e := Lib.hid e; clear e
    go_enter Tryd.func48, Tryd.ntmps48
    go_wp2_with fail
    go_ret
    exact ⟨ret_bool H_e.out.symm, Below.refl _ _⟩
  have i1 : decide (d < 2 * r) = false := decide_eq_false h1
  by_cases h2 : 2 * r = d
  · have i2 : (2 * r == d) = true := by simp [h2]
    have e : evnB b r d = decide (b % 2 = 1) := by simp [evnB, h2]
    have ha := and_one b
    have H_hb := Lib.hid hb; clear hb; have H_hr := Lib.hid hr; clear hr; have H_hd := Lib.hid hd; clear hd; have H_e := Lib.hid e; clear e; have H_h2 := Lib.hid h2; clear h2
    go_enter Tryd.func48, Tryd.ntmps48
    go_wp2_with fail
    go_ret
    exact ⟨ret_bool (by rw [H_e.out]; rfl), Below.refl _ _⟩
  · have i2 : (2 * r == d) = false := by simp [h2]
    have e : evnB b r d = false := by simp [evnB]; omega
    have H_hb := Lib.hid hb; clear hb; have H_hr := Lib.hid hr; clear hr; have H_hd := Lib.hid hd; clear hd; have H_e := Lib.hid e; clear e; have H_h2 := Lib.hid h2; clear h2
    go_enter Tryd.func48, Tryd.ntmps48
    go_wp2_with fail
    go_ret
    exact ⟨ret_bool H_e.out.symm, Below.refl _ _⟩
theorem floor_of {x d B : Int} (hd : 0 < d) (h : 0 ≤ x - B * d ∧ x - B * d < d) : rdE x d = (if evnB B (x - B * d) d = true then B + 1 else B) := by
  rw [rdE_of (q := B) (r := x - B * d) hd (by rw [Int.mul_comm]; omega) h.1 h.2, evnB]
  simp only [decide_eq_true_eq]
theorem tdiv_low {x d : Int} (hd : 0 < d) : (x.tdiv d * d ≤ x → 0 ≤ x - x.tdiv d * d ∧ x - x.tdiv d * d < d) ∧ (x < x.tdiv d * d → 0 ≤ x - (x.tdiv d - 1) * d ∧ x - (x.tdiv d - 1) * d < d) ∧ (x.tdiv d * d).natAbs ≤ x.natAbs := by
  have e := Int.mul_tdiv_add_tmod x d
  have e2 : x.tdiv d * d = d * x.tdiv d := Int.mul_comm _ _
  have e3 : (x.tdiv d - 1) * d = d * x.tdiv d - d := by rw [Int.sub_mul, Int.one_mul, Int.mul_comm]
  have b1 := Int.tmod_lt_of_pos x hd
  have b2 := Int.lt_tmod_of_pos x hd
  have s : (0 ≤ x → 0 ≤ x.tmod d ∧ 0 ≤ x.tdiv d * d) ∧ (x ≤ 0 → x.tmod d ≤ 0 ∧ x.tdiv d * d ≤ 0) := by
    constructor
    · intro h
      exact ⟨Int.tmod_nonneg _ h, Int.mul_nonneg (Int.tdiv_nonneg h (by omega)) (by omega)⟩
    · intro h
      have h1 : 0 ≤ (-x).tmod d := Int.tmod_nonneg _ (by omega)
      have h2 : 0 ≤ (-x).tdiv d * d := Int.mul_nonneg (Int.tdiv_nonneg (by omega) (by omega)) (by omega)
      rw [Int.neg_tmod] at h1
      rw [Int.neg_tdiv, Int.neg_mul] at h2
      omega
  rw [e3, e2]
  rw [e2] at s
  generalize d * x.tdiv d = P at *
  generalize x.tmod d = r at *
  omega
set_option maxHeartbeats 4000000 in
theorem round_any (x d : Int) (hx : -1000000000000000000 ≤ x ∧ x ≤ 1000000000000000000) (hd : 1 ≤ d ∧ d ≤ 1000000) (w : World) :
    Calls Tryd.prog 39 #[.agg #[.int .i64 x, .int .i64 d], .agg #[.func (.func 48) #[] #[]]] w fun e w' => e = .returned (.int .i64 (rdE x d)) ∧ Below w.heap.size w w' := by
  obtain ⟨w0, hw0⟩ : ∃ W, (w.alloc (.cells #[.int .i64 x, .int .i64 d] 72)).alloc (.cells #[.func (.func 48) #[] #[]] 67) = W := ⟨_, rfl⟩
  have bb0 : Below w.heap.size w w0 := by rw [← hw0]; exact ((Below.refl _ _).alloc (Nat.le_refl _) _).alloc (by simp) _
  have k0 : Blk w0 w.heap.size #[.int .i64 x, .int .i64 d] := by rw [← hw0]; exact (blk_new rfl).alloc _
  have g0 : Blk w0 (w.heap.size + 1) #[.func (.func 48) #[] #[]] := by rw [← hw0]; exact blk_new (by simp)
  have y0 := (k0 0 _ rfl).at
  have y1 := (k0 1 _ rfl).at
  have z0 := (g0 0 _ rfl).at
  have ly := (k0 0 _ rfl).lt
  have lz := (g0 0 _ rfl).lt
  obtain ⟨l1, l2, l3⟩ := tdiv_low (x := x) (d := d) (by omega)
  have lt := Int.natAbs_tdiv_le_natAbs x d
  have d0 : ¬ d = 0 := by omega
  have d1 : (d == 0) = false := by rw [beq_eq_false_iff_ne]; exact d0
  have k1 : IntKind.i64.wrap (x.tdiv d) = x.tdiv d := IntWalk.i64_in _ (by omega)
  have k2 : IntKind.i64.wrap (x.tdiv d * d) = x.tdiv d * d := IntWalk.i64_in _ (by omega)
  have tb : -1000000000000000000 ≤ x.tdiv d ∧ x.tdiv d ≤ 1000000000000000000 := by omega
  by_cases hlt : x < x.tdiv d * d
  · have h := l2 hlt
    have fin := floor_of (x := x) (d := d) (by omega) h
    have q := fun W => even_any (x.tdiv d - 1) (x - (x.tdiv d - 1) * d) d (by omega) h (by omega) W
    have i1 : decide (x < x.tdiv d * d) = true := decide_eq_true hlt
    have k3 : IntKind.i64.wrap (x.tdiv d - 1) = x.tdiv d - 1 := IntWalk.i64_in _ (by omega)
    have k4 : IntKind.i64.wrap ((x.tdiv d - 1) * d) = (x.tdiv d - 1) * d := IntWalk.i64_in _ (by omega)
    have k5 : IntKind.i64.wrap (x - (x.tdiv d - 1) * d) = x - (x.tdiv d - 1) * d := IntWalk.i64_in _ (by omega)
    have k6 : IntKind.i64.wrap (x.tdiv d - 1 + 1) = x.tdiv d - 1 + 1 := IntWalk.i64_in _ (by omega)
    generalize evnB (x.tdiv d - 1) (x - (x.tdiv d - 1) * d) d = C at *
    clear l1 l2 l3 lt h
    have H_hw0 := Lib.hid hw0; clear hw0; have H_bb0 := Lib.hid bb0; clear bb0; have H_k0 := Lib.hid k0; clear k0; have H_g0 := Lib.hid g0; clear g0; have H_hx := Lib.hid hx; clear hx; have H_hd := Lib.hid hd; clear hd; have H_fin := Lib.hid fin; clear fin; have H_q := Lib.hid q; clear q; have H_tb := Lib.hid tb; clear tb; have H_hlt := Lib.hid hlt; clear hlt
    go_enter Tryd.func39, Tryd.ntmps39
    go_wp2_with fail
    rw [H_hw0.out]
    (with_reducible refine (H_q.out _).mono ?_)
    rintro e w1 ⟨rfl, b1⟩
    have bb1 := H_bb0.out.trans (b1.mono H_bb0.out.size)
    have H_b1 := Lib.hid b1; clear b1; have H_bb1 := Lib.hid bb1; clear bb1
    cases C with
    | true =>
      go_wp2_with fail
      go_ret
      exact ⟨ret_i64 (by have h := H_fin.out; simp at h; omega), H_bb1.out⟩
    | false =>
      go_wp2_with fail
      go_ret
      exact ⟨ret_i64 (by have h := H_fin.out; simp at h; omega), H_bb1.out⟩
  · have h := l1 (by omega)
    have fin := floor_of (x := x) (d := d) (by omega) h
    have q := fun W => even_any (x.tdiv d) (x - x.tdiv d * d) d (by omega) h (by omega) W
    have i1 : decide (x < x.tdiv d * d) = false := decide_eq_false hlt
    have k5 : IntKind.i64.wrap (x - x.tdiv d * d) = x - x.tdiv d * d := IntWalk.i64_in _ (by omega)
    have k6 : IntKind.i64.wrap (x.tdiv d + 1) = x.tdiv d + 1 := IntWalk.i64_in _ (by omega)
    generalize evnB (x.tdiv d) (x - x.tdiv d * d) d = C at *
    clear l1 l2 l3 lt h
    have H_hw0 := Lib.hid hw0; clear hw0; have H_bb0 := Lib.hid bb0; clear bb0; have H_k0 := Lib.hid k0; clear k0; have H_g0 := Lib.hid g0; clear g0; have H_hx := Lib.hid hx; clear hx; have H_hd := Lib.hid hd; clear hd; have H_fin := Lib.hid fin; clear fin; have H_q := Lib.hid q; clear q; have H_tb := Lib.hid tb; clear tb; have H_hlt := Lib.hid hlt; clear hlt
    go_enter Tryd.func39, Tryd.ntmps39
    go_wp2_with fail
    rw [H_hw0.out]
    (with_reducible refine (H_q.out _).mono ?_)
    rintro e w1 ⟨rfl, b1⟩
    have bb1 := H_bb0.out.trans (b1.mono H_bb0.out.size)
    have H_b1 := Lib.hid b1; clear b1; have H_bb1 := Lib.hid bb1; clear bb1
    cases C with
    | true =>
      go_wp2_with fail
      go_ret
      exact ⟨ret_i64 (by have h := H_fin.out; simp at h; omega), H_bb1.out⟩
    | false =>
      go_wp2_with fail
      go_ret
      exact ⟨ret_i64 (by have h := H_fin.out; simp at h; omega), H_bb1.out⟩
end Go.Proofs.YtaloadadecoogaaDoor

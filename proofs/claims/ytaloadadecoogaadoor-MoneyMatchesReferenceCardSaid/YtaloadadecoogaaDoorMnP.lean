/- Money in plain Lean: rounding to even, shares. -/
import Derived.RowKit
namespace Go.Proofs.YtaloadadecoogaaDoor
set_option linter.unusedSimpArgs false
set_option linter.unusedVariables false
set_option maxRecDepth 100000
open Go.RowKit

/-- x / d, rounded, a half to the even number -/
def rdE (x d : Int) : Int := if 2 * (x % d) > d ∨ (2 * (x % d) = d ∧ (x / d) % 2 = 1) then x / d + 1 else x / d
theorem rdE_cases {x d : Int} (hd : 0 < d) : ∃ q r, d * q + r = x ∧ 0 ≤ r ∧ r < d ∧ x / d = q ∧ x % d = r ∧ rdE x d = (if 2 * r > d ∨ (2 * r = d ∧ q % 2 = 1) then q + 1 else q) :=
  ⟨x / d, x % d, Int.mul_ediv_add_emod x d, Int.emod_nonneg x (by omega), Int.emod_lt_of_pos x hd, rfl, rfl, rfl⟩
theorem rdE_near {x d : Int} (hd : 0 < d) : 2 * (rdE x d * d - x) ≤ d ∧ -d ≤ 2 * (rdE x d * d - x) ∧ ((2 * (rdE x d * d - x) = d ∨ 2 * (rdE x d * d - x) = -d) → rdE x d % 2 = 0) := by
  obtain ⟨q, r, h, h0, h1, _, _, e⟩ := rdE_cases (x := x) hd
  have e1 : (q + 1) * d = d * q + d := by rw [Int.add_mul, Int.one_mul, Int.mul_comm]
  have e2 : q * d = d * q := Int.mul_comm _ _
  rw [e]
  split
  · rw [e1]; generalize d * q = m at *; omega
  · rw [e2]; generalize d * q = m at *; omega
theorem rdE_of {x d q r : Int} (hd : 0 < d) (h : d * q + r = x) (h0 : 0 ≤ r) (h1 : r < d) : rdE x d = (if 2 * r > d ∨ (2 * r = d ∧ q % 2 = 1) then q + 1 else q) := by
  have hr : x % d = r := by rw [← h, Int.add_comm, Int.add_mul_emod_self_left]; exact Int.emod_eq_of_lt h0 h1
  have hq : x / d = q := by rw [← h, Int.add_comm, Int.add_mul_ediv_left _ _ (by omega), Int.ediv_eq_zero_of_lt h0 h1]; omega
  rw [rdE, hr, hq]
theorem rdE_neg {x d : Int} (hd : 0 < d) : rdE (-x) d = - rdE x d := by
  obtain ⟨q, r, h, h0, h1, _, _, e⟩ := rdE_cases (x := x) hd
  by_cases hr : r = 0
  · rw [e, rdE_of (q := -q) (r := 0) hd (by rw [Int.mul_neg]; omega) (by omega) hd]
    split <;> split <;> omega
  · rw [e, rdE_of (q := -q - 1) (r := d - r) hd (by rw [Int.mul_sub, Int.mul_neg]; omega) (by omega) (by omega)]
    split <;> split <;> omega
theorem rdE_mono {x y d : Int} (hd : 0 < d) (h : x ≤ y) : rdE x d ≤ rdE y d := by
  have hq : x / d ≤ y / d := Int.ediv_le_ediv hd h
  obtain ⟨q, r, e, h0, h1, eq, _, ex⟩ := rdE_cases (x := x) hd
  obtain ⟨p, s, f, g0, g1, ep, _, ey⟩ := rdE_cases (x := y) hd
  rw [eq, ep] at hq
  rw [ex, ey]
  by_cases hp : q = p
  · subst hp
    split <;> split <;> omega
  · split <;> split <;> omega
theorem rdE_le {x d B : Int} (hd : 0 < d) (h : x ≤ B) (hB : 0 ≤ B) : rdE x d ≤ B + 1 := by
  obtain ⟨q, r, e, h0, h1, eq, _, ex⟩ := rdE_cases (x := x) hd
  have : q ≤ B := by
    rcases (show B < q ∨ q ≤ B by omega) with hh | hh
    · exfalso
      have h2 : B + 1 ≤ q := hh
      have h3 : d * (B + 1) ≤ d * q := Int.mul_le_mul_of_nonneg_left h2 (by omega)
      have h4 : 1 * (B + 1) ≤ d * (B + 1) := Int.mul_le_mul_of_nonneg_right (by omega) (by omega)
      omega
    · exact hh
  rw [ex]; split <;> omega
theorem rdE_ge {x d B : Int} (hd : 0 < d) (h : -B ≤ x) (hB : 0 ≤ B) : -(B + 1) ≤ rdE x d := by
  have := rdE_le (x := -x) hd (by omega) hB
  rw [rdE_neg hd] at this; omega

/-- the parts of c by weights, from the sum S of the weights on -/
def shL (c T : Int) : Int → List Int → List Int
  | _, [] => []
  | S, w :: r => ((c * (S + w)) / T - (c * S) / T) :: shL c T (S + w) r
def sumL : List Int → Int
  | [] => 0
  | x :: r => x + sumL r
theorem shL_len (c T : Int) : ∀ (l : List Int) (S : Int), (shL c T S l).length = l.length
  | [], _ => rfl
  | w :: r, S => by rw [shL, List.length_cons, List.length_cons, shL_len c T r]
theorem sum_shL (c T : Int) : ∀ (l : List Int) (S : Int), sumL (shL c T S l) = (c * (S + sumL l)) / T - (c * S) / T
  | [], S => by simp [shL, sumL]
  | w :: r, S => by
    rw [shL, sumL, sumL, sum_shL c T r, Int.add_assoc]
    omega
theorem sumL_append : ∀ (a b : List Int), sumL (a ++ b) = sumL a + sumL b
  | [], b => by simp [sumL]
  | x :: r, b => by rw [List.cons_append, sumL, sumL, sumL_append r b]; omega
theorem shL_append (c T : Int) : ∀ (a b : List Int) (S : Int), shL c T S (a ++ b) = shL c T S a ++ shL c T (S + sumL a) b
  | [], b, S => by simp [shL, sumL]
  | x :: r, b, S => by rw [List.cons_append, shL, shL, shL_append c T r, sumL, List.cons_append, Int.add_assoc]
theorem shL_at (c T : Int) : ∀ (l : List Int) (S : Int) (i : Nat), i < l.length → (shL c T S l).getD i 0 = (c * (S + sumL (l.take i) + l.getD i 0)) / T - (c * (S + sumL (l.take i))) / T
  | [], _, i, h => absurd h (by simp)
  | w :: r, S, 0, _ => by simp [shL, sumL]
  | w :: r, S, i + 1, h => by
    have := shL_at c T r (S + w) i (by simpa using h)
    simp only [shL, List.getD_cons_succ, List.take_succ_cons, sumL]
    rw [this, Int.add_assoc S w]
/-- how far a part is from its exact share -/
theorem part_near {c T S w : Int} (hT : 0 < T) : ((c * (S + w)) / T - (c * S) / T) * T - c * w < T ∧ -T < ((c * (S + w)) / T - (c * S) / T) * T - c * w := by
  have h1 := Int.mul_ediv_add_emod (c * (S + w)) T
  have h2 := Int.mul_ediv_add_emod (c * S) T
  have a1 := Int.emod_nonneg (c * (S + w)) (show T ≠ 0 by omega)
  have a2 := Int.emod_lt_of_pos (c * (S + w)) hT
  have b1 := Int.emod_nonneg (c * S) (show T ≠ 0 by omega)
  have b2 := Int.emod_lt_of_pos (c * S) hT
  rw [Int.sub_mul, Int.mul_comm _ T, Int.mul_comm _ T]
  have e : c * (S + w) = c * S + c * w := Int.mul_add _ _ _
  generalize c * (S + w) = X at *
  generalize c * S = Y at *
  generalize c * w = Z at *
  generalize T * (X / T) = P at *
  generalize T * (Y / T) = Q at *
  omega
theorem part_zero (c T S : Int) : (c * (S + 0)) / T - (c * S) / T = 0 := by rw [Int.add_zero]; omega
theorem part_exact {c T S w : Int} (hT : 0 < T) (h : c % T = 0) : (c * (S + w)) / T - (c * S) / T = c / T * w := by
  have e : c = T * (c / T) := by have := Int.mul_ediv_add_emod c T; omega
  generalize c / T = k at *
  subst e
  rw [Int.mul_assoc, Int.mul_assoc, Int.mul_ediv_cancel_left _ (by omega), Int.mul_ediv_cancel_left _ (by omega), Int.mul_add]
  omega
/-- two numbers of which the multiples of T are near the same number differ by one at most -/
theorem near_two {a b T z : Int} (hT : 0 < T) (h1 : a * T - z < T ∧ -T < a * T - z) (h2 : b * T - z < T ∧ -T < b * T - z) : a - b ≤ 1 ∧ b - a ≤ 1 := by
  have key : ∀ a b : Int, (a * T - z < T) → (-T < b * T - z) → a - b ≤ 1 := fun a b x y => by
    rcases (show 1 < (a - b) ∨ (a - b) ≤ 1 by omega) with h | h
    · exfalso
      have h3 : 2 * T ≤ (a - b) * T := Int.mul_le_mul_of_nonneg_right (by omega) (by omega)
      rw [Int.sub_mul] at h3
      omega
    · exact h
  exact ⟨key a b h1.1 h2.2, key b a h2.1 h1.2⟩
/-- a part is an amount -/
theorem part_in {n c w T M : Int} (hT : 0 < T) (hM : 0 ≤ M) (hc : -M ≤ c ∧ c ≤ M) (hw : 0 ≤ w ∧ w ≤ T) (h : n * T - c * w < T ∧ -T < n * T - c * w) : -M ≤ n ∧ n ≤ M := by
  have h1 : c * w ≤ M * T := Int.le_trans (Int.mul_le_mul_of_nonneg_right hc.2 hw.1) (Int.mul_le_mul_of_nonneg_left hw.2 hM)
  have h2 : -(M * T) ≤ c * w := by
    have a := Int.mul_le_mul_of_nonneg_right hc.1 hw.1
    have b := Int.mul_le_mul_of_nonneg_left hw.2 hM
    rw [Int.neg_mul] at a; omega
  constructor
  · rcases (show n < (-M) ∨ (-M) ≤ n by omega) with hh | hh
    · exfalso
      have h3 : n * T ≤ (-M - 1) * T := Int.mul_le_mul_of_nonneg_right (by omega) (by omega)
      rw [Int.sub_mul, Int.neg_mul, Int.one_mul] at h3
      omega
    · exact hh
  · rcases (show M < n ∨ n ≤ M by omega) with hh | hh
    · exfalso
      have h3 : (M + 1) * T ≤ n * T := Int.mul_le_mul_of_nonneg_right (by omega) (by omega)
      rw [Int.add_mul, Int.one_mul] at h3
      omega
    · exact hh
end Go.Proofs.YtaloadadecoogaaDoor

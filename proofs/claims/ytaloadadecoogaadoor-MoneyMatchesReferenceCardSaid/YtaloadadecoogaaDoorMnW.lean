/- Money in plain Lean: weights; the greatest common divisor. -/
import Derived.Test.YtaloadadecoogaaDoorMnC
namespace Go.Proofs.YtaloadadecoogaaDoor
set_option linter.unusedSimpArgs false
set_option linter.unusedVariables false
set_option maxRecDepth 100000
open Go.RowKit

/-- whether a list consists of weights -/
def wtsB (l : List Int) : Bool := l.all (fun x => decide (0 ≤ x) && decide (x ≤ 1000000)) && decide (l.length ≤ 1000) && decide (0 < sumL l)
theorem wts_iff {l : List Int} : wtsB l = true ↔ (∀ x ∈ l, 0 ≤ x ∧ x ≤ 1000000) ∧ l.length ≤ 1000 ∧ 0 < sumL l := by
  simp only [wtsB, Bool.and_eq_true, List.all_eq_true, decide_eq_true_eq, and_assoc]
theorem sum_le : ∀ (l : List Int), (∀ x ∈ l, 0 ≤ x ∧ x ≤ 1000000) → 0 ≤ sumL l ∧ sumL l ≤ 1000000 * l.length ∧ ∀ x ∈ l, x ≤ sumL l
  | [], _ => ⟨by simp [sumL], by simp [sumL], fun x hx => absurd hx (by simp)⟩
  | y :: r, h => by
    obtain ⟨h1, h2, h3⟩ := sum_le r (fun x hx => h x (List.mem_cons_of_mem _ hx))
    have hy := h y List.mem_cons_self
    refine ⟨by rw [sumL]; omega, by rw [sumL, List.length_cons]; omega, fun x hx => ?_⟩
    rw [sumL]
    rcases List.mem_cons.1 hx with rfl | hx
    · omega
    · have := h3 x hx; omega
theorem sum_take : ∀ (l : List Int) (k : Nat), k < l.length → sumL (l.take (k + 1)) = sumL (l.take k) + l.getD k 0
  | [], k, h => absurd h (by simp)
  | y :: r, 0, _ => by simp [sumL]
  | y :: r, k + 1, h => by
    have := sum_take r k (by simpa using h)
    simp only [List.take_succ_cons, sumL, List.getD_cons_succ]
    rw [this]; omega
theorem sum_take_le (l : List Int) (h : ∀ x ∈ l, 0 ≤ x ∧ x ≤ 1000000) (k : Nat) : 0 ≤ sumL (l.take k) ∧ sumL (l.take k) ≤ sumL l := by
  have h1 := sum_le (l.take k) (fun x hx => h x (List.mem_of_mem_take hx))
  have h2 := sum_le (l.drop k) (fun x hx => h x (List.mem_of_mem_drop hx))
  have e : sumL l = sumL (l.take k) + sumL (l.drop k) := by rw [← sumL_append, List.take_append_drop]
  omega
theorem shL_take (c T : Int) (l : List Int) (S : Int) (k : Nat) : (shL c T S l).take k = shL c T S (l.take k) := by
  induction l generalizing S k with
  | nil => simp [shL]
  | cons x r ih =>
    cases k with
    | zero => simp [shL]
    | succ k => simp only [shL, List.take_succ_cons, ih]
/-- a part of an amount by weights -/
theorem share_law {c : Int} {l : List Int} (hc : amtB c = true) (hw : wtsB l = true) {i : Nat} (hi : i < l.length) :
    (-1000000000 ≤ (shL c (sumL l) 0 l).getD i 0 ∧ (shL c (sumL l) 0 l).getD i 0 ≤ 1000000000) ∧ ((shL c (sumL l) 0 l).getD i 0 * sumL l - c * l.getD i 0 < sumL l ∧ -sumL l < (shL c (sumL l) 0 l).getD i 0 * sumL l - c * l.getD i 0) ∧ (l.getD i 0 = 0 → (shL c (sumL l) 0 l).getD i 0 = 0) ∧ (c % sumL l = 0 → (shL c (sumL l) 0 l).getD i 0 = c / sumL l * l.getD i 0) := by
  obtain ⟨h1, _, h3⟩ := wts_iff.1 hw
  have hc2 := amtB_iff.1 hc
  have hm : l.getD i 0 ∈ l := by rw [List.getD_eq_getElem?_getD, List.getElem?_eq_getElem hi]; exact List.getElem_mem hi
  have hle := (sum_le l h1).2.2 _ hm
  rw [shL_at c (sumL l) l 0 i hi, Int.zero_add]
  have near := part_near (c := c) (T := sumL l) (S := sumL (l.take i)) (w := l.getD i 0) h3
  exact ⟨part_in h3 (by omega) hc2 ⟨(h1 _ hm).1, hle⟩ near, near, fun e => by rw [e]; exact part_zero _ _ _, fun e => part_exact h3 e⟩
theorem share_sum {c : Int} {l : List Int} (hw : wtsB l = true) : sumL (shL c (sumL l) 0 l) = c := by
  obtain ⟨_, _, h3⟩ := wts_iff.1 hw
  rw [sum_shL, Int.zero_add, Int.mul_zero, Int.zero_ediv, Int.mul_ediv_cancel _ (by omega)]; omega
/-- a common divisor, by the remainder -/
theorem gcd_step (a b : Nat) : Nat.gcd a b = Nat.gcd b (a % b) := by rw [Nat.gcd_comm a b, Nat.gcd_rec b a, Nat.gcd_comm]
/-- a fraction is its own reduced form exactly if its numbers have no common divisor -/
theorem reduced_same {n d : Int} {g : Nat} (hd : 1 ≤ d) (hg : 1 ≤ g) : (n.tdiv g = n ∧ d.tdiv g = d) ↔ g = 1 := by
  constructor
  · rintro ⟨_, h⟩
    rw [Int.tdiv_eq_ediv_of_nonneg (by omega)] at h
    rcases (show g = 1 ∨ 2 ≤ g by omega) with h1 | h1
    · exact h1
    · exfalso
      have h2 : d / (g : Int) < d := Int.ediv_lt_self_of_pos_of_ne_one (by omega) (by omega)
      omega
  · rintro rfl; exact ⟨Int.tdiv_one _, Int.tdiv_one _⟩
end Go.Proofs.YtaloadadecoogaaDoor

/- Plain laws of the digest: a step loses nothing. -/
import Derived.Test.YtmbmejclnagffaaDoorDigA
import Derived.Laws.BitsAllLaws
namespace Go.Proofs.YtmbmejclnagffaaDoor
set_option linter.unusedSimpArgs false
set_option linter.unusedVariables false
set_option maxRecDepth 100000
open Go.RowKit

theorem xor_left_inj {a b c : Nat} (h : a ^^^ c = b ^^^ c) : a = b := by
  have := congrArg (· ^^^ c) h
  simpa [Nat.xor_assoc] using this
theorem xor_right_inj {a b c : Nat} (h : c ^^^ a = c ^^^ b) : a = b := by
  rw [Nat.xor_comm c a, Nat.xor_comm c b] at h; exact xor_left_inj h
theorem prime_back (z : Int) : z * 1099511628211 * 14886173955864302971 = z + 18446744073709551616 * (z * 887285111055) := by omega
theorem near_eq {x y : Nat} {k : Int} (hx : x < 18446744073709551616) (hy : y < 18446744073709551616) (hk : (x : Int) - y = 18446744073709551616 * k) : x = y := by omega
theorem prime_inj {x y : Nat} (hx : x < 18446744073709551616) (hy : y < 18446744073709551616) (h : (x : Int) * 1099511628211 % 18446744073709551616 = (y : Int) * 1099511628211 % 18446744073709551616) : x = y := by
  have h1 : (18446744073709551616 : Int) ∣ (x : Int) * 1099511628211 - (y : Int) * 1099511628211 := Int.dvd_of_emod_eq_zero (Int.emod_eq_emod_iff_emod_sub_eq_zero.1 h)
  have h2 : (18446744073709551616 : Int) ∣ ((x : Int) * 1099511628211 - (y : Int) * 1099511628211) * 14886173955864302971 := Int.dvd_mul_of_dvd_left h1
  rw [← Int.sub_mul, prime_back] at h2
  obtain ⟨k, hk⟩ := (Int.dvd_add_left (Int.dvd_mul_right _ _)).1 h2
  exact near_eq hx hy hk
theorem xor_lt (a b : Nat) (ha : a < 18446744073709551616) (hb : b < 18446744073709551616) : a ^^^ b < 18446744073709551616 := Nat.xor_lt_two_pow (n := 64) ha hb
theorem stepB_nat (a b : Nat) (ha : a < 18446744073709551616) (hb : b < 18446744073709551616) : stepB a b = ((a ^^^ b : Nat) : Int) * 1099511628211 % 18446744073709551616 := by
  rw [stepB, u64_xor_nat a b ha hb, IntKind.wrap_u64]
theorem stepB_inj {d d' b : Int} (h1 : 0 ≤ d ∧ d ≤ 18446744073709551615) (h2 : 0 ≤ d' ∧ d' ≤ 18446744073709551615) (hb : 0 ≤ b ∧ b ≤ 255) (h : stepB d b = stepB d' b) : d = d' := by
  obtain ⟨d, rfl⟩ := Int.eq_ofNat_of_zero_le h1.1
  obtain ⟨d', rfl⟩ := Int.eq_ofNat_of_zero_le h2.1
  obtain ⟨b, rfl⟩ := Int.eq_ofNat_of_zero_le hb.1
  rw [stepB_nat d b (by omega) (by omega), stepB_nat d' b (by omega) (by omega)] at h
  exact congrArg _ (xor_left_inj (prime_inj (xor_lt _ _ (by omega) (by omega)) (xor_lt _ _ (by omega) (by omega)) h))
theorem stepB_inj_byte {d b b' : Int} (h1 : 0 ≤ d ∧ d ≤ 18446744073709551615) (hb : 0 ≤ b ∧ b ≤ 255) (hb' : 0 ≤ b' ∧ b' ≤ 255) (h : stepB d b = stepB d b') : b = b' := by
  obtain ⟨d, rfl⟩ := Int.eq_ofNat_of_zero_le h1.1
  obtain ⟨b', rfl⟩ := Int.eq_ofNat_of_zero_le hb'.1
  obtain ⟨b, rfl⟩ := Int.eq_ofNat_of_zero_le hb.1
  rw [stepB_nat d b (by omega) (by omega), stepB_nat d b' (by omega) (by omega)] at h
  exact congrArg _ (xor_right_inj (prime_inj (xor_lt _ _ (by omega) (by omega)) (xor_lt _ _ (by omega) (by omega)) h))
theorem stepB_in (d b : Int) : 0 ≤ stepB d b ∧ stepB d b ≤ 18446744073709551615 := by
  unfold stepB; rw [IntKind.wrap_u64]; omega
theorem sumB_in (d : Int) (h : 0 ≤ d ∧ d ≤ 18446744073709551615) (l : List Int) : 0 ≤ sumB d l ∧ sumB d l ≤ 18446744073709551615 := by
  induction l generalizing d with
  | nil => exact h
  | cons x r ih => exact ih (stepB d x) (stepB_in d x)
theorem sumB_append (d : Int) (l m : List Int) : sumB d (l ++ m) = sumB (sumB d l) m := by simp [sumB]
/-- the same bytes behind different states make different states -/
theorem sumB_inj {l : List Int} (hl : ∀ x ∈ l, 0 ≤ x ∧ x ≤ 255) : ∀ {d d' : Int}, 0 ≤ d ∧ d ≤ 18446744073709551615 → 0 ≤ d' ∧ d' ≤ 18446744073709551615 → sumB d l = sumB d' l → d = d' := by
  induction l with
  | nil => intro d d' _ _ h; exact h
  | cons x r ih =>
    intro d d' h1 h2 h
    exact stepB_inj h1 h2 (hl x (by simp)) (ih (fun y hy => hl y (by simp [hy])) (stepB_in _ _) (stepB_in _ _) h)
/-- bytes that differ in exactly one place -/
theorem sumB_one {l : List Int} (hl : ∀ x ∈ l, 0 ≤ x ∧ x ≤ 255) {d y : Int} (hd : 0 ≤ d ∧ d ≤ 18446744073709551615) {p : Nat} (hp : p < l.length) (hy : 0 ≤ y ∧ y ≤ 255) (hne : y ≠ l.getD p 0) : sumB d (l.set p y) ≠ sumB d l := by
  have e1 : l = l.take p ++ l.getD p 0 :: l.drop (p + 1) := by
    have : l.getD p 0 = l[p] := by simp [List.getD_eq_getElem?_getD, hp]
    rw [this, List.getElem_cons_drop, List.take_append_drop]
  have e2 : l.set p y = l.take p ++ y :: l.drop (p + 1) := List.set_eq_take_append_cons_drop.trans (by rw [if_pos hp])
  intro h
  rw [e2] at h
  conv at h => rhs; rw [e1]
  rw [sumB_append, sumB_append] at h
  have h1 := sumB_in d hd (l.take p)
  have hb : 0 ≤ l.getD p 0 ∧ l.getD p 0 ≤ 255 := hl _ (by simp [List.getD_eq_getElem?_getD, hp])
  have h2 : stepB (sumB d (l.take p)) y = stepB (sumB d (l.take p)) (l.getD p 0) := sumB_inj (l := l.drop (p + 1)) (fun x hx => hl x (List.mem_of_mem_drop hx)) (stepB_in _ _) (stepB_in _ _) h
  exact hne (stepB_inj_byte h1 hy hb h2)
end Go.Proofs.YtmbmejclnagffaaDoor

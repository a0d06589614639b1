/- Plain arithmetic of signatures: powers modulo primes (no program in sight). -/
import Derived.Test.YtmbmejclnagffaaDoorM2
set_option linter.unusedSimpArgs false
set_option linter.unusedVariables false
set_option maxRecDepth 100000
namespace Go.Proofs.YtmbmejclnagffaaDoor
open Go.RowKit
def PP : Nat := 2147483579
def QQ : Nat := 1073741789
/-- square and multiply, by fuel -/
def mp (m : Nat) : Nat → Nat → Nat → Nat → Nat
  | 0, _, _, out => out
  | f + 1, a, x, out => if x = 0 then out else mp m f (a * a % m) (x / 2) (if x % 2 = 1 then out * a % m else out)
theorem pow_half (a x : Nat) : a ^ x = (a * a) ^ (x / 2) * (if x % 2 = 1 then a else 1) := by
  have h : x = 2 * (x / 2) + x % 2 := by omega
  conv => lhs; rw [h]
  rw [Nat.pow_add, Nat.pow_mul, Nat.pow_two]
  rcases (by omega : x % 2 = 0 ∨ x % 2 = 1) with h2 | h2 <;> simp [h2]
/-- one round keeps the product -/
theorem pow_round (m a x out : Nat) : ((if x % 2 = 1 then out * a % m else out) * (a * a % m) ^ (x / 2)) % m = out * a ^ x % m := by
  rw [pow_half a x]
  split
  · rw [Nat.mul_mod, Nat.mod_mod, Nat.pow_mod, Nat.mod_mod, ← Nat.pow_mod, ← Nat.mul_mod]
    congr 1
    rw [Nat.mul_assoc, Nat.mul_comm a]
  · rw [Nat.mul_mod, Nat.pow_mod, Nat.mod_mod, ← Nat.pow_mod, ← Nat.mul_mod, Nat.mul_one]
theorem mp_eq (m : Nat) : ∀ f a x out, x < 2 ^ f → mp m f a x out % m = out * a ^ x % m
  | 0, a, x, out, h => by have : x = 0 := by simpa using h
                          subst this; simp [mp]
  | f + 1, a, x, out, h => by
    rw [mp]
    by_cases h0 : x = 0
    · subst h0; simp
    · rw [if_neg h0, mp_eq m f _ _ _ (by rw [Nat.pow_succ] at h; omega), pow_round]
def pw (a x m : Nat) : Nat := a ^ x % m
theorem pw_lt {a x m : Nat} (h : 0 < m) : pw a x m < m := Nat.mod_lt _ h
theorem pw_mp {a x m : Nat} (f : Nat) (h : x < 2 ^ f) : pw a x m = mp m f a x 1 % m := by rw [mp_eq m f a x 1 h, Nat.one_mul]; rfl
theorem pw_pw (a x y m : Nat) : pw (pw a x m) y m = pw a (x * y) m := by
  simp only [pw]; rw [← Nat.pow_mod, Nat.pow_mul]
theorem pw_add (a x y m : Nat) : pw a (x + y) m = pw a x m * pw a y m % m := by
  simp only [pw]; rw [Nat.pow_add, Nat.mul_mod]
theorem pw_one_pow {m : Nat} (h : 1 < m) (x : Nat) : pw 1 x m = 1 := by simp [pw, Nat.mod_eq_of_lt h]
theorem pw_mod_exp {a q m : Nat} (hm : 1 < m) (h : pw a q m = 1) (x : Nat) : pw a (x % q) m = pw a x m := by
  have e : x = q * (x / q) + x % q := (Nat.div_add_mod x q).symm
  conv => rhs; rw [e]
  rw [pw_add, ← pw_pw, h, pw_one_pow hm, Nat.one_mul, pw, Nat.mod_mod]
theorem PP_gt : 1 < PP := by decide
theorem four_q : pw 4 QQ PP = 1 := by rw [pw_mp 31 (by decide)]; decide +kernel
/-- an element of the group -/
def memB (a : Nat) : Bool := decide (1 ≤ a) && decide (a < PP) && (pw a QQ PP == 1)
theorem memB_iff {a : Nat} : memB a = true ↔ 1 ≤ a ∧ a < PP ∧ pw a QQ PP = 1 := by simp [memB, and_assoc]
theorem mem_pw {a : Nat} (h : pw a QQ PP = 1) (x : Nat) : memB (pw a x PP) = true := by
  have h1 : pw (pw a x PP) QQ PP = 1 := by rw [pw_pw, Nat.mul_comm, ← pw_pw, h, pw_one_pow PP_gt]
  refine memB_iff.2 ⟨?_, pw_lt (by decide), h1⟩
  rcases Nat.eq_zero_or_pos (pw a x PP) with h0 | h0
  · rw [h0, pw, Nat.zero_pow (by decide), Nat.zero_mod] at h1; omega
  · exact h0
/-- what was signed is right -/
theorem back_right (s o e : Nat) (he : e < QQ) : pw 4 ((o + e * s) % QQ) PP * pw (pw 4 s PP) ((QQ - e) % QQ) PP % PP = pw 4 o PP := by
  have hs : pw (pw 4 s PP) QQ PP = 1 := (memB_iff.1 (mem_pw four_q s)).2.2
  rw [pw_mod_exp PP_gt four_q, pw_mod_exp PP_gt hs, pw_pw, ← pw_add]
  have : o + e * s + s * (QQ - e) = o + QQ * s := by
    have h1 : e * s + s * (QQ - e) = QQ * s := by
      rw [Nat.mul_comm e s, ← Nat.mul_add, Nat.add_sub_cancel' (Nat.le_of_lt he), Nat.mul_comm]
    omega
  rw [this, pw_add, ← pw_pw 4 QQ s, four_q, pw_one_pow PP_gt, Nat.mul_one, pw, Nat.mod_mod]
end Go.Proofs.YtmbmejclnagffaaDoor

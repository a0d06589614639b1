/- Plain arithmetic of signatures: powers modulo primes (no program in sight). -/
import Derived.Test.YtmbmejclnagffaaDoorLit
namespace Go.Proofs.YtmbmejclnagffaaDoor
set_option linter.unusedSimpArgs false
set_option linter.unusedVariables false
set_option maxRecDepth 100000
open Go.RowKit

def PP : Nat := 2147483579
def QQ : Nat := 1073741789
/-- square and multiply, by fuel -/
def mp (m : Nat) : Nat → Nat → Nat → Nat → Nat
  | 0, _, _, out => out
  | f + 1, a, x, out => if x = 0 then out else mp m f (a * a % m) (x / 2) (if x % 2 = 1 then out * a % m else out)
theorem pow_half (a x : Nat) : a ^ x = (a * a) ^ (x / 2) * (if x % 2 = 1 then a else 1) := by
  have h : x = 2 * (x / 2) + x % 2 := by omega
  conv => lhs; rw [h]
  rw [Nat.pow_add, Nat.pow_mul, Nat.pow_two]
  rcases (by omega : x % 2 = 0 ∨ x % 2 = 1) with h2 | h2 <;> simp [h2]
/-- one round keeps the product -/
theorem pow_round (m a x out : Nat) : ((if x % 2 = 1 then out * a % m else out) * (a * a % m) ^ (x / 2)) % m = out * a ^ x % m := by
  rw [pow_half a x]
  split
  · rw [Nat.mul_mod, Nat.mod_mod, Nat.pow_mod, Nat.mod_mod, ← Nat.pow_mod, ← Nat.mul_mod]
    congr 1
    rw [Nat.mul_assoc, Nat.mul_comm a]
  · rw [Nat.mul_mod, Nat.pow_mod, Nat.mod_mod, ← Nat.pow_mod, ← Nat.mul_mod, Nat.mul_one]
theorem mp_eq (m : Nat) : ∀ f a x out, x < 2 ^ f → mp m f a x out % m = out * a ^ x % m
  | 0, a, x, out, h => by have : x = 0 := by simpa using h
                          subst this; simp [mp]
  | f + 1, a, x, out, h => by
    rw [mp]
    by_cases h0 : x = 0
    · subst h0; simp
    · rw [if_neg h0, mp_eq m f _ _ _ (by rw [Nat.pow_succ] at h; omega), pow_round]
def pw (a x m : Nat) : Nat := a ^ x % m
theorem pw_lt {a x m : Nat} (h : 0 < m) : pw a x m < m := Nat.mod_lt _ h
theorem pw_mp {a x m : Nat} (f : Nat) (h : x < 2 ^ f) : pw a x m = mp m f a x 1 % m := by rw [mp_eq m f a x 1 h, Nat.one_mul]; rfl
theorem pw_zero {a m : Nat} (h : 1 < m) : pw a 0 m = 1 := by simp [pw, Nat.mod_eq_of_lt h]
theorem pw_pw (a x y m : Nat) : pw (pw a x m) y m = pw a (x * y) m := by
  simp only [pw]; rw [← Nat.pow_mod, Nat.pow_mul]
theorem pw_add (a x y m : Nat) : pw a (x + y) m = pw a x m * pw a y m % m := by
  simp only [pw]; rw [Nat.pow_add, Nat.mul_mod]
theorem pw_one_pow {m : Nat} (h : 1 < m) (x : Nat) : pw 1 x m = 1 := by simp [pw, Nat.mod_eq_of_lt h]
theorem pw_mod_exp {a q m : Nat} (hm : 1 < m) (h : pw a q m = 1) (x : Nat) : pw a (x % q) m = pw a x m := by
  have e : x = q * (x / q) + x % q := (Nat.div_add_mod x q).symm
  conv => rhs; rw [e]
  rw [pw_add, ← pw_pw, h, pw_one_pow hm, Nat.one_mul, pw, Nat.mod_mod]
theorem PP_gt : 1 < PP := by decide
theorem four_q : pw 4 QQ PP = 1 := by rw [pw_mp 31 (by decide)]; decide +kernel
/-- an element of the group -/
def memB (a : Nat) : Bool := decide (1 ≤ a) && decide (a < PP) && (pw a QQ PP == 1)
theorem memB_iff {a : Nat} : memB a = true ↔ 1 ≤ a ∧ a < PP ∧ pw a QQ PP = 1 := by simp [memB, and_assoc]
theorem mem_pw {a : Nat} (h : pw a QQ PP = 1) (x : Nat) : memB (pw a x PP) = true := by
  have h1 : pw (pw a x PP) QQ PP = 1 := by rw [pw_pw, Nat.mul_comm, ← pw_pw, h, pw_one_pow PP_gt]
  refine memB_iff.2 ⟨?_, pw_lt (by decide), h1⟩
  rcases Nat.eq_zero_or_pos (pw a x PP) with h0 | h0
  · rw [h0, pw, Nat.zero_pow (by decide), Nat.zero_mod] at h1; omega
  · exact h0
/-- what was signed is right -/
theorem back_right (s o e : Nat) (he : e < QQ) : pw 4 ((o + e * s) % QQ) PP * pw (pw 4 s PP) ((QQ - e) % QQ) PP % PP = pw 4 o PP := by
  have hs : pw (pw 4 s PP) QQ PP = 1 := (memB_iff.1 (mem_pw four_q s)).2.2
  rw [pw_mod_exp PP_gt four_q, pw_mod_exp PP_gt hs, pw_pw, ← pw_add]
  have : o + e * s + s * (QQ - e) = o + QQ * s := by
    have h1 : e * s + s * (QQ - e) = QQ * s := by
      rw [Nat.mul_comm e s, ← Nat.mul_add, Nat.add_sub_cancel' (Nat.le_of_lt he), Nat.mul_comm]
    omega
  rw [this, pw_add, ← pw_pw 4 QQ s, four_q, pw_one_pow PP_gt, Nat.mul_one, pw, Nat.mod_mod]

/-- no divisor from 2 to 32768 -/
def noDiv (n : Nat) : Nat → Bool
  | 0 => true
  | k + 1 => (k < 2 || n % k != 0) && noDiv n k
theorem noDiv_of {n : Nat} : ∀ {k : Nat}, noDiv n k = true → ∀ d, 2 ≤ d → d < k → n % d ≠ 0
  | 0, _, d, _, h => by omega
  | k + 1, h, d, h2, hd => by
    simp only [noDiv, Bool.and_eq_true, Bool.or_eq_true, decide_eq_true_eq, bne_iff_ne] at h
    rcases Nat.lt_or_ge d k with h3 | h3
    · exact noDiv_of h.2 d h2 h3
    · obtain rfl : d = k := by omega
      rcases h.1 with h4 | h4
      · omega
      · exact h4
theorem QQ_prime (d : Nat) (h : d ∣ QQ) : d = 1 ∨ d = QQ := by
  have hn : noDiv QQ 32769 = true := by decide +kernel
  obtain ⟨e, he⟩ := h
  have hq : QQ = 1073741789 := rfl
  by_cases h1 : d = 1
  · exact .inl h1
  by_cases h2 : e = 1
  · right; rw [he, h2, Nat.mul_one]
  exfalso
  have hd0 : d ≠ 0 := fun h => by rw [h, Nat.zero_mul] at he; omega
  have he0 : e ≠ 0 := fun h => by rw [h, Nat.mul_zero] at he; omega
  rcases Nat.lt_or_ge d 32769 with h3 | h3
  · exact noDiv_of hn d (by omega) h3 (by rw [he]; exact Nat.mul_mod_right _ _)
  · rcases Nat.lt_or_ge e 32769 with h4 | h4
    · exact noDiv_of hn e (by omega) h4 (by rw [he]; exact Nat.mul_mod_left _ _)
    · have : 32769 * 32769 ≤ d * e := Nat.mul_le_mul h3 h4
      omega
theorem coprime_Q {d : Nat} (h0 : 0 < d) (h : d < QQ) : Nat.gcd d QQ = 1 := by
  rcases QQ_prime _ (Nat.gcd_dvd_right d QQ) with h1 | h1
  · exact h1
  · have := Nat.le_of_dvd h0 (Nat.gcd_dvd_left d QQ); omega
theorem pw_gcd {a m : Nat} (hm : 1 < m) (x y : Nat) : pw a x m = 1 → pw a y m = 1 → pw a (Nat.gcd x y) m = 1 := by
  induction x, y using Nat.gcd.induction with
  | H0 n => intro _ h; simpa using h
  | H1 m' n _ ih =>
    intro h1 h2
    rw [Nat.gcd_rec]
    exact ih (by rw [pw_mod_exp hm h1]; exact h2) h1
theorem order4 {d : Nat} (h0 : 0 < d) (h : d < QQ) : pw 4 d PP ≠ 1 := fun h1 => by
  have := pw_gcd PP_gt d QQ h1 four_q
  rw [coprime_Q h0 h] at this
  exact absurd this (by decide)
theorem secret_lt {a b : Nat} (h : a < b) (hb : b < QQ) : pw 4 a PP ≠ pw 4 b PP := fun he => by
  have h1 : pw 4 a PP * pw 4 (QQ - a) PP % PP = 1 := by rw [← pw_add, Nat.add_sub_cancel' (by omega)]; exact four_q
  rw [he, ← pw_add] at h1
  have e : b + (QQ - a) = (b - a) + QQ * 1 := by omega
  rw [e, pw_add, ← pw_pw 4 QQ 1, four_q, pw_one_pow PP_gt, Nat.mul_one, pw, Nat.mod_mod] at h1
  exact order4 (show 0 < b - a by omega) (by omega) h1
theorem secret_inj {a b : Nat} (ha : a < QQ) (hb : b < QQ) : pw 4 a PP = pw 4 b PP ↔ a = b := by
  refine ⟨fun h => ?_, fun h => by rw [h]⟩
  rcases Nat.lt_trichotomy a b with h1 | h1 | h1
  · exact absurd h (secret_lt h1 hb)
  · exact h1
  · exact absurd h.symm (secret_lt h1 ha)

/-- Pascal's numbers, the sum of the binomial theorem -/
def ch : Nat → Nat → Nat
  | _, 0 => 1
  | 0, _ + 1 => 0
  | n + 1, k + 1 => ch n k + ch n (k + 1)
theorem ch_gt : ∀ n k, n < k → ch n k = 0
  | 0, k + 1, _ => rfl
  | n + 1, k + 1, h => by rw [ch, ch_gt n k (by omega), ch_gt n (k + 1) (by omega)]
theorem ch_self : ∀ n, ch n n = 1
  | 0 => rfl
  | n + 1 => by rw [ch, ch_self n, ch_gt n (n + 1) (by omega)]
theorem ch_mul : ∀ n k, (k + 1) * ch (n + 1) (k + 1) = (n + 1) * ch n k
  | 0, 0 => rfl
  | 0, k + 1 => by
    have : ch (0 + 1) (k + 1 + 1) = 0 := ch_gt _ _ (by omega)
    rw [this, ch_gt 0 (k + 1) (by omega)]; simp
  | n + 1, 0 => by
    have := ch_mul n 0
    rw [ch] at this ⊢
    simp only [ch, Nat.zero_add, Nat.one_mul, Nat.mul_one] at this ⊢
    omega
  | n + 1, k + 1 => by
    have h1 := ch_mul n k
    have h2 := ch_mul n (k + 1)
    rw [ch, Nat.mul_add, h2]
    have e : ch (n + 1) (k + 1) = ch n k + ch n (k + 1) := by rw [ch]
    have e2 : (k + 1 + 1) * ch (n + 1) (k + 1) = (n + 1) * ch n k + ch (n + 1) (k + 1) := by rw [Nat.succ_mul, h1]
    rw [e2, e]
    rw [Nat.succ_mul (n + 1), Nat.mul_add]
    omega
def bsum (a n : Nat) : Nat → Nat
  | 0 => 0
  | k + 1 => bsum a n k + ch n k * a ^ k
theorem bsum_last (a n k : Nat) : bsum a n (k + 1) = bsum a n k + ch n k * a ^ k := rfl
theorem bsum_succ (a n : Nat) : ∀ k, bsum a (n + 1) (k + 1) = bsum a n (k + 1) + a * bsum a n k
  | 0 => by simp [bsum, ch]
  | k + 1 => by
    have e1 : bsum a (n + 1) (k + 1 + 1) = bsum a (n + 1) (k + 1) + ch (n + 1) (k + 1) * a ^ (k + 1) := rfl
    have e2 : bsum a n (k + 1 + 1) = bsum a n (k + 1) + ch n (k + 1) * a ^ (k + 1) := rfl
    have e3 : a * bsum a n (k + 1) = a * bsum a n k + ch n k * a ^ (k + 1) := by
      rw [bsum, Nat.mul_add, Nat.pow_succ, ← Nat.mul_assoc, Nat.mul_comm a (ch n k), Nat.mul_assoc, Nat.mul_comm a (a ^ k)]
    rw [e1, bsum_succ a n k, e2, e3, ch, Nat.add_mul]
    omega
theorem binom (a : Nat) : ∀ n, (a + 1) ^ n = bsum a n (n + 1)
  | 0 => by simp [bsum, ch]
  | n + 1 => by
    rw [bsum_succ, Nat.pow_succ, binom a n]
    have : bsum a n (n + 1 + 1) = bsum a n (n + 1) := by rw [bsum, ch_gt n (n + 1) (by omega)]; simp
    rw [this, Nat.mul_add, Nat.mul_one, Nat.mul_comm, Nat.add_comm]
theorem ch_div {k : Nat} (h0 : 0 < k) (h : k < QQ) : QQ ∣ ch QQ k := by
  obtain ⟨j, rfl⟩ : ∃ j, k = j + 1 := ⟨k - 1, by omega⟩
  have h1 : (j + 1) * ch QQ (j + 1) = QQ * ch (QQ - 1) j := ch_mul (QQ - 1) j
  have h2 : QQ ∣ (j + 1) * ch QQ (j + 1) := ⟨_, h1⟩
  have hc : Nat.Coprime QQ (j + 1) := by rw [Nat.Coprime, Nat.gcd_comm]; exact coprime_Q h0 h
  exact hc.dvd_of_dvd_mul_left h2
theorem bsum_mod (a : Nat) : ∀ k, k < QQ → bsum a QQ (k + 1) % QQ = 1 % QQ
  | 0, _ => by simp [bsum, ch]
  | k + 1, h => by
    obtain ⟨c, hc⟩ := ch_div (k := k + 1) (by omega) h
    rw [bsum, Nat.add_mod, bsum_mod a k (by omega), hc, Nat.mul_assoc, Nat.mul_mod_right, Nat.add_zero, Nat.mod_mod]
theorem fermat (a : Nat) : a ^ QQ % QQ = a % QQ := by
  induction a with
  | zero => rw [Nat.zero_pow (by decide)]
  | succ a ih =>
    have h1 := bsum_last a QQ QQ
    have h2 : bsum a QQ QQ % QQ = 1 % QQ := bsum_mod a (QQ - 1) (by decide)
    rw [binom a QQ, h1, ch_self, Nat.one_mul, Nat.add_mod, h2, ih, ← Nat.add_mod, Nat.add_comm]
theorem inverse {d : Nat} (h0 : 0 < d) (h : d < QQ) : d * pw d (QQ - 2) QQ % QQ = 1 := by
  have h1 := fermat d
  have e : d ^ QQ = d * d ^ (QQ - 1) := by
    conv => lhs; rw [show QQ = (QQ - 1) + 1 from rfl, Nat.pow_succ, Nat.mul_comm]
  have e2 : d ^ (QQ - 1) = d * d ^ (QQ - 2) := by
    conv => lhs; rw [show QQ - 1 = (QQ - 2) + 1 from rfl, Nat.pow_succ, Nat.mul_comm]
  have h2 : QQ ∣ d * d ^ (QQ - 1) - d * 1 := by
    rw [e] at h1
    have hp : 0 < d ^ (QQ - 1) := Nat.pow_pos h0
    have : d * 1 ≤ d * d ^ (QQ - 1) := Nat.mul_le_mul_left _ hp
    exact Nat.dvd_of_mod_eq_zero (Nat.sub_mod_eq_zero_of_mod_eq (by rw [h1, Nat.mul_one]))
  rw [← Nat.mul_sub] at h2
  have hc : Nat.Coprime QQ d := by rw [Nat.Coprime, Nat.gcd_comm]; exact coprime_Q h0 h
  have h3 : QQ ∣ d ^ (QQ - 1) - 1 := hc.dvd_of_dvd_mul_left h2
  have hp : 1 ≤ d ^ (QQ - 1) := Nat.pow_pos h0
  obtain ⟨c, hc⟩ := h3
  have h4 : d ^ (QQ - 1) = 1 + QQ * c := by omega
  rw [pw, Nat.mul_mod, Nat.mod_mod, ← Nat.mul_mod, ← e2, h4, Nat.add_mul_mod_self_left]; rfl
end Go.Proofs.YtmbmejclnagffaaDoor

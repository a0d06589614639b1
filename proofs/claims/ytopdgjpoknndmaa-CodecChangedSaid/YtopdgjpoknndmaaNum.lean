/- Plain facts on the numbers of package codec (no program in sight): zigzag numbers, bytes of seven bits. -/
import Derived.Laws.BitsAllLaws
import Derived.Laws.Bits64
import Derived.RowKit
import Derived.Laws.BitsLemmas
namespace Go.Proofs.Ytopdgjpoknndmaa
set_option linter.unusedSimpArgs false
set_option linter.unusedVariables false
set_option maxRecDepth 100000
open Go.RowKit

theorem u64_xor_ones (x : Nat) (hx : x < 18446744073709551616) : bits .xor .u64 (x : Int) 18446744073709551615 = ((18446744073709551615 - x : Nat) : Int) := by
  have h := u64_xor_nat x 18446744073709551615 hx (by omega)
  have e : ((18446744073709551615 : Nat) : Int) = 18446744073709551615 := rfl
  rw [e] at h
  rw [h]
  congr 1
  have hb : (BitVec.ofNat 64 x ^^^ BitVec.allOnes 64).toNat = x ^^^ 18446744073709551615 := by
    rw [BitVec.toNat_xor, BitVec.toNat_ofNat, Nat.mod_eq_of_lt (by omega), BitVec.toNat_allOnes]
  rw [← hb, BitVec.xor_allOnes, BitVec.toNat_not, BitVec.toNat_ofNat, Nat.mod_eq_of_lt (by omega)]

/-- the number of an integer -/
def zz (n : Int) : Nat := if 0 ≤ n then (2 * n).toNat else (-2 * n - 1).toNat
theorem zz_lt (n : Int) (h1 : -9223372036854775808 ≤ n) (h2 : n ≤ 9223372036854775807) : zz n < 18446744073709551616 := by
  unfold zz; split <;> omega
theorem zz_inj {a b : Int} (h : zz a = zz b) : a = b := by
  unfold zz at h; split at h <;> split at h <;> omega
theorem num_eq (n : Int) (h1 : -9223372036854775808 ≤ n) (h2 : n ≤ 9223372036854775807) :
    bits .xor .u64 (IntKind.u64.wrap (IntKind.u64.wrap n * 2)) (IntKind.u64.wrap (n / 9223372036854775808)) = (zz n : Int) := by
  rw [IntKind.wrap_u64, IntKind.wrap_u64, IntKind.wrap_u64]
  by_cases h : 0 ≤ n
  · obtain ⟨m, rfl⟩ := Int.eq_ofNat_of_zero_le h
    have e1 : ((m : Int) % 18446744073709551616 * 2) % 18446744073709551616 = ((2 * m : Nat) : Int) := by omega
    have e2 : ((m : Int) / 9223372036854775808) % 18446744073709551616 = ((0 : Nat) : Int) := by omega
    rw [e1, e2, u64_xor_nat _ _ (by omega) (by omega)]
    simp only [Nat.xor_zero, zz, h, if_true]; omega
  · have e2 : (n / 9223372036854775808) % 18446744073709551616 = 18446744073709551615 := by omega
    have e1 : (n % 18446744073709551616 * 2) % 18446744073709551616 = (((2 * n + 18446744073709551616).toNat : Nat) : Int) := by omega
    rw [e1, e2, u64_xor_ones _ (by omega)]
    simp only [zz, h, if_false]; omega

/-- the integer of a number -/
def uz (u : Nat) : Int := if u % 2 = 1 then -(u / 2 : Nat) - 1 else (u / 2 : Nat)
theorem uz_zz (n : Int) : uz (zz n) = n := by
  unfold uz zz; split <;> split <;> omega
theorem zz_uz (u : Nat) : zz (uz u) = u := by
  unfold uz zz; split <;> split <;> omega
theorem uz_bd (u : Nat) (h : u < 18446744073709551616) : -9223372036854775808 ≤ uz u ∧ uz u ≤ 9223372036854775807 := by
  unfold uz; split <;> omega

/-- the bytes of a number, seven bits each, the lowest first -/
def vb (u : Nat) : List Int := if h : u > 127 then ((u % 128 + 128 : Nat) : Int) :: vb (u / 128) else [(u : Int)]
termination_by u
decreasing_by omega
theorem vb_big {u : Nat} (h : u > 127) : vb u = ((u % 128 + 128 : Nat) : Int) :: vb (u / 128) := by rw [vb, dif_pos h]
theorem vb_small {u : Nat} (h : ¬ u > 127) : vb u = [(u : Int)] := by rw [vb, dif_neg h]
theorem vb_len_bd : ∀ (k u : Nat), u < 128 ^ (k + 1) → (vb u).length ≤ k + 1
  | k, u, h => by
    by_cases hu : u > 127
    · rw [vb_big hu]
      match k, h with
      | 0, h => simp at h; omega
      | k + 1, h =>
        have := vb_len_bd k (u / 128) (by rw [Nat.pow_succ] at h; exact Nat.div_lt_of_lt_mul (by omega))
        simp; omega
    · rw [vb_small hu]; simp
theorem vb_len (u : Nat) (h : u < 18446744073709551616) : (vb u).length ≤ 10 :=
  vb_len_bd 9 u (by have : (128 : Nat) ^ 10 = 1180591620717411303424 := by decide
                    omega)
theorem vb_pos (u : Nat) : 0 < (vb u).length := by
  by_cases hu : u > 127
  · rw [vb_big hu]; simp
  · rw [vb_small hu]; simp
theorem vb_bytes (u : Nat) : ∀ x ∈ vb u, 0 ≤ x ∧ x ≤ 255 := by
  induction u using Nat.strongRecOn with
  | ind u ih =>
    by_cases hu : u > 127
    · rw [vb_big hu]
      intro x hx
      rcases List.mem_cons.1 hx with rfl | hx
      · omega
      · exact ih _ (by omega) x hx
    · rw [vb_small hu]; intro x hx; simp at hx; omega
/-- the byte with its highest bit set -/
theorem or128 (u : Nat) : bits .or .u8 (IntKind.u8.wrap (u : Int)) 128 = ((u % 128 + 128 : Nat) : Int) := by
  rw [IntKind.wrap_u8']
  have e : (u : Int) % 256 = ((u % 256 : Nat) : Int) := by omega
  have e2 : (128 : Int) = ((128 : Nat) : Int) := rfl
  rw [e, e2, u8_or_nat _ _ (by omega) (by omega)]
  congr 1
  have h1 : u % 256 = u / 128 % 2 * 128 + u % 128 := by omega
  rcases (by omega : u / 128 % 2 = 0 ∨ u / 128 % 2 = 1) with h | h
  · rw [h] at h1
    rw [h1, Nat.or_comm]
    rw [nat_join 7 128 (0 * 128 + u % 128) (by decide) (by omega)]; omega
  · rw [h] at h1
    have h2 : u % 256 = 128 ||| (u % 128) := by rw [nat_join 7 128 (u % 128) (by decide) (by omega)]; omega
    rw [h2, Nat.or_comm, ← Nat.or_assoc, Nat.or_self, nat_join 7 128 (u % 128) (by decide) (by omega)]; omega
end Go.Proofs.Ytopdgjpoknndmaa

/- Plain facts on reading numbers out of bytes (no program in sight). -/
import Derived.Test.YtopdgjpoknndmaaNum
namespace Go.Proofs.Ytopdgjpoknndmaa
set_option linter.unusedSimpArgs false
set_option linter.unusedVariables false
set_option maxRecDepth 100000
open Go.RowKit

/-- reads a number, whose first i bytes came to u, from the bytes that follow: the number, and of how many bytes it is -/
def rd : Nat → Nat → List Int → Option (Nat × Nat)
  | _, _, [] => none
  | i, u, c :: r =>
    if i > 9 then none
    else if i = 9 ∧ c > 1 then none
    else if c > 127 then rd (i + 1) (u + (c % 128).toNat * 2 ^ (7 * i)) r
    else if c = 0 ∧ i > 0 then none
    else some (u + c.toNat * 2 ^ (7 * i), i + 1)

theorem pow7 (i : Nat) : 2 ^ (7 * (i + 1)) = 128 * 2 ^ (7 * i) := by
  rw [Nat.mul_add, Nat.pow_add]; omega

/-- the bytes of a number are read as this number -/
theorem rd_vb : ∀ (k u i a : Nat) (rest : List Int), (vb u).length ≤ k → u * 2 ^ (7 * i) < 18446744073709551616 → (0 < i → u ≠ 0) → rd i a (vb u ++ rest) = some (a + u * 2 ^ (7 * i), i + (vb u).length)
  | 0, u, i, a, rest, hk, _, _ => by have := vb_pos u; omega
  | k + 1, u, i, a, rest, hk, hu, h0 => by
    have hi : i ≤ 9 := by
      rcases Nat.lt_or_ge 9 i with h | h
      · have h1 : (2 : Nat) ^ (7 * 10) ≤ 2 ^ (7 * i) := Nat.pow_le_pow_right (by decide) (by omega)
        have h2 : u ≠ 0 := h0 (by omega)
        have h3 : 1 * 2 ^ (7 * i) ≤ u * 2 ^ (7 * i) := Nat.mul_le_mul_right _ (by omega)
        have : (2 : Nat) ^ (7 * 10) = 1180591620717411303424 := by decide
        omega
      · exact h
    by_cases hu7 : u > 127
    · rw [vb_big hu7] at hk ⊢
      have h9 : i ≠ 9 := by
        rintro rfl
        have : (2 : Nat) ^ (7 * 9) = 9223372036854775808 := by decide
        rw [this] at hu; omega
      have hdiv : u / 128 * 2 ^ (7 * (i + 1)) ≤ u * 2 ^ (7 * i) := by
        rw [pow7, ← Nat.mul_assoc]
        exact Nat.mul_le_mul_right _ (by omega)
      have ih := rd_vb k (u / 128) (i + 1) (a + (u % 128) * 2 ^ (7 * i)) rest (by simp at hk; omega) (by omega) (by omega)
      rw [List.cons_append, rd, if_neg (by omega), if_neg (by omega), if_pos (by omega)]
      have e1 : ((((u % 128 + 128 : Nat) : Int)) % 128).toNat = u % 128 := by omega
      rw [e1, ih]
      have e2 : a + u % 128 * 2 ^ (7 * i) + u / 128 * 2 ^ (7 * (i + 1)) = a + u * 2 ^ (7 * i) := by
        rw [pow7, ← Nat.mul_assoc, Nat.add_assoc, ← Nat.add_mul]
        congr 2; omega
      rw [e2]; simp; omega
    · rw [vb_small hu7]
      rw [List.singleton_append, rd, if_neg (by omega), if_neg ?_, if_neg (by omega), if_neg ?_]
      · simp
      · rintro ⟨h1, h2⟩
        exact h0 h2 (by omega)
      · rintro ⟨rfl, h2⟩
        have : (2 : Nat) ^ (7 * 9) = 9223372036854775808 := by decide
        rw [this] at hu
        omega
theorem rd_put (u : Nat) (rest : List Int) (h : u < 18446744073709551616) : rd 0 0 (vb u ++ rest) = some (u, (vb u).length) := by
  have := rd_vb _ u 0 0 rest (Nat.le_refl _) (by simpa using h) (by omega)
  simpa using this

/-- what is read as a number are its bytes -/
theorem rd_back : ∀ (b : List Int) (i a v n : Nat), (∀ x ∈ b, 0 ≤ x ∧ x ≤ 255) → rd i a b = some (v, n) →
    ∃ u, v = a + u * 2 ^ (7 * i) ∧ u * 2 ^ (7 * i) < 18446744073709551616 ∧ n = i + (vb u).length ∧ (∃ rest, b = vb u ++ rest) ∧ (0 < i → u ≠ 0)
  | [], i, a, v, n, _, h => by simp [rd] at h
  | c :: r, i, a, v, n, hb, h => by
    have hc := hb c (by simp)
    rw [rd] at h
    by_cases h1 : i > 9
    · rw [if_pos h1] at h; cases h
    rw [if_neg h1] at h
    by_cases h2 : i = 9 ∧ c > 1
    · rw [if_pos h2] at h; cases h
    rw [if_neg h2] at h
    by_cases h3 : c > 127
    · rw [if_pos h3] at h
      obtain ⟨u, e1, e2, e3, ⟨rest, e4⟩, e5⟩ := rd_back r (i + 1) _ v n (fun x hx => hb x (by simp [hx])) h
      have hu := e5 (by omega)
      have hi9 : i ≠ 9 := fun e => h2 ⟨e, by omega⟩
      have hbig : u * 128 + (c % 128).toNat > 127 := by omega
      have e8 : (u * 128 + (c % 128).toNat) / 128 = u := by omega
      have e9 : (u * 128 + (c % 128).toNat) % 128 = (c % 128).toNat := by omega
      refine ⟨u * 128 + (c % 128).toNat, ?_, ?_, ?_, ⟨rest, ?_⟩, fun _ => by omega⟩
      · rw [e1, pow7, ← Nat.mul_assoc, Nat.add_assoc, ← Nat.add_mul]; congr 2; omega
      · rw [pow7, ← Nat.mul_assoc] at e2
        -- the number's value is a multiple plus less than one step
        rcases Nat.lt_or_ge ((u * 128 + (c % 128).toNat) * 2 ^ (7 * i)) 18446744073709551616 with hlt | hge
        · exact hlt
        · exfalso
          have hi : i ≤ 8 := by omega
          obtain ⟨j, hj⟩ : ∃ j, 18446744073709551616 = j * 128 * 2 ^ (7 * i) := by
            refine ⟨2 ^ (64 - 7 - 7 * i), ?_⟩
            rw [show (128 : Nat) = 2 ^ 7 by decide, ← Nat.pow_add, ← Nat.pow_add, show 64 - 7 - 7 * i + 7 + 7 * i = 64 by omega]
          rw [hj] at hge e2
          have hp : 0 < 2 ^ (7 * i) := Nat.pos_of_ne_zero (by simp)
          have g1 : u * 128 < j * 128 := Nat.lt_of_mul_lt_mul_right e2
          have g2 : j * 128 ≤ u * 128 + (c % 128).toNat := Nat.le_of_mul_le_mul_right hge hp
          omega
      · rw [e3, vb_big hbig, e8]; simp; omega
      · rw [vb_big hbig, e8, e9, e4]
        simp; omega
    · rw [if_neg h3] at h
      by_cases h4 : c = 0 ∧ i > 0
      · rw [if_pos h4] at h; cases h
      rw [if_neg h4] at h
      simp only [Option.some.injEq, Prod.mk.injEq] at h
      have hs : ¬ c.toNat > 127 := by omega
      refine ⟨c.toNat, h.1.symm, ?_, ?_, ⟨r, ?_⟩, fun hi => by omega⟩
      · by_cases hi9 : i = 9
        · subst hi9
          have : (2 : Nat) ^ (7 * 9) = 9223372036854775808 := by decide
          rw [this]; omega
        · have g1 : (2 : Nat) ^ (7 * i) ≤ 2 ^ (7 * 8) := Nat.pow_le_pow_right (by decide) (by omega)
          have g2 : c.toNat * 2 ^ (7 * i) ≤ 127 * 2 ^ (7 * 8) := Nat.mul_le_mul (by omega) g1
          have : 127 * (2 : Nat) ^ (7 * 8) = 9151314442816847872 := by decide
          omega
      · rw [vb_small hs, ← h.2]; simp
      · rw [vb_small hs]; simp; omega
theorem rd_put_back (b : List Int) (u n : Nat) (hb : ∀ x ∈ b, 0 ≤ x ∧ x ≤ 255) (h : rd 0 0 b = some (u, n)) : u < 18446744073709551616 ∧ n = (vb u).length ∧ b = vb u ++ b.drop n := by
  obtain ⟨v, e1, e2, e3, ⟨rest, e4⟩, _⟩ := rd_back b 0 0 u n hb h
  simp at e1 e2 e3
  subst e1 e3
  refine ⟨e2, rfl, ?_⟩
  rw [e4, List.drop_left]
theorem rd_len (b : List Int) (u n : Nat) (hb : ∀ x ∈ b, 0 ≤ x ∧ x ≤ 255) (h : rd 0 0 b = some (u, n)) : n ≤ b.length ∧ 0 < n := by
  obtain ⟨_, e2, e3⟩ := rd_put_back b u n hb h
  have := vb_pos u
  have h3 := congrArg List.length e3
  simp at h3
  omega

theorem or_join (U k m : Nat) (hU : U < 2 ^ k) (hm : m * 2 ^ k < 18446744073709551616) (hU2 : U < 18446744073709551616) : bits .or .u64 (U : Int) ((m * 2 ^ k : Nat) : Int) = ((U + m * 2 ^ k : Nat) : Int) := by
  rw [u64_or_nat U (m * 2 ^ k) hU2 hm]
  congr 1
  rw [Nat.or_comm, nat_join k (m * 2 ^ k) U (Nat.mul_mod_left _ _) hU, Nat.add_comm]
theorem and127 (x : Int) (h0 : 0 ≤ x) (h1 : x ≤ 255) : bits .and .u8 x 127 = (((x % 128).toNat : Nat) : Int) := by
  obtain ⟨m, rfl⟩ := Int.eq_ofNat_of_zero_le h0
  have e : (127 : Int) = ((127 : Nat) : Int) := rfl
  rw [e, u8_and_nat m 127 (by omega) (by omega), nat_mask7]
  omega
theorem or_step (U k : Nat) (x : Int) (h0 : 0 ≤ x) (h1 : x ≤ 255) (hU : U < 2 ^ (7 * k)) (hs : (x % 128).toNat * 2 ^ (7 * k) < 18446744073709551616) (hU2 : U < 18446744073709551616) :
    bits .or .u64 (U : Int) (IntKind.u64.wrap (IntKind.u64.wrap (bits .and .u8 x 127) * 2 ^ (7 * k))) = ((U + (x % 128).toNat * 2 ^ (7 * k) : Nat) : Int) := by
  rw [and127 x h0 h1, IntKind.wrap_u64, IntKind.wrap_u64]
  generalize hm : (x % 128).toNat = m at *
  have e1 : (m : Int) % 18446744073709551616 = m := by omega
  have e2 : ((m : Int) * 2 ^ (7 * k)) = ((m * 2 ^ (7 * k) : Nat) : Int) := by simp
  rw [e1, e2, Int.emod_eq_of_lt (by omega) (by omega)]
  exact or_join U (7 * k) m hU hs hU2
theorem or_lt (U k m : Nat) (hU : U < 2 ^ (7 * k)) (hm : m < 128) : U + m * 2 ^ (7 * k) < 2 ^ (7 * (k + 1)) := by
  rw [pow7]
  have : (m + 1) * 2 ^ (7 * k) ≤ 128 * 2 ^ (7 * k) := Nat.mul_le_mul_right _ (by omega)
  rw [Nat.add_mul] at this
  omega
theorem sh_lt (k m : Nat) (hk : k ≤ 8) (hm : m < 128) : m * 2 ^ (7 * k) < 18446744073709551616 := by
  have g1 : (2 : Nat) ^ (7 * k) ≤ 2 ^ (7 * 8) := Nat.pow_le_pow_right (by decide) (by omega)
  have g2 : m * 2 ^ (7 * k) ≤ 127 * 2 ^ (7 * 8) := Nat.mul_le_mul (by omega) g1
  have : 127 * (2 : Nat) ^ (7 * 8) = 9151314442816847872 := by decide
  omega
theorem u_lt (k U : Nat) (hk : k ≤ 9) (hU : U < 2 ^ (7 * k)) : U < 9223372036854775808 := by
  have g1 : (2 : Nat) ^ (7 * k) ≤ 2 ^ (7 * 9) := Nat.pow_le_pow_right (by decide) (by omega)
  have : (2 : Nat) ^ (7 * 9) = 9223372036854775808 := by decide
  omega

theorem i64_xor_zero (a : Nat) (ha : a < 9223372036854775808) : bits .xor .i64 (a : Int) 0 = a := by
  show IntKind.i64.wrap ((BitVec.ofInt 64 (a : Int) ^^^ BitVec.ofInt 64 0).toNat : Int) = _
  have e : BitVec.ofInt 64 (a : Int) ^^^ BitVec.ofInt 64 0 = BitVec.ofNat 64 a := by
    rw [show BitVec.ofInt 64 0 = 0#64 from rfl, BitVec.xor_zero, BitVec.ofInt_natCast]
  rw [e, BitVec.toNat_ofNat, Nat.mod_eq_of_lt (by omega), IntKind.wrap_i64]; omega
theorem i64_xor_ones (a : Nat) (ha : a < 9223372036854775808) : bits .xor .i64 (a : Int) (-1) = -(a : Int) - 1 := by
  show IntKind.i64.wrap ((BitVec.ofInt 64 (a : Int) ^^^ BitVec.ofInt 64 (-1)).toNat : Int) = _
  have e : BitVec.ofInt 64 (a : Int) ^^^ BitVec.ofInt 64 (-1) = ~~~ BitVec.ofNat 64 a := by
    rw [show BitVec.ofInt 64 (-1) = BitVec.allOnes 64 from rfl, BitVec.xor_allOnes, BitVec.ofInt_natCast]
  rw [e, BitVec.toNat_not, BitVec.toNat_ofNat, Nat.mod_eq_of_lt (by omega), IntKind.wrap_i64]; omega
theorem fin_eq (V : Nat) (hV : V < 18446744073709551616) : bits .xor .i64 (wrap64 ((V : Int) / 2)) (wrap64 (-wrap64 (bits .and .u64 (V : Int) 1))) = uz V := by
  have e1 : bits .and .u64 (V : Int) 1 = ((V % 2 : Nat) : Int) := by
    have := u64_and_nat V 1 hV (by omega)
    rw [nat_mask1] at this
    exact this
  have e2 : wrap64 ((V : Int) / 2) = ((V / 2 : Nat) : Int) := by unfold wrap64; omega
  rw [e1, e2]
  rcases (by omega : V % 2 = 0 ∨ V % 2 = 1) with h | h
  · rw [h]
    have e3 : wrap64 (-wrap64 ((0 : Nat) : Int)) = 0 := by decide
    rw [e3, i64_xor_zero _ (by omega)]
    simp [uz, h]
  · rw [h]
    have e3 : wrap64 (-wrap64 ((1 : Nat) : Int)) = -1 := by decide
    rw [e3, i64_xor_ones _ (by omega)]
    simp [uz, h]

/-- the next k integers, which are all -/
def getL : Nat → List Int → Option (List Int)
  | 0, b => if b = [] then some [] else none
  | k + 1, b => match rd 0 0 b with
    | none => none
    | some (u, n) => (getL k (b.drop n)).map (uz u :: ·)
/-- the integers of bytes -/
def getB (b : List Int) : Option (List Int) := match rd 0 0 b with
  | none => none
  | some (u, n) => if uz u < 0 ∨ uz u > 4000 then none else getL (uz u).toNat (b.drop n)
end Go.Proofs.Ytopdgjpoknndmaa

/- Money in plain Lean: texts of amounts. -/
import Derived.Test.YtaloadadecoogaaDoorDigT
namespace Go.Proofs.YtaloadadecoogaaDoor
set_option linter.unusedSimpArgs false
set_option linter.unusedVariables false
set_option maxRecDepth 100000
open Go.RowKit

/-- the bytes of the text of an amount -/
def mT (n : Int) : List UInt8 := (if n < 0 then [45] else []) ++ Lib.decDigits (n.natAbs / 100) ++ [46, UInt8.ofNat (48 + n.natAbs / 10 % 10), UInt8.ofNat (48 + n.natAbs % 10)]
def mS (n : Int) : ByteArray := ⟨(mT n).toArray⟩
/-- a digit is read -/
def dgB (acc : Int) (b : UInt8) : Int := if 48 ≤ b.toNat ∧ b.toNat ≤ 57 ∧ acc ≤ 1000000000 then 10 * acc + ((b.toNat : Int) - 48) else acc
def dgL (l : List UInt8) (acc : Int) : Int := l.foldl dgB acc
theorem dgL_append (a b : List UInt8) (acc : Int) : dgL (a ++ b) acc = dgL b (dgL a acc) := by rw [dgL, dgL, dgL, List.foldl_append]
theorem dg_digit {d : Nat} (hd : d < 10) {acc : Int} (ha : acc ≤ 1000000000) : dgB acc (UInt8.ofNat (48 + d)) = 10 * acc + d := by
  have e : (UInt8.ofNat (48 + d)).toNat = 48 + d := by simp; omega
  rw [dgB, e, if_pos ⟨by omega, by omega, ha⟩]; omega
theorem dg_dec : ∀ (k u : Nat), u < k → u ≤ 1000000000 → dgL (Lib.decDigits u) 0 = u
  | 0, u, h, _ => by omega
  | k + 1, u, h, hu => by
    rw [Lib.decDigits]
    by_cases h10 : u < 10
    · rw [dif_pos h10]
      simp only [dgL, List.foldl_cons, List.foldl_nil]
      rw [dg_digit h10 (by omega)]; omega
    · rw [dif_neg h10, dgL_append, dg_dec k (u / 10) (by omega) (by omega)]
      simp only [dgL, List.foldl_cons, List.foldl_nil]
      rw [dg_digit (by omega) (by omega)]; omega
theorem dg_text {n : Int} (h : -1000000000 ≤ n ∧ n ≤ 1000000000) : dgL (mT n) 0 = (n.natAbs : Int) := by
  have s : dgL (if n < 0 then [45] else []) 0 = 0 := by split <;> rfl
  rw [mT, dgL_append, dgL_append, s, dg_dec _ _ (Nat.lt_succ_self _) (by omega)]
  have e : ∀ a : Int, dgB a 46 = a := fun a => by rw [dgB, if_neg (by intro hh; have := hh.1; revert this; decide)]
  simp only [dgL, List.foldl_cons, List.foldl_nil]
  have e1 := dg_digit (d := n.natAbs / 10 % 10) (by omega) (acc := ((n.natAbs / 100 : Nat) : Int)) (by omega)
  rw [e, e1, dg_digit (by omega) (by omega)]
  omega
theorem dec_ne (u : Nat) : ∃ b r, Lib.decDigits u = b :: r ∧ 48 ≤ b.toNat := by
  cases h : Lib.decDigits u with
  | nil =>
    have := Lib.decDigits_length u
    rw [h] at this
    rw [Lib.decDigits] at h
    split at h
    · cases h
    · simp at h
  | cons b r => exact ⟨b, r, rfl, (decDigits_mem _ u (Nat.lt_succ_self _) b (by rw [h]; exact List.mem_cons_self)).1⟩
/-- whether the text begins with a minus sign -/
theorem text_sign (n : Int) : ((mT n).head? = some 45) ↔ n < 0 := by
  unfold mT
  by_cases h : n < 0
  · simp [h]
  · obtain ⟨b, r, e, hb⟩ := dec_ne (n.natAbs / 100)
    rw [if_neg h, e]
    simp only [List.nil_append, List.cons_append, List.head?_cons, Option.some.injEq]
    constructor
    · rintro rfl; exact absurd hb (by decide)
    · intro hh; exact absurd hh h
/-- the number that is read -/
def psV (l : List UInt8) : Int := if l.head? = some 45 then - dgL l 0 else dgL l 0
theorem psV_text {n : Int} (h : -1000000000 ≤ n ∧ n ≤ 1000000000) : psV (mT n) = n := by
  rw [psV, dg_text h]
  by_cases hn : n < 0
  · rw [if_pos ((text_sign n).2 hn)]; omega
  · rw [if_neg (fun e => hn ((text_sign n).1 e))]; omega
theorem mS_inj {a b : Int} (ha : -1000000000 ≤ a ∧ a ≤ 1000000000) (hb : -1000000000 ≤ b ∧ b ≤ 1000000000) (h : mS a = mS b) : a = b := by
  have e : mT a = mT b := by
    have := congrArg (fun s : ByteArray => s.data.toList) h
    simpa [mS] using this
  rw [← psV_text ha, ← psV_text hb, e]
theorem dg_step_bound (l : List UInt8) : ∀ acc : Int, 0 ≤ acc → acc ≤ 10000000009 → 0 ≤ dgL l acc ∧ dgL l acc ≤ 10000000009 := by
  induction l with
  | nil => intro acc h1 h2; exact ⟨h1, h2⟩
  | cons b r ih =>
    intro acc h1 h2
    have : 0 ≤ dgB acc b ∧ dgB acc b ≤ 10000000009 := by unfold dgB; split <;> omega
    exact ih _ this.1 this.2
end Go.Proofs.YtaloadadecoogaaDoor

/- Money in plain Lean: the digits of a string, by runes and by bytes. -/
import Derived.Test.YtaloadadecoogaaDoorMnT
import Derived.Laws.RangeAny
namespace Go.Proofs.YtaloadadecoogaaDoor
set_option linter.unusedSimpArgs false
set_option linter.unusedVariables false
set_option maxRecDepth 100000
open Go.RowKit

theorem decode_tail (s : ByteArray) (pos : Nat) (h : pos < s.size) (ha : 128 ≤ (s[pos]'h).toNat) : pos + (Utf8.decode s pos).2 ≤ s.size ∧ ∀ k, k < (Utf8.decode s pos).2 → 128 ≤ (s.get! (pos + k)).toNat := by
  have e0 : (s.get! (pos + 0)).toNat = (s[pos]'h).toNat := by rw [get_at s pos h]
  have hn : ¬ (s.get! (pos + 0)).toNat < 128 := by omega
  have one : pos + 1 ≤ s.size ∧ ∀ k, k < 1 → 128 ≤ (s.get! (pos + k)).toNat := ⟨by omega, fun k hk => by
    have : k = 0 := by omega
    subst this; omega⟩
  simp only [Utf8.decode, hn, if_false]
  split
  · rename_i h1
    simp only [Bool.and_eq_true, decide_eq_true_eq, beq_iff_eq] at h1
    split
    · refine ⟨by simp only; omega, fun k hk => ?_⟩
      simp only at hk
      rcases (show k = 0 ∨ k = 1 by omega) with rfl | rfl <;> omega
    · exact one
  split
  · rename_i h1
    simp only [Bool.and_eq_true, decide_eq_true_eq, beq_iff_eq] at h1
    split
    · refine ⟨by simp only; omega, fun k hk => ?_⟩
      simp only at hk
      rcases (show k = 0 ∨ k = 1 ∨ k = 2 by omega) with rfl | rfl | rfl <;> omega
    · exact one
  split
  · rename_i h1
    simp only [Bool.and_eq_true, decide_eq_true_eq, beq_iff_eq] at h1
    split
    · refine ⟨by simp only; omega, fun k hk => ?_⟩
      simp only at hk
      rcases (show k = 0 ∨ k = 1 ∨ k = 2 ∨ k = 3 by omega) with rfl | rfl | rfl | rfl <;> omega
    · exact one
  · exact one
theorem drop_byte (s : ByteArray) (pos : Nat) (h : pos < s.size) : s.data.toList.drop pos = s.get! pos :: s.data.toList.drop (pos + 1) := by
  have h2 : pos < s.data.toList.length := by rw [Array.length_toList]; exact h
  rw [List.drop_eq_getElem_cons h2]
  congr 1
  have := get_at s pos h
  simp only [Nat.add_zero] at this
  rw [this]
  rfl
theorem dg_high {b : UInt8} (h : 128 ≤ b.toNat) (acc : Int) : dgB acc b = acc := by rw [dgB, if_neg (by intro hh; omega)]
theorem dg_skip (s : ByteArray) : ∀ (n pos : Nat) (acc : Int), pos + n ≤ s.size → (∀ k, k < n → 128 ≤ (s.get! (pos + k)).toNat) → dgL (s.data.toList.drop pos) acc = dgL (s.data.toList.drop (pos + n)) acc
  | 0, pos, acc, _, _ => rfl
  | n + 1, pos, acc, h, hk => by
    have h0 := hk 0 (by omega)
    simp only [Nat.add_zero] at h0
    rw [drop_byte s pos (by omega)]
    have : dgL (s.get! pos :: s.data.toList.drop (pos + 1)) acc = dgL (s.data.toList.drop (pos + 1)) (dgB acc (s.get! pos)) := rfl
    rw [this, dg_high h0, dg_skip s n (pos + 1) acc (by omega) (fun k h1 => by have := hk (k + 1) (by omega); rw [show pos + 1 + k = pos + (k + 1) by omega]; exact this)]
    rw [show pos + 1 + n = pos + (n + 1) by omega]
/-- one rune more -/
def dgR (acc : Int) (r : Int) : Int := if 48 ≤ r ∧ r ≤ 57 ∧ acc ≤ 1000000000 then 10 * acc + (r - 48) else acc
theorem dgB_rune (acc : Int) (b : UInt8) : dgB acc b = dgR acc (b.toNat : Int) := by
  unfold dgB dgR
  by_cases h : 48 ≤ b.toNat ∧ b.toNat ≤ 57 ∧ acc ≤ 1000000000
  · rw [if_pos h, if_pos (by omega)]
  · rw [if_neg h, if_neg (by omega)]
theorem dg_rune (s : ByteArray) (pos : Nat) (acc : Int) (h : pos < s.size) : dgL (s.data.toList.drop pos) acc = dgL (s.data.toList.drop (pos + (Utf8.decode s pos).2)) (dgR acc (Utf8.decode s pos).1) ∧ pos < pos + (Utf8.decode s pos).2 ∧ pos + (Utf8.decode s pos).2 ≤ s.size := by
  by_cases ha : (s[pos]'h).toNat < 128
  · have e := decode_ascii s pos h ha
    have g := get_at s pos h
    simp only [Nat.add_zero] at g
    rw [e, drop_byte s pos h]
    refine ⟨?_, by simp only; omega, by simp only; omega⟩
    show dgL (s.data.toList.drop (pos + 1)) (dgB acc (s.get! pos)) = _
    rw [g, dgB_rune]
  · have hh := decode_high s pos h (by omega)
    obtain ⟨t1, t2⟩ := decode_tail s pos h (by omega)
    have e : dgR acc ((Utf8.decode s pos).1 : Int) = acc := by rw [dgR, if_neg (by omega)]
    rw [e]
    exact ⟨dg_skip s _ pos acc t1 t2, by omega, t1⟩
end Go.Proofs.YtaloadadecoogaaDoor

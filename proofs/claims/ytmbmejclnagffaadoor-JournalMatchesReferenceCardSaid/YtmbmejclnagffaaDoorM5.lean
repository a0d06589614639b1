/- Plain texts of digests: the bytes of a number and of the texts of integers (no program in sight). -/
import Derived.Lib.ItoaNum
import Derived.Lib.ItoaLen
import Derived.Test.YtmbmejclnagffaaDoorM2
import Derived.Test.YtmbmejclnagffaaDoorM4
set_option linter.unusedSimpArgs false
set_option linter.unusedVariables false
set_option maxRecDepth 100000
namespace Go.Proofs.YtmbmejclnagffaaDoor
open Go.RowKit
/-- the bytes of a number, the highest one first -/
def hi8 (d : Int) : List Int := (List.range 8).map fun i => d / 2 ^ (56 - 8 * i) % 256
theorem hi8_len (d : Int) : (hi8 d).length = 8 := by simp [hi8]
theorem hi8_get (d : Int) (k : Nat) (h : k < 8) : (hi8 d).getD k 0 = d / 2 ^ (56 - 8 * k) % 256 := by
  simp [hi8, List.getD_eq_getElem?_getD, h]
theorem hi8_bytes (d : Int) : ∀ x ∈ hi8 d, 0 ≤ x ∧ x ≤ 255 := fun x hx => by
  simp only [hi8, List.mem_map] at hx
  obtain ⟨i, _, rfl⟩ := hx
  omega
/-- the text of an integer, as a string and as bytes -/
def txt (n : Int) : ByteArray := ⟨(Lib.itoa n).toArray⟩
def decB (n : Int) : List Int := (Lib.itoa n).map fun b => (b.toNat : Int)
theorem txt_size (n : Int) : (txt n).size = (decB n).length := by simp [txt, decB, ByteArray.size]
theorem decDigits_mem : ∀ (k u : Nat), u < k → ∀ b ∈ Lib.decDigits u, 48 ≤ b.toNat ∧ b.toNat ≤ 57
  | 0, u, h, _, _ => by omega
  | k + 1, u, h, b, hb => by
    rw [Lib.decDigits] at hb
    have one : ∀ d : Nat, d < 10 → ∀ c : UInt8, c ∈ [UInt8.ofNat (48 + d)] → 48 ≤ c.toNat ∧ c.toNat ≤ 57 := fun d hd c hc => by
      have e : c = UInt8.ofNat (48 + d) := by simpa using hc
      have e2 : c.toNat = 48 + d := by rw [e]; simp; omega
      omega
    split at hb
    · exact one u (by omega) b hb
    · rcases List.mem_append.1 hb with h1 | h1
      · exact decDigits_mem k (u / 10) (by omega) b h1
      · exact one (u % 10) (by omega) b h1
theorem itoa_mem (n : Int) : ∀ b ∈ Lib.itoa n, 45 ≤ b.toNat ∧ b.toNat ≤ 57 := fun b hb => by
  rw [Lib.itoa] at hb
  split at hb
  · rcases List.mem_cons.1 hb with rfl | h1
    · decide
    · have := decDigits_mem _ _ (Nat.lt_succ_self _) b h1; omega
  · have := decDigits_mem _ _ (Nat.lt_succ_self _) b hb; omega
theorem decB_mem (n : Int) : ∀ x ∈ decB n, 45 ≤ x ∧ x ≤ 57 := fun x hx => by
  simp only [decB, List.mem_map] at hx
  obtain ⟨b, hb, rfl⟩ := hx
  have := itoa_mem n b hb; omega
theorem decB_get (n : Int) (k : Nat) (h : k < (txt n).size) : (decB n).getD k 0 = (((txt n)[k]'h).toNat : Int) := by
  have h2 : k < (Lib.itoa n).length := by simpa [txt, ByteArray.size] using h
  simp [decB, List.getD_eq_getElem?_getD, h2, txt]
  rfl
theorem txt_ascii (n : Int) (k : Nat) (h : k < (txt n).size) : ((txt n)[k]'h).toNat < 128 := by
  have h1 := decB_get n k h
  have h2 : k < (decB n).length := by rw [← txt_size]; exact h
  have h3 := decB_mem n _ (show (decB n).getD k 0 ∈ decB n by simp [List.getD_eq_getElem?_getD, h2])
  omega
/-- the texts of integers, each with a blank behind it -/
def wordsB (l : List Int) : List Int := l.flatMap fun n => decB n ++ [32]
theorem wordsB_snoc (l : List Int) (k : Nat) (h : k < l.length) : wordsB (l.take (k + 1)) = wordsB (l.take k) ++ decB (l.getD k 0) ++ [32] := by
  rw [take_snocD l k 0 h]; simp [wordsB]
def textB (d : Int) (l : List Int) : List Int := hi8 d ++ wordsB l
/-- Next, Chain -/
def nextB (d : Int) (l : List Int) : Int := sumB 14695981039346656037 (textB d l)
def chainB (ll : List (List Int)) : Int := ll.foldl (fun d x => nextB d ((x.length : Int) :: x)) 14695981039346656037
theorem chainB_snoc (ll : List (List Int)) (k : Nat) (h : k < ll.length) : chainB (ll.take (k + 1)) = nextB (chainB (ll.take k)) (((ll.getD k []).length : Int) :: ll.getD k []) := by
  simp only [take_snocD ll k [] h, chainB, List.foldl_append, List.foldl_cons, List.foldl_nil]
theorem sumB_ok (l : List Int) : 0 ≤ sumB 14695981039346656037 l ∧ sumB 14695981039346656037 l ≤ 18446744073709551615 := sumB_in _ (by omega) l
theorem nextB_in (d : Int) (l : List Int) : 0 ≤ nextB d l ∧ nextB d l ≤ 18446744073709551615 := sumB_ok _
theorem chainB_in (ll : List (List Int)) : 0 ≤ chainB ll ∧ chainB ll ≤ 18446744073709551615 := by
  rcases List.eq_nil_or_concat ll with rfl | ⟨r, x, rfl⟩
  · simp only [chainB, List.foldl_nil]; omega
  · simp only [List.concat_eq_append, chainB, List.foldl_append, List.foldl_cons, List.foldl_nil]; exact nextB_in _ _
end Go.Proofs.YtmbmejclnagffaaDoor

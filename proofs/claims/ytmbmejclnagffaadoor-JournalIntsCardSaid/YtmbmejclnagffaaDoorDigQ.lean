/- Plain laws of digests: a last digit that is turned; lists behind lists (no program in sight). -/
import Derived.Test.YtmbmejclnagffaaDoorDigS
namespace Go.Proofs.YtmbmejclnagffaaDoor
set_option linter.unusedSimpArgs false
set_option linter.unusedVariables false
set_option maxRecDepth 100000
open Go.RowKit

/-- what the digits of a number begin with: all but the last one -/
def preD (q : Nat) : List Int := if q = 0 then [] else (Lib.decDigits q).map fun b => (b.toNat : Int)
theorem dec_last (q r : Nat) (hr : r ≤ 9) : decB ((10 * q + r : Nat) : Int) = preD q ++ [48 + (r : Int)] := by
  have e : (((UInt8.ofNat (48 + r)).toNat : Nat) : Int) = 48 + (r : Int) := by
    have : (UInt8.ofNat (48 + r)).toNat = 48 + r := by simp; omega
    rw [this]; omega
  rw [decB, Lib.itoa, if_neg (by omega), Int.toNat_natCast, Lib.decDigits, preD]
  by_cases h : q = 0
  · subst h
    rw [dif_pos (by omega), if_pos rfl, Nat.mul_zero, Nat.zero_add]
    simp only [List.map_cons, List.map_nil, List.nil_append, e]
  · have h1 : (10 * q + r) / 10 = q := by omega
    have h2 : (10 * q + r) % 10 = r := by omega
    rw [dif_neg (by omega), if_neg h, h1, h2, List.map_append]
    simp only [List.map_cons, List.map_nil, e]
/-- the number with another last digit -/
def turnI (n b : Int) : Int := n - n % 10 + (n % 10 + 1 + b % 9) % 10
theorem turn_parts {n b : Int} (hn : 0 ≤ n) (hb : 0 ≤ b) : ∃ q r r' : Nat, r ≤ 9 ∧ r' ≤ 9 ∧ r ≠ r' ∧ n = ((10 * q + r : Nat) : Int) ∧ turnI n b = ((10 * q + r' : Nat) : Int) := by
  refine ⟨(n / 10).toNat, (n % 10).toNat, ((n % 10 + 1 + b % 9) % 10).toNat, by omega, by omega, by omega, by omega, ?_⟩
  unfold turnI; omega
theorem turn_in {n b : Int} (hn : 0 ≤ n) (hm : n ≤ 1000000000000) (hb : 0 ≤ b) : 0 ≤ turnI n b ∧ turnI n b ≤ 1000000000009 := by
  unfold turnI; omega
theorem sum_mid {D a b : Int} {X Y : List Int} (hD : 0 ≤ D ∧ D ≤ 18446744073709551615) (ha : 0 ≤ a ∧ a ≤ 255) (hb : 0 ≤ b ∧ b ≤ 255) (hY : ∀ x ∈ Y, 0 ≤ x ∧ x ≤ 255) (h : a ≠ b) : sumB D (X ++ a :: Y) ≠ sumB D (X ++ b :: Y) := fun he => by
  rw [sumB_append, sumB_append] at he
  have h2 : stepB (sumB D X) a = stepB (sumB D X) b := sumB_inj hY (stepB_in _ _) (stepB_in _ _) he
  exact h (stepB_inj_byte (sumB_in D hD X) ha hb h2)
theorem next_turn (d : Int) (l : List Int) (k : Nat) (b : Int) (hk : k < l.length) (hn : 0 ≤ l.getD k 0) (hb : 0 ≤ b) : nextB d l ≠ nextB d (l.set k (turnI (l.getD k 0) b)) := by
  obtain ⟨q, r, r', hr, hr', hne, e1, e2⟩ := turn_parts hn hb
  have hl : l = l.take k ++ l.getD k 0 :: l.drop (k + 1) := by
    have : l.getD k 0 = l[k] := by simp [List.getD_eq_getElem?_getD, hk]
    rw [this, List.getElem_cons_drop, List.take_append_drop]
  have hs : l.set k (turnI (l.getD k 0) b) = l.take k ++ turnI (l.getD k 0) b :: l.drop (k + 1) := List.set_eq_take_append_cons_drop.trans (by rw [if_pos hk])
  have w1 : wordsB l = wordsB (l.take k) ++ (preD q ++ [48 + (r : Int)] ++ [32]) ++ wordsB (l.drop (k + 1)) := by
    conv => lhs; rw [hl]
    rw [wordsB_append, show (l.getD k 0 :: l.drop (k + 1)) = [l.getD k 0] ++ l.drop (k + 1) from rfl, wordsB_append, e1, ← dec_last q r hr]
    simp [wordsB]
  have w2 : wordsB (l.set k (turnI (l.getD k 0) b)) = wordsB (l.take k) ++ (preD q ++ [48 + (r' : Int)] ++ [32]) ++ wordsB (l.drop (k + 1)) := by
    rw [hs, wordsB_append, show (turnI (l.getD k 0) b :: l.drop (k + 1)) = [turnI (l.getD k 0) b] ++ l.drop (k + 1) from rfl, wordsB_append, e2, ← dec_last q r' hr']
    simp [wordsB]
  rw [nextB, nextB, textB, textB, w1, w2]
  have f : ∀ x : Int, hi8 d ++ (wordsB (l.take k) ++ (preD q ++ [x] ++ [32]) ++ wordsB (l.drop (k + 1))) = (hi8 d ++ wordsB (l.take k) ++ preD q) ++ x :: (32 :: wordsB (l.drop (k + 1))) := fun x => by simp
  rw [f, f]
  refine sum_mid (by omega) (by omega) (by omega) (fun x hx => ?_) (by omega)
  rcases List.mem_cons.1 hx with rfl | h
  · omega
  · exact wordsB_bytes _ x h
theorem chain_snoc (ll : List (List Int)) (l : List Int) : chainB (ll ++ [l]) = nextB (chainB ll) ((l.length : Int) :: l) := by
  simp only [chainB, List.foldl_append, List.foldl_cons, List.foldl_nil]
theorem chain_same {a b : List (List Int)} (h : chainB a = chainB b) (m : List (List Int)) : chainB (a ++ m) = chainB (b ++ m) := by
  simp only [chainB, List.foldl_append] at h ⊢; rw [h]
theorem chain_turn (ll : List (List Int)) (l : List Int) (k : Nat) (b : Int) (hk : k < l.length) (hn : 0 ≤ l.getD k 0) (hb : 0 ≤ b) : chainB (ll ++ [l]) ≠ chainB (ll ++ [l.set k (turnI (l.getD k 0) b)]) := by
  rw [chain_snoc, chain_snoc, List.length_set]
  have := next_turn (chainB ll) ((l.length : Int) :: l) (k + 1) b (by simpa using hk) (by simpa using hn) hb
  simpa using this
theorem sum_behind {a b m : List Int} (hm : ∀ x ∈ m, 0 ≤ x ∧ x ≤ 255) : (sumB 14695981039346656037 a == sumB 14695981039346656037 b) = (sumB 14695981039346656037 (a ++ m) == sumB 14695981039346656037 (b ++ m)) := by
  rw [Bool.eq_iff_iff, beq_iff_eq, beq_iff_eq, sumB_append, sumB_append]
  exact ⟨fun h => by rw [h], fun h => sumB_inj hm (sumB_ok a) (sumB_ok b) h⟩
theorem xor8z {x b : Int} (hx : 0 ≤ x ∧ x ≤ 255) (hb : 0 ≤ b ∧ b ≤ 255) : 0 ≤ bits .xor .u8 x b ∧ bits .xor .u8 x b ≤ 255 ∧ (bits .xor .u8 x b = x ↔ b = 0) := by
  obtain ⟨x, rfl⟩ := Int.eq_ofNat_of_zero_le hx.1
  obtain ⟨b, rfl⟩ := Int.eq_ofNat_of_zero_le hb.1
  rw [u8_xor_nat x b (by omega) (by omega)]
  have h1 : x ^^^ b < 256 := Nat.xor_lt_two_pow (n := 8) (by omega) (by omega)
  refine ⟨by omega, by omega, fun h => ?_, fun h => ?_⟩
  · have h2 : x ^^^ b = x ^^^ 0 := by rw [Nat.xor_zero]; omega
    rw [xor_right_inj h2]; rfl
  · have : b = 0 := by omega
    rw [this, Nat.xor_zero]
theorem sum_onebyte {l : List Int} {p : Nat} {b : Int} (hl : ∀ x ∈ l, 0 ≤ x ∧ x ≤ 255) (hp : p < l.length) (hb : 0 ≤ b ∧ b ≤ 255) :
    (sumB 14695981039346656037 l == sumB 14695981039346656037 (l.set p (bits .xor .u8 (l.getD p 0) b))) = (b == 0) := by
  have hx := xor8z (bytes_getD hl p) hb
  rw [Bool.eq_iff_iff, beq_iff_eq, beq_iff_eq]
  constructor
  · intro h
    by_cases h0 : b = 0
    · exact h0
    · exact absurd h.symm (sumB_one hl (by omega) hp ⟨hx.1, hx.2.1⟩ (fun h1 => h0 (hx.2.2.1 h1)))
  · intro h
    have e : l.set p (bits .xor .u8 (l.getD p 0) b) = l := by
      rw [hx.2.2.2 h]
      have : l.getD p 0 = l[p] := by simp [List.getD_eq_getElem?_getD, hp]
      rw [this, List.set_getElem_self]
    rw [e]
theorem OwnInts.block {w : World} {base : Nat} {E : TypeId} {k : IntKind} {A : Option Addr} {c : Nat} {l : List Int} (h : OwnInts w base E k A c l) (hl : 0 < l.length) : ∃ g, A = some ⟨g, 0, none⟩ ∧ base ≤ g ∧ g < w.heap.size ∧ ∀ j, w.frozen? ⟨g, j, none⟩ = false := by
  rcases h.2 with ⟨hv, hn⟩ | ⟨g, cap, cur, hv, hb, hh, _⟩
  · omega
  · injection hv with hA _ _
    exact ⟨g, hA, hb, lt_of_block hh, fun j => frozen_of_row w g j cur E hh⟩
theorem IntsAt.set_at {w : World} {b off : Nat} {k : IntKind} {l : List Int} (h : IntsAt w (some ⟨b, off, none⟩) k l) {p : Nat} (hp : p < l.length) (y : Int) : IntsAt (w.setCell ⟨b, off + p, none⟩ (.int k y)) (some ⟨b, off, none⟩) k (l.set p y) := fun i hi => by
  rw [List.length_set] at hi
  obtain ⟨b', off', e, hlt, hc⟩ := h i hi
  injection e with e
  injection e with e1 e2
  subst e1 e2
  refine ⟨b, off, rfl, by simpa using hlt, ?_⟩
  by_cases hip : i = p
  · subst hip
    rw [World.cell?_setCell_same _ _ _ hc]
    simp [List.getD_eq_getElem?_getD, hi]
  · rw [World.cell?_setCell_other _ _ _ _ (by simp only [ne_eq, Addr.mk.injEq, and_true, true_and]; exact fun h => hip (by omega)), hc]
    simp [List.getD_eq_getElem?_getD, List.getElem?_set, Ne.symm hip]
end Go.Proofs.YtmbmejclnagffaaDoor

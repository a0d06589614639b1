/- Blocks of cells that may be written. -/
import Derived.Test.YtmbmejclnagffaaDoorChecked
import Derived.WalkKit
import Derived.WalkSpells
import Derived.WalkLawsBesides
import Derived.Deep.QuietTactic
import Derived.BigQuiet
import Derived.BigGuardPart
import Derived.Lib.Hide
import Derived.Below
import Derived.IntWalk
import Derived.Laws.Rows
import Derived.OneCell
import Derived.Outline
import Derived.Deep.RegionHeld3
import Derived.Deep.RegionWith
import Derived.Maps.AppendAt
import Derived.Deep.AppendLies
import Derived.Laws.OwnMore
import Derived.OwnWalk
import Derived.Laws.BitsAllLaws
import Derived.Lib.ItoaNum
import Derived.Lib.ItoaLen
import Derived.Shelf.Strconv.Itoa0
import Derived.Shelf.Strconv.Itoa1
import Derived.Shelf.LaysM
import Derived.Shelf.Strconv.Itoa2
import Derived.Shelf.Strconv.Itoa3
import Derived.Ground.Names2Prog
import Derived.Shelf.Slices.Clone
import Derived.Test.YtmbmejclnagffaaDoorProg
import Derived.Lib.AppendIntMem
import Derived.Lib.OthersKept
import Derived.Lib.AppendStr
import Derived.Laws.BytesArg
import Derived.Lib.Strings
import Derived.Test.YtmbmejclnagffaaDoorM1
import Derived.Test.YtmbmejclnagffaaDoorM2
import Derived.Test.YtmbmejclnagffaaDoorM3
import Derived.Test.YtmbmejclnagffaaDoorM4
import Derived.Test.YtmbmejclnagffaaDoorM5
import Derived.Test.YtmbmejclnagffaaDoorM6
import Derived.Test.YtmbmejclnagffaaDoorM7
import Derived.Test.YtmbmejclnagffaaDoorM8
import Derived.Test.YtmbmejclnagffaaDoorM9
import Derived.Test.YtmbmejclnagffaaDoorM10
import Derived.Test.YtmbmejclnagffaaDoorM11
import Derived.Test.YtmbmejclnagffaaDoorM12
import Derived.Test.YtmbmejclnagffaaDoorM13
import Derived.Test.YtmbmejclnagffaaDoorM14
import Derived.Test.YtmbmejclnagffaaDoorM15
import Derived.Test.YtmbmejclnagffaaDoorM16
import Derived.Test.YtmbmejclnagffaaDoorM17
import Derived.Test.YtmbmejclnagffaaDoorM18
import Derived.Test.YtmbmejclnagffaaDoorM19
import Derived.Test.YtmbmejclnagffaaDoorM20
import Derived.Test.YtmbmejclnagffaaDoorM21
import Derived.Test.YtmbmejclnagffaaDoorM22
import Derived.Test.YtmbmejclnagffaaDoorM23
import Derived.Test.YtmbmejclnagffaaDoorM24
import Derived.Test.YtmbmejclnagffaaDoorM25
import Derived.Test.YtmbmejclnagffaaDoorM26
import Derived.Test.YtmbmejclnagffaaDoorM27
import Derived.Test.YtmbmejclnagffaaDoorM28
import Derived.Test.YtmbmejclnagffaaDoorM29
import Derived.Test.YtmbmejclnagffaaDoorM30
import Derived.Test.YtmbmejclnagffaaDoorM31
import Derived.Test.YtmbmejclnagffaaDoorM32
import Derived.Test.YtmbmejclnagffaaDoorM33
import Derived.Test.YtmbmejclnagffaaDoorM34
import Derived.Test.YtmbmejclnagffaaDoorM35
import Derived.Test.YtmbmejclnagffaaDoorM36
import Derived.Test.YtmbmejclnagffaaDoorM37
import Derived.Test.YtmbmejclnagffaaDoorM38
import Derived.Test.YtmbmejclnagffaaDoorM39
import Derived.Test.YtmbmejclnagffaaDoorM40
import Derived.Test.YtmbmejclnagffaaDoorM41
import Derived.Test.YtmbmejclnagffaaDoorM42
import Derived.Test.YtmbmejclnagffaaDoorM43
import Derived.Test.YtmbmejclnagffaaDoorM44
import Derived.Test.YtmbmejclnagffaaDoorM45
import Derived.Test.YtmbmejclnagffaaDoorM46
import Derived.Test.YtmbmejclnagffaaDoorM47
import Derived.Test.YtmbmejclnagffaaDoorM48
set_option linter.unusedSimpArgs false
set_option linter.unusedVariables false
set_option maxRecDepth 100000
namespace Go.Proofs.YtmbmejclnagffaaDoor
open Go.RowKit

theorem xor_left_inj {a b c : Nat} (h : a ^^^ c = b ^^^ c) : a = b := by
  have := congrArg (· ^^^ c) h
  simpa [Nat.xor_assoc] using this
theorem xor_right_inj {a b c : Nat} (h : c ^^^ a = c ^^^ b) : a = b := by
  rw [Nat.xor_comm c a, Nat.xor_comm c b] at h; exact xor_left_inj h
theorem prime_back (z : Int) : z * 1099511628211 * 14886173955864302971 = z + 18446744073709551616 * (z * 887285111055) := by omega
theorem near_eq {x y : Nat} {k : Int} (hx : x < 18446744073709551616) (hy : y < 18446744073709551616) (hk : (x : Int) - y = 18446744073709551616 * k) : x = y := by omega
theorem prime_inj {x y : Nat} (hx : x < 18446744073709551616) (hy : y < 18446744073709551616) (h : (x : Int) * 1099511628211 % 18446744073709551616 = (y : Int) * 1099511628211 % 18446744073709551616) : x = y := by
  have h1 : (18446744073709551616 : Int) ∣ (x : Int) * 1099511628211 - (y : Int) * 1099511628211 := Int.dvd_of_emod_eq_zero (Int.emod_eq_emod_iff_emod_sub_eq_zero.1 h)
  have h2 : (18446744073709551616 : Int) ∣ ((x : Int) * 1099511628211 - (y : Int) * 1099511628211) * 14886173955864302971 := Int.dvd_mul_of_dvd_left h1
  rw [← Int.sub_mul, prime_back] at h2
  obtain ⟨k, hk⟩ := (Int.dvd_add_left (Int.dvd_mul_right _ _)).1 h2
  exact near_eq hx hy hk
theorem xor_lt (a b : Nat) (ha : a < 18446744073709551616) (hb : b < 18446744073709551616) : a ^^^ b < 18446744073709551616 := Nat.xor_lt_two_pow (n := 64) ha hb
theorem stepB_nat (a b : Nat) (ha : a < 18446744073709551616) (hb : b < 18446744073709551616) : stepB a b = ((a ^^^ b : Nat) : Int) * 1099511628211 % 18446744073709551616 := by
  rw [stepB, u64_xor_nat a b ha hb, IntKind.wrap_u64]
theorem stepB_inj {d d' b : Int} (h1 : 0 ≤ d ∧ d ≤ 18446744073709551615) (h2 : 0 ≤ d' ∧ d' ≤ 18446744073709551615) (hb : 0 ≤ b ∧ b ≤ 255) (h : stepB d b = stepB d' b) : d = d' := by
  obtain ⟨d, rfl⟩ := Int.eq_ofNat_of_zero_le h1.1
  obtain ⟨d', rfl⟩ := Int.eq_ofNat_of_zero_le h2.1
  obtain ⟨b, rfl⟩ := Int.eq_ofNat_of_zero_le hb.1
  rw [stepB_nat d b (by omega) (by omega), stepB_nat d' b (by omega) (by omega)] at h
  exact congrArg _ (xor_left_inj (prime_inj (xor_lt _ _ (by omega) (by omega)) (xor_lt _ _ (by omega) (by omega)) h))
theorem stepB_inj_byte {d b b' : Int} (h1 : 0 ≤ d ∧ d ≤ 18446744073709551615) (hb : 0 ≤ b ∧ b ≤ 255) (hb' : 0 ≤ b' ∧ b' ≤ 255) (h : stepB d b = stepB d b') : b = b' := by
  obtain ⟨d, rfl⟩ := Int.eq_ofNat_of_zero_le h1.1
  obtain ⟨b', rfl⟩ := Int.eq_ofNat_of_zero_le hb'.1
  obtain ⟨b, rfl⟩ := Int.eq_ofNat_of_zero_le hb.1
  rw [stepB_nat d b (by omega) (by omega), stepB_nat d b' (by omega) (by omega)] at h
  exact congrArg _ (xor_right_inj (prime_inj (xor_lt _ _ (by omega) (by omega)) (xor_lt _ _ (by omega) (by omega)) h))
/-- the same bytes behind different states make different states -/
theorem sumB_inj {l : List Int} (hl : ∀ x ∈ l, 0 ≤ x ∧ x ≤ 255) : ∀ {d d' : Int}, 0 ≤ d ∧ d ≤ 18446744073709551615 → 0 ≤ d' ∧ d' ≤ 18446744073709551615 → sumB d l = sumB d' l → d = d' := by
  induction l with
  | nil => intro d d' _ _ h; exact h
  | cons x r ih =>
    intro d d' h1 h2 h
    exact stepB_inj h1 h2 (hl x (by simp)) (ih (fun y hy => hl y (by simp [hy])) (stepB_in _ _) (stepB_in _ _) h)
theorem wordsB_append (a b : List Int) : wordsB (a ++ b) = wordsB a ++ wordsB b := by simp [wordsB]
theorem wordsB_bytes (l : List Int) : ∀ x ∈ wordsB l, 0 ≤ x ∧ x ≤ 255 := fun x hx => by
  simp only [wordsB, List.mem_flatMap, List.mem_append] at hx
  obtain ⟨n, _, h | h⟩ := hx
  · have := decB_mem n x h; omega
  · have : x = 32 := by simpa using h
    omega
/-- what the digits of a number begin with: all but the last one -/
def preD (q : Nat) : List Int := if q = 0 then [] else (Lib.decDigits q).map fun b => (b.toNat : Int)
theorem dec_last (q r : Nat) (hr : r ≤ 9) : decB ((10 * q + r : Nat) : Int) = preD q ++ [48 + (r : Int)] := by
  have e : (((UInt8.ofNat (48 + r)).toNat : Nat) : Int) = 48 + (r : Int) := by
    have : (UInt8.ofNat (48 + r)).toNat = 48 + r := by simp; omega
    rw [this]; omega
  rw [decB, Lib.itoa, if_neg (by omega), Int.toNat_natCast, Lib.decDigits, preD]
  by_cases h : q = 0
  · subst h
    rw [dif_pos (by omega), if_pos rfl, Nat.mul_zero, Nat.zero_add]
    simp only [List.map_cons, List.map_nil, List.nil_append, e]
  · have h1 : (10 * q + r) / 10 = q := by omega
    have h2 : (10 * q + r) % 10 = r := by omega
    rw [dif_neg (by omega), if_neg h, h1, h2, List.map_append]
    simp only [List.map_cons, List.map_nil, e]
/-- the number with another last digit -/
def turnI (n b : Int) : Int := n - n % 10 + (n % 10 + 1 + b % 9) % 10
theorem turn_parts {n b : Int} (hn : 0 ≤ n) (hb : 0 ≤ b) : ∃ q r r' : Nat, r ≤ 9 ∧ r' ≤ 9 ∧ r ≠ r' ∧ n = ((10 * q + r : Nat) : Int) ∧ turnI n b = ((10 * q + r' : Nat) : Int) := by
  refine ⟨(n / 10).toNat, (n % 10).toNat, ((n % 10 + 1 + b % 9) % 10).toNat, by omega, by omega, by omega, by omega, ?_⟩
  unfold turnI; omega
theorem sum_mid {D a b : Int} {X Y : List Int} (hD : 0 ≤ D ∧ D ≤ 18446744073709551615) (ha : 0 ≤ a ∧ a ≤ 255) (hb : 0 ≤ b ∧ b ≤ 255) (hY : ∀ x ∈ Y, 0 ≤ x ∧ x ≤ 255) (h : a ≠ b) : sumB D (X ++ a :: Y) ≠ sumB D (X ++ b :: Y) := fun he => by
  rw [sumB_append, sumB_append] at he
  have h2 : stepB (sumB D X) a = stepB (sumB D X) b := sumB_inj hY (stepB_in _ _) (stepB_in _ _) he
  exact h (stepB_inj_byte (sumB_in D hD X) ha hb h2)
theorem next_turn (d : Int) (l : List Int) (k : Nat) (b : Int) (hk : k < l.length) (hn : 0 ≤ l.getD k 0) (hb : 0 ≤ b) : nextB d l ≠ nextB d (l.set k (turnI (l.getD k 0) b)) := by
  obtain ⟨q, r, r', hr, hr', hne, e1, e2⟩ := turn_parts hn hb
  have hl : l = l.take k ++ l.getD k 0 :: l.drop (k + 1) := by
    have : l.getD k 0 = l[k] := by simp [List.getD_eq_getElem?_getD, hk]
    rw [this, List.getElem_cons_drop, List.take_append_drop]
  have hs : l.set k (turnI (l.getD k 0) b) = l.take k ++ turnI (l.getD k 0) b :: l.drop (k + 1) := List.set_eq_take_append_cons_drop.trans (by rw [if_pos hk])
  have w1 : wordsB l = wordsB (l.take k) ++ (preD q ++ [48 + (r : Int)] ++ [32]) ++ wordsB (l.drop (k + 1)) := by
    conv => lhs; rw [hl]
    rw [wordsB_append, show (l.getD k 0 :: l.drop (k + 1)) = [l.getD k 0] ++ l.drop (k + 1) from rfl, wordsB_append, e1, ← dec_last q r hr]
    simp [wordsB]
  have w2 : wordsB (l.set k (turnI (l.getD k 0) b)) = wordsB (l.take k) ++ (preD q ++ [48 + (r' : Int)] ++ [32]) ++ wordsB (l.drop (k + 1)) := by
    rw [hs, wordsB_append, show (turnI (l.getD k 0) b :: l.drop (k + 1)) = [turnI (l.getD k 0) b] ++ l.drop (k + 1) from rfl, wordsB_append, e2, ← dec_last q r' hr']
    simp [wordsB]
  rw [nextB, nextB, textB, textB, w1, w2]
  have f : ∀ x : Int, hi8 d ++ (wordsB (l.take k) ++ (preD q ++ [x] ++ [32]) ++ wordsB (l.drop (k + 1))) = (hi8 d ++ wordsB (l.take k) ++ preD q) ++ x :: (32 :: wordsB (l.drop (k + 1))) := fun x => by simp
  rw [f, f]
  refine sum_mid (by omega) (by omega) (by omega) (fun x hx => ?_) (by omega)
  rcases List.mem_cons.1 hx with rfl | h
  · omega
  · exact wordsB_bytes _ x h
theorem chain_snoc (ll : List (List Int)) (l : List Int) : chainB (ll ++ [l]) = nextB (chainB ll) ((l.length : Int) :: l) := by
  simp only [chainB, List.foldl_append, List.foldl_cons, List.foldl_nil]
theorem chain_turn (ll : List (List Int)) (l : List Int) (k : Nat) (b : Int) (hk : k < l.length) (hn : 0 ≤ l.getD k 0) (hb : 0 ≤ b) : chainB (ll ++ [l]) ≠ chainB (ll ++ [l.set k (turnI (l.getD k 0) b)]) := by
  rw [chain_snoc, chain_snoc, List.length_set]
  have := next_turn (chainB ll) ((l.length : Int) :: l) (k + 1) b (by simpa using hk) (by simpa using hn) hb
  simpa using this
theorem OwnInts.block {w : World} {base : Nat} {E : TypeId} {k : IntKind} {A : Option Addr} {c : Nat} {l : List Int} (h : OwnInts w base E k A c l) (hl : 0 < l.length) : ∃ g, A = some ⟨g, 0, none⟩ ∧ base ≤ g ∧ g < w.heap.size ∧ ∀ j, w.frozen? ⟨g, j, none⟩ = false := by
  rcases h.2 with ⟨hv, hn⟩ | ⟨g, cap, cur, hv, hb, hh, _⟩
  · omega
  · injection hv with hA _ _
    exact ⟨g, hA, hb, lt_of_block hh, fun j => frozen_of_row w g j cur E hh⟩
theorem IntsAt.set_at {w : World} {b off : Nat} {k : IntKind} {l : List Int} (h : IntsAt w (some ⟨b, off, none⟩) k l) {p : Nat} (hp : p < l.length) (y : Int) : IntsAt (w.setCell ⟨b, off + p, none⟩ (.int k y)) (some ⟨b, off, none⟩) k (l.set p y) := fun i hi => by
  rw [List.length_set] at hi
  obtain ⟨b', off', e, hlt, hc⟩ := h i hi
  injection e with e
  injection e with e1 e2
  subst e1 e2
  refine ⟨b, off, rfl, by simpa using hlt, ?_⟩
  by_cases hip : i = p
  · subst hip
    rw [World.cell?_setCell_same _ _ _ hc]
    simp [List.getD_eq_getElem?_getD, hi]
  · rw [World.cell?_setCell_other _ _ _ _ (by simp only [ne_eq, Addr.mk.injEq, and_true, true_and]; exact fun h => hip (by omega)), hc]
    simp [List.getD_eq_getElem?_getD, List.getElem?_set, Ne.symm hip]
theorem putL_cfar {b g j : Nat} {u : Value} (hne : b ≠ g) : ∀ (vs : List Value) (w : World) (o : Nat), Cel w g j u → Cel (putL w b o vs) g j u
  | [], w, o, h => h
  | v :: r, w, o, h => putL_cfar hne r _ _ (h.far hne v)
theorem putL_far {b g : Nat} {us : Array Value} {w : World} (h : Blk w g us) (hne : b ≠ g) (o : Nat) (vs : List Value) : Blk (putL w b o vs) g us := fun i v hi => putL_cfar hne vs w o (h i v hi)
end Go.Proofs.YtmbmejclnagffaaDoor

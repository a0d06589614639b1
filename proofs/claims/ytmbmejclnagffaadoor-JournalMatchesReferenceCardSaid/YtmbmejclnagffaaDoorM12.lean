/- Contracts of package sign: within, power, Member, Exp, Public. -/
import Derived.Test.YtmbmejclnagffaaDoorM9
import Derived.Test.YtmbmejclnagffaaDoorM11
set_option linter.unusedSimpArgs false
set_option linter.unusedVariables false
set_option maxRecDepth 100000
namespace Go.Proofs.YtmbmejclnagffaaDoor
open Go.RowKit
def wthB (n lo : Int) : Bool := decide (lo ≤ n) && decide (n < 1073741789)
theorem wthB_iff {n lo : Int} : wthB n lo = true ↔ lo ≤ n ∧ n < 1073741789 := by simp [wthB]
theorem within_any (n lo : Int) (w : World) : Calls Tryd.prog 30 #[.int .i64 n, .int .i64 lo] w fun e w' => e = .returned (.bool (wthB n lo)) ∧ w = w' := by
  by_cases h1 : lo ≤ n
  · by_cases h2 : n < 1073741789
    · have e : wthB n lo = true := wthB_iff.2 ⟨h1, h2⟩
      rw [e]; clear e
      go_enter Tryd.func30, Tryd.ntmps30
      go_wp2_with fail
      go_ret
      exact ⟨rfl, rfl⟩
    · have e : wthB n lo = false := by simp [wthB, h2]
      have h2' : decide (n < 1073741789) = false := by simpa using h2
      rw [e]; clear e
      go_enter Tryd.func30, Tryd.ntmps30
      go_wp2_with fail
      go_ret
      exact ⟨rfl, rfl⟩
  · have e : wthB n lo = false := by simp [wthB, h1]
    have h1' : decide (lo ≤ n) = false := by simpa using h1
    rw [e]; clear e
    go_enter Tryd.func30, Tryd.ntmps30
    go_wp2_with fail
    go_ret
    exact ⟨rfl, rfl⟩
theorem cast_mulmod (n b : Nat) : (n : Int) * (b : Int) % 2147483579 = ((n * b % PP : Nat) : Int) := by
  rw [Int.natCast_emod, Int.natCast_mul]; rfl
theorem mul_lt31 {n b : Nat} (hn : n < PP) (hb : b < PP) : (n : Int) * (b : Int) ≤ 4611686018427387904 := by
  have h : n * b ≤ 2147483579 * 2147483579 := Nat.mul_le_mul (Nat.le_of_lt hn) (Nat.le_of_lt hb)
  have : ((n * b : Nat) : Int) ≤ 4611686018427387904 := by omega
  rwa [Int.natCast_mul] at this
theorem times_any (g n b : Nat) (w : World) (hn : n < PP) (hb : b < PP) (hg : w.heap[g]? = some (.cells #[.int .i64 n] 3)) :
    Calls Tryd.prog 56 #[.pointer (some ⟨g, 0, none⟩), .int .i64 b] w fun e w' => e = .returned (.tuple #[]) ∧ w.grownBy w' (some g) ∧ w'.heap[g]? = some (.cells #[.int .i64 (n * b % PP : Nat)] 3) := by
  have hc := cell_of_one hg
  have hf := free_of_one hg
  have h0 : 0 ≤ (n : Int) * (b : Int) := Int.mul_nonneg (by omega) (by omega)
  have h1 := mul_lt31 hn hb
  have e := cast_mulmod n b
  have h2 := fun v => grown_set (grown_refl w (some g)) 0 v
  have h3 : ∀ v, (w.setCell ⟨g, 0, none⟩ v).heap[g]? = some (.cells #[v] 3) := fun v => one_setCell hg
  have ⟨H_hg, H_e, H_h2, H_h3⟩ := hid4 hg e h2 h3; clear hg e h2 h3
  go_enter Tryd.func56, Tryd.ntmps56
  go_wp2_with fail
  go_end0
  refine ⟨rfl, ?_, ?_⟩
  · exact H_h2.out _
  · rw [← H_e.out]; exact H_h3.out _
set_option maxHeartbeats 2000000 in
theorem power_any (a x : Nat) (w : World) (ha : a < PP) (hx : x ≤ 4611686018427387904) :
    Calls Tryd.prog 31 #[.int .i64 a, .int .i64 x] w fun e w' => e = .returned (.int .i64 (pw a x PP : Nat)) ∧ Below w.heap.size w w' := by
  have hpp : 1 < PP := PP_gt
  have hst : 1 * a ^ x % PP = pw a x PP := by rw [Nat.one_mul]; rfl
  generalize hR : pw a x PP = R at *
  have ⟨H_hst, H_hR, H_ha, H_hpp⟩ := hid4 hst hR ha hpp; clear hst hR ha hpp
  go_enter Tryd.func31, Tryd.ntmps31
  go_wp2_with fail
  go_loopw [1] (fun x wr => ∃ (X A O : Nat), x = .int .i64 X ∧ X ≤ 4611686018427387904 ∧ A < PP ∧ O < PP ∧ O * A ^ X % PP = R ∧ wr.heap[w.heap.size]? = some (.cells #[.int .i64 A] 3) ∧ wr.heap[w.heap.size + 1]? = some (.cells #[.int .i64 O] 3) ∧ Below w.heap.size w wr) (fun x _ => (intOf x).toNat)
  case atStart =>
    refine ⟨x, a, 1, rfl, hx, H_ha.out, H_hpp.out, H_hst.out, ?_, ?_, ?_⟩
    · exact blk_alloc (newAt rfl) _
    · exact newAt (by simp)
    · exact ((Below.refl _ _).alloc (Nat.le_refl _) _).alloc (by simp) _
  case round =>
    obtain ⟨X, A, O, rfl, hX, hA, hO, hinv, hgA, hgO, hbw⟩ := hrel
    have hc1 := cell_of_one hgA
    have hc2 := cell_of_one hgO
    by_cases h0 : X = 0
    · have hR2 : O = R := by rw [h0, Nat.pow_zero, Nat.mul_one, Nat.mod_eq_of_lt hO] at hinv; exact hinv
      have t1 : ¬ (0 : Int) < (X : Int) := by omega
      have ⟨H_hinv, H_hgA, H_hgO, H_hbw, H_h0, H_hR2, H_hA, H_hO⟩ := hid8 hinv hgA hgO hbw h0 hR2 hA hO; clear hinv hgA hgO hbw h0 hR2 hA hO
      go_wp2_with fail
      go_ret
      exact ⟨ret_int (by rw [H_hR2.out]), H_hbw.out⟩
    · have t1 : (0 : Int) < (X : Int) := by omega
      have hrd := pow_round PP A X O
      rw [hinv] at hrd
      have hA2 : A * A % PP < PP := Nat.mod_lt _ (by decide)
      have hO2 : O * A % PP < PP := Nat.mod_lt _ (by decide)
      have q1 := fun W h => times_any (w.heap.size + 1) O A W hO hA h
      have q2 := fun W h => times_any w.heap.size A A W hA hA h
      by_cases hodd : X % 2 = 1
      · have t2 : ((X : Int) % 2 == 1) = true := by rw [beq_iff_eq]; omega
        rw [if_pos hodd] at hrd
        have ⟨H_hinv, H_hgA, H_hgO, H_hbw, H_h0, H_hrd, H_hA2, H_hO2⟩ := hid8 hinv hgA hgO hbw h0 hrd hA2 hO2; clear hinv hgA hgO hbw h0 hrd hA2 hO2; have ⟨H_q1, H_q2, H_hA, H_hO, H_hodd⟩ := hid5 q1 q2 hA hO hodd; clear q1 q2 hA hO hodd
        go_wp2_with fail
        refine (H_q1.out _ H_hgO.out).mono ?_
        rintro e w1 ⟨rfl, g1, h1⟩
        have k1 := blk_grown g1 H_hgA.out (by omega)
        have b1 : Below w.heap.size w w1 := H_hbw.out.trans (below_of_grown g1 H_hbw.out.size (by omega))
        have c1 := cell_of_one k1
        have ⟨H_g1, H_h1, H_k1, H_b1⟩ := hid4 g1 h1 k1 b1; clear g1 h1 k1 b1
        go_wp2_with fail
        refine (H_q2.out _ H_k1.out).mono ?_
        rintro e w2 ⟨rfl, g2, h2⟩
        have k2 := blk_grown g2 H_h1.out (by omega)
        have b2 : Below w.heap.size w w2 := H_b1.out.trans (below_of_grown g2 H_b1.out.size (by omega))
        have ⟨H_g2, H_h2, H_k2, H_b2⟩ := hid4 g2 h2 k2 b2; clear g2 h2 k2 b2
        go_wp2_with fail
        go_roundw
        case rel => exact ⟨X / 2, _, _, by go_num, by omega, H_hA2.out, H_hO2.out, H_hrd.out, H_h2.out, H_k2.out, H_b2.out⟩
        case measure => simp [intOf]; omega
      · have t2 : ((X : Int) % 2 == 1) = false := by rw [beq_eq_false_iff_ne]; omega
        rw [if_neg hodd] at hrd
        have ⟨H_hinv, H_hgA, H_hgO, H_hbw, H_h0, H_hrd, H_hA2, H_hO2⟩ := hid8 hinv hgA hgO hbw h0 hrd hA2 hO2; clear hinv hgA hgO hbw h0 hrd hA2 hO2; have ⟨H_q1, H_q2, H_hA, H_hO, H_hodd⟩ := hid5 q1 q2 hA hO hodd; clear q1 q2 hA hO hodd
        go_wp2_with fail
        refine (H_q2.out _ H_hgA.out).mono ?_
        rintro e w2 ⟨rfl, g2, h2⟩
        have k2 := blk_grown g2 H_hgO.out (by omega)
        have b2 : Below w.heap.size w w2 := H_hbw.out.trans (below_of_grown g2 H_hbw.out.size (by omega))
        have ⟨H_g2, H_h2, H_k2, H_b2⟩ := hid4 g2 h2 k2 b2; clear g2 h2 k2 b2
        go_wp2_with fail
        go_roundw
        case rel => exact ⟨X / 2, _, _, by go_num, by omega, H_hA2.out, H_hO.out, H_hrd.out, H_h2.out, H_k2.out, H_b2.out⟩
        case measure => simp [intOf]; omega
/-- an integer is an element of the group -/
def memZ (a : Int) : Bool := decide (1 ≤ a) && decide (a < 2147483579) && (pw a.toNat QQ PP == 1)
theorem memZ_iff {a : Int} : memZ a = true ↔ 1 ≤ a ∧ a < 2147483579 ∧ pw a.toNat QQ PP = 1 := by simp [memZ, and_assoc]
theorem memZ_pw {s : Nat} : memZ ((pw 4 s PP : Nat) : Int) = true := by
  obtain ⟨h1, h2, h3⟩ := memB_iff.1 (mem_pw four_q s)
  have hp : PP = 2147483579 := rfl
  exact memZ_iff.2 ⟨by omega, by omega, by rw [Int.toNat_natCast]; exact h3⟩
theorem member_any (a : Int) (w : World) : Calls Tryd.prog 34 #[.int .i64 a] w fun e w' => e = .returned (.bool (memZ a)) ∧ Below w.heap.size w w' := by
  by_cases h1 : 1 ≤ a
  · by_cases h2 : a < 2147483579
    · obtain ⟨n, rfl⟩ := Int.eq_ofNat_of_zero_le (show 0 ≤ a by omega)
      have q := power_any n 1073741789 w (by unfold PP; omega) (by omega)
      have e : memZ (n : Int) = ((pw n QQ PP : Nat) == 1) := by simp [memZ, h1, h2]
      have e2 : (((pw n QQ PP : Nat) : Int) == 1) = ((pw n QQ PP : Nat) == 1) := by rw [Bool.eq_iff_iff, beq_iff_eq, beq_iff_eq]; omega
      rw [e]
      change Calls _ _ #[.int .i64 n, .int .i64 ((1073741789 : Nat) : Int)] w (fun e w' => e = .returned (.int .i64 (pw n QQ PP : Nat)) ∧ _) at q
      generalize ((pw n QQ PP : Nat) == 1) = Z at *
      generalize ((pw n QQ PP : Nat) : Int) = Y at *
      have ⟨H_q, H_e⟩ := hid2 q e; clear q e
      go_enter Tryd.func34, Tryd.ntmps34
      go_wp2_with fail
      refine H_q.out.mono ?_
      rintro e w1 ⟨rfl, b1⟩
      have H_b1 := Lib.hid b1; clear b1
      go_wp2_with fail
      go_ret
      exact ⟨rfl, H_b1.out⟩
    · have e : memZ a = false := by simp [memZ, h2]
      have h2' : decide (a < 2147483579) = false := by simpa using h2
      rw [e]; clear e
      go_enter Tryd.func34, Tryd.ntmps34
      go_wp2_with fail
      go_ret
      exact ⟨rfl, Below.refl _ _⟩
  · have e : memZ a = false := by simp [memZ, h1]
    have h1' : decide (1 ≤ a) = false := by simpa using h1
    rw [e]; clear e
    go_enter Tryd.func34, Tryd.ntmps34
    go_wp2_with fail
    go_ret
    exact ⟨rfl, Below.refl _ _⟩
end Go.Proofs.YtmbmejclnagffaaDoor

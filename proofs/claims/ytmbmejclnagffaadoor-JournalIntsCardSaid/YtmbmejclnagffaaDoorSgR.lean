/- Contracts of the reference of sign. -/
import Derived.Test.YtmbmejclnagffaaDoorSgHp
namespace Go.Proofs.YtmbmejclnagffaaDoor
set_option linter.unusedSimpArgs false
set_option linter.unusedVariables false
set_option maxRecDepth 100000
open Go.RowKit

theorem cast_mod (n b m : Nat) : (n : Int) * (b : Int) % (m : Int) = ((n * b % m : Nat) : Int) := by rw [Int.natCast_emod, Int.natCast_mul]
theorem mul_le62 {n b m : Nat} (hm : m ≤ 2147483648) (hn : n < m) (hb : b < m) : 0 ≤ (n : Int) * (b : Int) ∧ (n : Int) * (b : Int) ≤ 4611686018427387904 := by
  have h : n * b ≤ 2147483648 * 2147483648 := Nat.mul_le_mul (by omega) (by omega)
  have : ((n * b : Nat) : Int) ≤ 4611686018427387904 := by omega
  rw [Int.natCast_mul] at this
  exact ⟨Int.mul_nonneg (by omega) (by omega), this⟩

set_option maxHeartbeats 2000000 in
theorem rpower_any (a x m : Nat) (w : World) (hm1 : 1 < m) (hm : m ≤ 2147483648) (ha : a < m) (hx : x ≤ 4611686018427387904) :
    Calls Tryd.prog 66 #[.int .i64 a, .int .i64 x, .int .i64 m] w fun e w' => e = .returned (.int .i64 (pw a x m : Nat)) ∧ w = w' := by
  have hst : 1 * a ^ x % m = pw a x m := by rw [Nat.one_mul]; rfl
  generalize hR : pw a x m = R at *
  have hmi : (0 : Int) < (m : Int) := by omega
  have hmz : ((m : Int) == 0) = false := by rw [beq_eq_false_iff_ne]; omega
  have H_hst := Lib.hid hst; clear hst; have H_hR := Lib.hid hR; clear hR; have H_ha := Lib.hid ha; clear ha
  go_enter Tryd.func66, Tryd.ntmps66
  go_wp2_with fail
  go_loop [0, 1, 7] (fun a x o => ∃ (X A O : Nat), a = .int .i64 A ∧ x = .int .i64 X ∧ o = .int .i64 O ∧ X ≤ 4611686018427387904 ∧ A < m ∧ O < m ∧ O * A ^ X % m = R) (fun _ x _ => (intOf x).toNat)
  case atStart => exact ⟨x, a, 1, rfl, rfl, rfl, hx, H_ha.out, hm1, H_hst.out⟩
  case round =>
    obtain ⟨X, A, O, rfl, rfl, rfl, hX, hA, hO, hinv⟩ := hrel
    by_cases h0 : X = 0
    · have hR2 : O = R := by rw [h0, Nat.pow_zero, Nat.mul_one, Nat.mod_eq_of_lt hO] at hinv; exact hinv
      have t1 : ¬ (0 : Int) < (X : Int) := by omega
      have H_hinv := Lib.hid hinv; clear hinv; have H_h0 := Lib.hid h0; clear h0; have H_hR2 := Lib.hid hR2; clear hR2; have H_hA := Lib.hid hA; clear hA; have H_hO := Lib.hid hO; clear hO
      go_wp2_with fail
      go_ret
      exact ⟨ret_int (by rw [H_hR2.out]), rfl⟩
    · have t1 : (0 : Int) < (X : Int) := by omega
      have hrd := pow_round m A X O
      rw [hinv] at hrd
      have hA2 : A * A % m < m := Nat.mod_lt _ (by omega)
      have hO2 : O * A % m < m := Nat.mod_lt _ (by omega)
      have m1 := mul_le62 hm hA hA
      have m2 := mul_le62 hm hO hA
      have m3 := m1.1; have m4 := m1.2; have m5 := m2.1; have m6 := m2.2
      have e1 := cast_mod A A m
      have e2 := cast_mod O A m
      by_cases hodd : X % 2 = 1
      · have t2 : ((X : Int) % 2 == 1) = true := by rw [beq_iff_eq]; omega
        rw [if_pos hodd] at hrd
        have H_hinv := Lib.hid hinv; clear hinv; have H_h0 := Lib.hid h0; clear h0; have H_hrd := Lib.hid hrd; clear hrd; have H_hA2 := Lib.hid hA2; clear hA2; have H_hO2 := Lib.hid hO2; clear hO2; have H_hA := Lib.hid hA; clear hA; have H_hO := Lib.hid hO; clear hO; have H_hodd := Lib.hid hodd; clear hodd; have H_m1 := Lib.hid m1; clear m1; have H_m2 := Lib.hid m2; clear m2
        go_wp2_with fail
        go_round
        case rel => exact ⟨X / 2, A * A % m, O * A % m, rfl, by go_num, rfl, by omega, H_hA2.out, H_hO2.out, H_hrd.out⟩
        case measure => simp [intOf]; omega
      · have t2 : ((X : Int) % 2 == 1) = false := by rw [beq_eq_false_iff_ne]; omega
        rw [if_neg hodd] at hrd
        have H_hinv := Lib.hid hinv; clear hinv; have H_h0 := Lib.hid h0; clear h0; have H_hrd := Lib.hid hrd; clear hrd; have H_hA2 := Lib.hid hA2; clear hA2; have H_hO2 := Lib.hid hO2; clear hO2; have H_hA := Lib.hid hA; clear hA; have H_hO := Lib.hid hO; clear hO; have H_hodd := Lib.hid hodd; clear hodd; have H_m1 := Lib.hid m1; clear m1; have H_m2 := Lib.hid m2; clear m2
        go_wp2_with fail
        go_round
        case rel => exact ⟨X / 2, A * A % m, O, rfl, by go_num, rfl, by omega, H_hA2.out, H_hO.out, H_hrd.out⟩
        case measure => simp [intOf]; omega

theorem rExponent_any (n : Int) (w : World) : Calls Tryd.prog 75 #[.int .i64 n] w fun e w' => e = .returned (.bool (wthB n 0)) ∧ w = w' := by
  by_cases h1 : 0 ≤ n
  · by_cases h2 : n < 1073741789
    · have e : wthB n 0 = true := wthB_iff.2 ⟨h1, h2⟩
      rw [e]; clear e
      go_enter Tryd.func75, Tryd.ntmps75
      go_wp2_with fail
      go_ret
      exact ⟨rfl, rfl⟩
    · have e : wthB n 0 = false := by simp [wthB, h2]
      have h2' : decide (n < 1073741789) = false := by simpa using h2
      rw [e]; clear e
      go_enter Tryd.func75, Tryd.ntmps75
      go_wp2_with fail
      go_ret
      exact ⟨rfl, rfl⟩
  · have e : wthB n 0 = false := by simp [wthB, h1]
    have h1' : decide (0 ≤ n) = false := by simpa using h1
    rw [e]; clear e
    go_enter Tryd.func75, Tryd.ntmps75
    go_wp2_with fail
    go_ret
    exact ⟨rfl, rfl⟩

theorem rSecret_any (n : Int) (w : World) : Calls Tryd.prog 29 #[.int .i64 n] w fun e w' => e = .returned (.bool (wthB n 1)) ∧ w = w' := by
  by_cases h1 : 1 ≤ n
  · by_cases h2 : n < 1073741789
    · have e : wthB n 1 = true := wthB_iff.2 ⟨h1, h2⟩
      rw [e]; clear e
      go_enter Tryd.func29, Tryd.ntmps29
      go_wp2_with fail
      go_ret
      exact ⟨rfl, rfl⟩
    · have e : wthB n 1 = false := by simp [wthB, h2]
      have h2' : decide (n < 1073741789) = false := by simpa using h2
      rw [e]; clear e
      go_enter Tryd.func29, Tryd.ntmps29
      go_wp2_with fail
      go_ret
      exact ⟨rfl, rfl⟩
  · have e : wthB n 1 = false := by simp [wthB, h1]
    have h1' : decide (1 ≤ n) = false := by simpa using h1
    rw [e]; clear e
    go_enter Tryd.func29, Tryd.ntmps29
    go_wp2_with fail
    go_ret
    exact ⟨rfl, rfl⟩

theorem rmember_any (a : Int) (w : World) : Calls Tryd.prog 49 #[.int .i64 a] w fun e w' => e = .returned (.bool (memZ a)) ∧ w = w' := by
  by_cases h1 : 1 ≤ a
  · by_cases h2 : a < 2147483579
    · obtain ⟨n, rfl⟩ := Int.eq_ofNat_of_zero_le (show 0 ≤ a by omega)
      have q := rpower_any n 1073741789 2147483579 w (by omega) (by omega) (by omega) (by omega)
      have e : memZ (n : Int) = ((pw n QQ PP : Nat) == 1) := by simp [memZ, h1, h2]
      have e2 : (((pw n QQ PP : Nat) : Int) == 1) = ((pw n QQ PP : Nat) == 1) := by rw [Bool.eq_iff_iff, beq_iff_eq, beq_iff_eq]; omega
      rw [e]
      change Calls _ _ #[.int .i64 n, .int .i64 ((1073741789 : Nat) : Int), .int .i64 ((2147483579 : Nat) : Int)] w (fun e w' => e = .returned (.int .i64 (pw n QQ PP : Nat)) ∧ _) at q
      generalize ((pw n QQ PP : Nat) == 1) = Z at *
      generalize ((pw n QQ PP : Nat) : Int) = Y at *
      have H_q := Lib.hid q; clear q; have H_e := Lib.hid e; clear e
      go_enter Tryd.func49, Tryd.ntmps49
      go_wp2_with fail
      refine H_q.out.mono ?_
      rintro e w_ ⟨rfl, rfl⟩
      go_wp2_with fail
      go_ret
      exact ⟨rfl, rfl⟩
    · have e : memZ a = false := by simp [memZ, h2]
      have h2' : decide (a < 2147483579) = false := by simpa using h2
      rw [e]; clear e
      go_enter Tryd.func49, Tryd.ntmps49
      go_wp2_with fail
      go_ret
      exact ⟨rfl, rfl⟩
  · have e : memZ a = false := by simp [memZ, h1]
    have h1' : decide (1 ≤ a) = false := by simpa using h1
    rw [e]; clear e
    go_enter Tryd.func49, Tryd.ntmps49
    go_wp2_with fail
    go_ret
    exact ⟨rfl, rfl⟩
theorem rpowP (a x : Nat) (w : World) (ha : a < PP) (hx : x ≤ 4611686018427387904) :
    Calls Tryd.prog 66 #[.int .i64 a, .int .i64 x, .int .i64 2147483579] w fun e w' => e = .returned (.int .i64 (pw a x PP : Nat)) ∧ w = w' := rpower_any a x 2147483579 w (by omega) (by omega) ha hx
theorem rchal_any (A : Option Addr) (c n : Nat) (l : List Int) (hln : l.length = n) (w : World) (hl : IntsAt w A .i64 l) (hn : n ≤ 100000) (hf : Fit l) :
    Calls Tryd.prog 64 #[.slice A n c] w fun e w' => e = .returned (.int .i64 (chN l : Nat)) ∧ Below w.heap.size w w' := by
  have q1 := refSum_val none 0 0 [] rfl _ sum_nil w IntsAt.nil (by omega) (by simp)
  have e1 := chN_eq l
  have e2 := nextB_in 14695981039346656037 l
  have q2 := refNext_val 14695981039346656037 A c n l hln _ rfl w (by omega) hl (by omega) hf
  generalize nextB 14695981039346656037 l = N at *
  generalize chN l = C at *
  have e3 := e2.1; have e4 := e2.2
  have bb0 := Below.refl w.heap.size w
  have H_q1 := Lib.hid q1; clear q1; have H_q2 := Lib.hid q2; clear q2; have H_e1 := Lib.hid e1; clear e1; have H_e2 := Lib.hid e2; clear e2; have H_bb0 := Lib.hid bb0; clear bb0; have H_hl := Lib.hid hl; clear hl; have H_hf := Lib.hid hf; clear hf; have H_hln := Lib.hid hln; clear hln
  go_enter Tryd.func64, Tryd.ntmps64
  go_wp2_with fail
  refine H_q1.out.mono ?_
  rintro e w_ ⟨rfl, rfl⟩
  go_wp2_with fail
  refine H_q2.out.mono ?_
  rintro e w1 ⟨rfl, b1⟩
  have s1 := b1.size
  (try simp only [World.size_alloc, World.heap_drewN, World.size_setCell, heap_drew] at s1)
  have bb1 := H_bb0.out.trans (b1.mono (by first | omega | (simp; omega)))
  have H_b1 := Lib.hid b1; clear b1; have H_bb1 := Lib.hid bb1; clear bb1
  go_wp2_with fail
  go_ret
  exact ⟨ret_int (by rw [← H_e1.out]), H_bb1.out⟩

/-- what a call that makes a list of integers leaves -/
def NewInts (l : List Int) (n : Nat) (w : World) (e : Ending) (w' : World) : Prop := ∃ B d, e = .returned (.slice B n d) ∧ IntsAt w' B .i64 l ∧ Below w.heap.size w w'
set_option maxHeartbeats 1000000 in
theorem rafter_any (a b : Int) (A : Option Addr) (c n : Nat) (l : List Int) (hln : l.length = n) (w : World) (hl : IntsAt w A .i64 l) (hn : n ≤ 100000) :
    Calls Tryd.prog 65 #[.int .i64 a, .int .i64 b, .slice A n c] w (NewInts (a :: b :: l) (2 + n) w) := by
  obtain ⟨i0, hi, hz0, hz1, hz2⟩ := info_parts infoI64
  have o0 := own_lit (w := w) (k := .i64) (E := 3) [a, b] (Nat.le_refl _) (by simp) _ rfl
  have b0 : Below w.heap.size w (w.alloc (.cells #[.int .i64 a, .int .i64 b] 3)) := (Below.refl _ _).alloc (Nat.le_refl _) _
  have H_hl := Lib.hid hl; clear hl; have H_hln := Lib.hid hln; clear hln; have H_o0 := Lib.hid o0; clear o0; have H_b0 := Lib.hid b0; clear b0
  go_enter Tryd.func65, Tryd.ntmps65
  go_wp2_with fail
  go_loopw [7, 8] (fun v i wr => ∃ (k : Nat) (B : Option Addr) (d : Nat), k ≤ n ∧ i = .int .i64 k ∧ v = .slice B (2 + k) d ∧ OwnInts wr w.heap.size 3 .i64 B d (a :: b :: l.take k) ∧ Below w.heap.size w wr) (fun _ i _ => n - (intOf i).toNat)
  case atStart => exact ⟨0, _, _, by omega, rfl, rfl, H_o0.out, H_b0.out⟩
  case round =>
    obtain ⟨k, B, d, hk, rfl, rfl, ho, hbw⟩ := hrel
    have hsz := hbw.size
    by_cases hlt : k < n
    · obtain ⟨g, off, hA, hbs, hc⟩ := (H_hl.out.below hbw) k (by rw [H_hln.out]; exact hlt)
      have hsn := take_snocD l k 0 (by rw [H_hln.out]; exact hlt)
      have hll : (a :: b :: l.take k).length = 2 + k := by simp [H_hln.out]; omega
      generalize l.getD k 0 = x at *
      have i1 : (0 : Int) ≤ (k : Int) := by omega
      have i2 : (k : Int) < (n : Int) := by omega
      subst hA
      have H_ho := Lib.hid ho; clear ho; have H_hbw := Lib.hid hbw; clear hbw; have H_hsn := Lib.hid hsn; clear hsn; have H_hll := Lib.hid hll; clear hll
      go_wp2_with (at_builtin; refine wp_app_at _ rfl (.tmp 18) (.tmp 23) _ rfl w.heap.size 3 i0 _ 8 Tryd.underlying45 hi hz0 hz1 hz2 rfl .i64 B d (2 + k) (a :: b :: l.take k) H_hll.out rfl (H_ho.out.alloc _) (some ⟨wr.heap.size, 0, none⟩) 1 1 [x] rfl rfl (ints_new1 _ _ _ _ _ rfl) ?_ ?_ ?_ ?_)
      · omega
      · omega
      · simp; omega
      intro B2 d2 w2 ho2 hg2 hB2
      have hb2 := (H_ho.out.alloc (.cells #[.int .i64 x] 3)).grow (H_hbw.out.alloc hsz _) hg2
      have H_ho2 := Lib.hid ho2; clear ho2; have H_hg2 := Lib.hid hg2; clear hg2; have H_hB2 := Lib.hid hB2; clear hB2; have H_hb2 := Lib.hid hb2; clear hb2
      go_wp2_with fail
      go_roundw
      case rel => exact ⟨k + 1, B2, d2, by omega, by go_num, by congr 1, by rw [H_hsn.out]; exact H_ho2.out, H_hb2.out⟩
      case measure => simp [intOf]; omega
    · have hall : l.take k = l := List.take_of_length_le (by rw [H_hln.out]; omega)
      rw [hall] at ho
      have i2 : ¬ (k : Int) < (n : Int) := by omega
      have hkn : k = n := by omega
      have hoi := ho.ints
      have H_ho := Lib.hid ho; clear ho; have H_hbw := Lib.hid hbw; clear hbw; have H_hall := Lib.hid hall; clear hall; have H_hkn := Lib.hid hkn; clear hkn; have H_hoi := Lib.hid hoi; clear hoi
      go_wp2_with fail
      go_ret
      exact ⟨B, d, ret_slice (by rw [H_hkn.out]), H_hoi.out, H_hbw.out⟩
end Go.Proofs.YtmbmejclnagffaaDoor

/- Contracts of the reference of locks: fields, Valid, Same of one lock, Few. -/
import Derived.BigGuardPart
import Derived.Test.YtoehobaigfmnpaaGreatDoorMq7
import Derived.Test.YtoehobaigfmnpaaGreatDoorMq9
import Derived.Test.YtoehobaigfmnpaaGreatDoorMq17
import Derived.Test.YtoehobaigfmnpaaGreatDoorMq20
set_option linter.unusedSimpArgs false
set_option linter.unusedVariables false
set_option maxRecDepth 100000
namespace Go.Proofs.YtoehobaigfmnpaaGreatDoor
open Go.RowKit
theorem cast_mod (n b m : Nat) : (n : Int) * (b : Int) % (m : Int) = ((n * b % m : Nat) : Int) := by rw [Int.natCast_emod, Int.natCast_mul]
theorem mul_le62 {n b m : Nat} (hm : m ≤ 2147483648) (hn : n < m) (hb : b < m) : 0 ≤ (n : Int) * (b : Int) ∧ (n : Int) * (b : Int) ≤ 4611686018427387904 := by
 have h : n * b ≤ 2147483648 * 2147483648 := Nat.mul_le_mul (by omega) (by omega)
 have : ((n * b : Nat) : Int) ≤ 4611686018427387904 := by omega
 rw [Int.natCast_mul] at this
 exact ⟨Int.mul_nonneg (by omega) (by omega), this⟩
set_option maxHeartbeats 2000000 in
theorem rpower_any (a x m : Nat) (w : World) (hm1 : 1 < m) (hm : m ≤ 2147483648) (ha : a < m) (hx : x ≤ 4611686018427387904) :
  Calls Tryz.prog 80 #[.int .i64 a, .int .i64 x, .int .i64 m] w fun e w' => e = .returned (.int .i64 (pw a x m : Nat)) ∧ w = w' := by
 have hst : 1 * a ^ x % m = pw a x m := by rw [Nat.one_mul]; rfl
 generalize hR : pw a x m = R at *
 have hmi : (0 : Int) < (m : Int) := by omega
 have hmz : ((m : Int) == 0) = false := by rw [beq_eq_false_iff_ne]; omega
 have ⟨H_hst, H_hR, H_ha⟩ := hid3 hst hR ha; clear hst hR ha
 go_enter Tryz.func80, Tryz.ntmps80
 go_wp2_with fail
 go_loop [0, 1, 7] (fun a x o => ∃ (X A O : Nat), a = .int .i64 A ∧ x = .int .i64 X ∧ o = .int .i64 O ∧ X ≤ 4611686018427387904 ∧ A < m ∧ O < m ∧ O * A ^ X % m = R) (fun _ x _ => (intOf x).toNat)
 case atStart => exact ⟨x, a, 1, rfl, rfl, rfl, hx, H_ha.out, hm1, H_hst.out⟩
 case round =>
  obtain ⟨X, A, O, rfl, rfl, rfl, hX, hA, hO, hinv⟩ := hrel
  by_cases h0 : X = 0
  ·have hR2 : O = R := by rw [h0, Nat.pow_zero, Nat.mul_one, Nat.mod_eq_of_lt hO] at hinv; exact hinv
   have t1 : ¬ (0 : Int) < (X : Int) := by omega
   have ⟨H_hinv, H_h0, H_hR2, H_hA, H_hO⟩ := hid5 hinv h0 hR2 hA hO; clear hinv h0 hR2 hA hO
   go_wp2_with fail
   go_ret
   exact ⟨ret_int (by rw [H_hR2.out]), rfl⟩
  ·have t1 : (0 : Int) < (X : Int) := by omega
   have hrd := pow_round m A X O
   rw [hinv] at hrd
   have hA2 : A * A % m < m := Nat.mod_lt _ (by omega)
   have hO2 : O * A % m < m := Nat.mod_lt _ (by omega)
   have m1 := mul_le62 hm hA hA
   have m2 := mul_le62 hm hO hA
   have m3 := m1.1; have m4 := m1.2; have m5 := m2.1; have m6 := m2.2
   have e1 := cast_mod A A m
   have e2 := cast_mod O A m
   by_cases hodd : X % 2 = 1
   ·have t2 : ((X : Int) % 2 == 1) = true := by rw [beq_iff_eq]; omega
    rw [if_pos hodd] at hrd
    have ⟨H_hinv, H_h0, H_hrd, H_hA2, H_hO2, H_hA, H_hO, H_hodd⟩ := hid8 hinv h0 hrd hA2 hO2 hA hO hodd; clear hinv h0 hrd hA2 hO2 hA hO hodd; have ⟨H_m1, H_m2⟩ := hid2 m1 m2; clear m1 m2
    go_wp2_with fail
    go_round
    case rel => exact ⟨X / 2, A * A % m, O * A % m, rfl, by go_num, rfl, by omega, H_hA2.out, H_hO2.out, H_hrd.out⟩
    case measure => simp [intOf]; omega
   ·have t2 : ((X : Int) % 2 == 1) = false := by rw [beq_eq_false_iff_ne]; omega
    rw [if_neg hodd] at hrd
    have ⟨H_hinv, H_h0, H_hrd, H_hA2, H_hO2, H_hA, H_hO, H_hodd⟩ := hid8 hinv h0 hrd hA2 hO2 hA hO hodd; clear hinv h0 hrd hA2 hO2 hA hO hodd; have ⟨H_m1, H_m2⟩ := hid2 m1 m2; clear m1 m2
    go_wp2_with fail
    go_round
    case rel => exact ⟨X / 2, A * A % m, O, rfl, by go_num, rfl, by omega, H_hA2.out, H_hO.out, H_hrd.out⟩
    case measure => simp [intOf]; omega
theorem rExponent_any (n : Int) (w : World) : Calls Tryz.prog 70 #[.int .i64 n] w fun e w' => e = .returned (.bool (wthB n 0)) ∧ w = w' := by
 by_cases h1 : 0 ≤ n
 ·by_cases h2 : n < 1073741789
  ·have e : wthB n 0 = true := wthB_iff.2 ⟨h1, h2⟩
   rw [e]; clear e
   go_enter Tryz.func70, Tryz.ntmps70
   go_wp2_with fail
   go_ret
   exact ⟨rfl, rfl⟩
  ·have e : wthB n 0 = false := by simp [wthB, h2]
   have h2' : decide (n < 1073741789) = false := by simpa using h2
   rw [e]; clear e
   go_enter Tryz.func70, Tryz.ntmps70
   go_wp2_with fail
   go_ret
   exact ⟨rfl, rfl⟩
 ·have e : wthB n 0 = false := by simp [wthB, h1]
  have h1' : decide (0 ≤ n) = false := by simpa using h1
  rw [e]; clear e
  go_enter Tryz.func70, Tryz.ntmps70
  go_wp2_with fail
  go_ret
  exact ⟨rfl, rfl⟩
theorem rmember_any (a : Int) (w : World) : Calls Tryz.prog 53 #[.int .i64 a] w fun e w' => e = .returned (.bool (memZ a)) ∧ w = w' := by
 by_cases h1 : 1 ≤ a
 ·by_cases h2 : a < 2147483579
  ·obtain ⟨n, rfl⟩ := Int.eq_ofNat_of_zero_le (show 0 ≤ a by omega)
   have q := rpower_any n 1073741789 2147483579 w (by omega) (by omega) (by omega) (by omega)
   have e : memZ (n : Int) = ((pw n QQ PP : Nat) == 1) := by simp [memZ, h1, h2]
   have e2 : (((pw n QQ PP : Nat) : Int) == 1) = ((pw n QQ PP : Nat) == 1) := by rw [Bool.eq_iff_iff, beq_iff_eq, beq_iff_eq]; omega
   rw [e]
   change Calls _ _ #[.int .i64 n, .int .i64 ((1073741789 : Nat) : Int), .int .i64 ((2147483579 : Nat) : Int)] w (fun e w' => e = .returned (.int .i64 (pw n QQ PP : Nat)) ∧ _) at q
   generalize ((pw n QQ PP : Nat) == 1) = Z at *
   generalize ((pw n QQ PP : Nat) : Int) = Y at *
   have ⟨H_q, H_e⟩ := hid2 q e; clear q e
   go_enter Tryz.func53, Tryz.ntmps53
   go_wp2_with fail
   refine H_q.out.mono ?_
   rintro e w_ ⟨rfl, rfl⟩
   go_wp2_with fail
   go_ret
   exact ⟨rfl, rfl⟩
  ·have e : memZ a = false := by simp [memZ, h2]
   have h2' : decide (a < 2147483579) = false := by simpa using h2
   rw [e]; clear e
   go_enter Tryz.func53, Tryz.ntmps53
   go_wp2_with fail
   go_ret
   exact ⟨rfl, rfl⟩
 ·have e : memZ a = false := by simp [memZ, h1]
  have h1' : decide (1 ≤ a) = false := by simpa using h1
  rw [e]; clear e
  go_enter Tryz.func53, Tryz.ntmps53
  go_wp2_with fail
  go_ret
  exact ⟨rfl, rfl⟩
theorem rpowP (a x : Nat) (w : World) (ha : a < PP) (hx : x ≤ 4611686018427387904) :
  Calls Tryz.prog 80 #[.int .i64 a, .int .i64 x, .int .i64 2147483579] w fun e w' => e = .returned (.int .i64 (pw a x PP : Nat)) ∧ w = w' := rpower_any a x 2147483579 w (by omega) (by omega) ha hx
theorem rchal_any (A : Option Addr) (c n : Nat) (l : List Int) (hln : l.length = n) (w : World) (hl : IntsAt w A .i64 l) (hn : n ≤ 100000) (hf : Fit l) :
  Calls Tryz.prog 89 #[.slice A n c] w fun e w' => e = .returned (.int .i64 (chN l : Nat)) ∧ Below w.heap.size w w' := by
 have q1 := refSum_val none 0 0 [] rfl _ sum_nil w IntsAt.nil (by omega) (by simp)
 have e1 := chN_eq l
 have e2 := nextB_in 14695981039346656037 l
 have q2 := refNext_val 14695981039346656037 A c n l hln _ rfl w (by omega) hl (by omega) hf
 generalize nextB 14695981039346656037 l = N at *
 generalize chN l = C at *
 have e3 := e2.1; have e4 := e2.2
 have bb0 := Below.refl w.heap.size w
 have ⟨H_q1, H_q2, H_e1, H_e2, H_bb0, H_hl, H_hf, H_hln⟩ := hid8 q1 q2 e1 e2 bb0 hl hf hln; clear q1 q2 e1 e2 bb0 hl hf hln
 go_enter Tryz.func89, Tryz.ntmps89
 go_wp2_with fail
 refine H_q1.out.mono ?_
 rintro e w_ ⟨rfl, rfl⟩
 go_wp2_with fail
 refine H_q2.out.mono ?_
 rintro e w1 ⟨rfl, b1⟩
 have s1 := b1.size
 (try simp only [World.size_alloc, World.heap_drewN, World.size_setCell, heap_drew] at s1)
 have bb1 := H_bb0.out.trans (b1.mono (by first | omega | (simp; omega)))
 have ⟨H_b1, H_bb1⟩ := hid2 b1 bb1; clear b1 bb1
 go_wp2_with fail
 go_ret
 exact ⟨ret_int (by rw [← H_e1.out]), H_bb1.out⟩
def NewInts (l : List Int) (n : Nat) (w : World) (e : Ending) (w' : World) : Prop := ∃ B d, e = .returned (.slice B n d) ∧ IntsAt w' B .i64 l ∧ Below w.heap.size w w'
set_option maxHeartbeats 1000000 in
theorem rafter_any (a b : Int) (A : Option Addr) (c n : Nat) (l : List Int) (hln : l.length = n) (w : World) (hl : IntsAt w A .i64 l) (hn : n ≤ 100000) :
  Calls Tryz.prog 90 #[.int .i64 a, .int .i64 b, .slice A n c] w (NewInts (a :: b :: l) (2 + n) w) := by
 obtain ⟨i0, hi, hz0, hz1, hz2⟩ := info_parts infoI64
 have o0 := own_lit (w := w) (k := .i64) (E := 3) [a, b] (Nat.le_refl _) (by simp) _ rfl
 have b0 : Below w.heap.size w (w.alloc (.cells #[.int .i64 a, .int .i64 b] 3)) := (Below.refl _ _).alloc (Nat.le_refl _) _
 have ⟨H_hl, H_hln, H_o0, H_b0⟩ := hid4 hl hln o0 b0; clear hl hln o0 b0
 go_enter Tryz.func90, Tryz.ntmps90
 go_wp2_with fail
 go_loopw [7, 8] (fun v i wr => ∃ (k : Nat) (B : Option Addr) (d : Nat), k ≤ n ∧ i = .int .i64 k ∧ v = .slice B (2 + k) d ∧ OwnInts wr w.heap.size 3 .i64 B d (a :: b :: l.take k) ∧ Below w.heap.size w wr) (fun _ i _ => n - (intOf i).toNat)
 case atStart => exact ⟨0, _, _, by omega, rfl, rfl, H_o0.out, H_b0.out⟩
 case round =>
  obtain ⟨k, B, d, hk, rfl, rfl, ho, hbw⟩ := hrel
  have hsz := hbw.size
  by_cases hlt : k < n
  ·obtain ⟨g, off, hA, hbs, hc⟩ := (H_hl.out.below hbw) k (by rw [H_hln.out]; exact hlt)
   have hsn := take_snocD l k 0 (by rw [H_hln.out]; exact hlt)
   have hll : (a :: b :: l.take k).length = 2 + k := by simp [H_hln.out]; omega
   generalize l.getD k 0 = x at *
   have i1 : (0 : Int) ≤ (k : Int) := by omega
   have i2 : (k : Int) < (n : Int) := by omega
   subst hA
   have ⟨H_ho, H_hbw, H_hsn, H_hll⟩ := hid4 ho hbw hsn hll; clear ho hbw hsn hll
   go_wp2_with (at_builtin; refine wp_app_at _ rfl (.tmp 18) (.tmp 23) _ rfl w.heap.size 3 i0 _ 8 Tryz.underlying22 hi hz0 hz1 hz2 rfl .i64 B d (2 + k) (a :: b :: l.take k) H_hll.out rfl (H_ho.out.alloc _) (some ⟨wr.heap.size, 0, none⟩) 1 1 [x] rfl rfl (ints_new1 _ _ _ _ _ rfl) ?_ ?_ ?_ ?_)
   ·omega
   ·omega
   ·simp; omega
   intro B2 d2 w2 ho2 hg2 hB2
   have hb2 := (H_ho.out.alloc (.cells #[.int .i64 x] 3)).grow (H_hbw.out.alloc hsz _) hg2
   have ⟨H_ho2, H_hg2, H_hB2, H_hb2⟩ := hid4 ho2 hg2 hB2 hb2; clear ho2 hg2 hB2 hb2
   go_wp2_with fail
   go_roundw
   case rel => exact ⟨k + 1, B2, d2, by omega, by go_num, by congr 1, by rw [H_hsn.out]; exact H_ho2.out, H_hb2.out⟩
   case measure => simp [intOf]; omega
  ·have hall : l.take k = l := List.take_of_length_le (by rw [H_hln.out]; omega)
   rw [hall] at ho
   have i2 : ¬ (k : Int) < (n : Int) := by omega
   have hkn : k = n := by omega
   have hoi := ho.ints
   have ⟨H_ho, H_hbw, H_hall, H_hkn, H_hoi⟩ := hid5 ho hbw hall hkn hoi; clear ho hbw hall hkn hoi
   go_wp2_with fail
   go_ret
   exact ⟨B, d, ret_slice (by rw [H_hkn.out]), H_hoi.out, H_hbw.out⟩
theorem rTime_any (n : Int) (w : World) : Calls Tryz.prog 36 #[.int .i64 n] w fun e w' => e = .returned (.bool (timeB n)) ∧ w = w' := by
 go_enter Tryz.func36, Tryz.ntmps36
 go_wp2_with fail
 all_goals
  go_ret
  exact ⟨ret_bool (by simp [timeB]; omega), rfl⟩
theorem rError_any (n : Int) (w : World) : Calls Tryz.prog 46 #[.int .i64 n] w fun e w' => e = .returned (.bool (errB n)) ∧ w = w' := by
 go_enter Tryz.func46, Tryz.ntmps46
 go_wp2_with fail
 all_goals
  go_ret
  exact ⟨ret_bool (by simp [errB]; omega), rfl⟩
theorem rPeriod_any (a b : Int) (w : World) : Calls Tryz.prog 47 #[.agg #[.int .i64 a, .int .i64 b]] w fun e w' => e = .returned (.bool (perB a b)) ∧ Below w.heap.size w w' := by
 go_enter Tryz.func47, Tryz.ntmps47
 go_wp2_with fail
 all_goals
  go_ret
  refine ⟨ret_bool ?_, belt⟩
  rw [Bool.eq_iff_iff]; simp [perB]; try omega
theorem rLeft_any (s r : Int) (w : World) (h1 : 0 ≤ s) (h2 : s < 1000000000) (h3 : 0 ≤ r) (h4 : r ≤ 10000) :
  Calls Tryz.prog 48 #[.int .i64 s, .int .i64 r] w fun e w' => e = .returned (.agg #[.int .i64 (loT s r), .int .i64 (hiT s r)]) ∧ Below w.heap.size w w' := by
 go_enter Tryz.func48, Tryz.ntmps48
 go_wp2_with fail
 all_goals
  refine bodyPost_ret (by simp [results, Tryz.results48, go_sem]; rfl) rfl ?_
  refine ⟨ret_agg2 ?_ ?_, belt⟩
  all_goals (simp only [loT, hiT]; try omega)
theorem and3F {a b c : Bool} (h : (a && b && c) = false) : a = false ∨ (a = true ∧ b = false) ∨ (a = true ∧ b = true ∧ c = false) := by cases a <;> cases b <;> simp_all
theorem rMaybe_any (s r a b : Int) (w : World) :
  Calls Tryz.prog 19 #[.int .i64 s, .int .i64 r, .agg #[.int .i64 a, .int .i64 b]] w fun e w' => e = .returned (.tuple #[.bool (mayB s r a b), .int .i64 (errN (askB s r a b))]) ∧ Below w.heap.size w w' := by
 cases hr : askB s r a b
 ·have hq := and3F hr
  have H_hr := Lib.hid hr; clear hr
  rcases hq with h | ⟨h, h'⟩ | ⟨h, h', h''⟩
  all_goals
   go_enter Tryz.func19, Tryz.ntmps19
   go_wp2_with (first | (go_at_call 36; refine (rTime_any _ _).mono ?_; rintro e w1 ⟨rfl, rfl⟩) | (go_at_call 46; refine (rError_any _ _).mono ?_; rintro e w1 ⟨rfl, rfl⟩) | (go_at_call 47; refine (rPeriod_any _ _ _).mono ?_; rintro e w1 ⟨rfl, hb1⟩; obtain ⟨hcw1, hfw1⟩ := bcell hb1; have hsw1 := hb1.size; (try simp only [World.size_alloc, World.heap_drewN, World.size_setCell, heap_drew] at hsw1); have hzw1x0 : w.heap.size < w1.heap.size := by omega))
   go_ret2
   exact ⟨ret_pair (by simp [mayB, H_hr.out]) rfl, belt⟩
 ·obtain ⟨⟨⟨h1, h2⟩, h3, h4⟩, h5, h6, h7⟩ := askB_iff.1 hr
  have ht : timeB s = true := by simp [timeB_iff, h1, h2]
  have he : errB r = true := by simp [errB_iff, h3, h4]
  have hp : perB a b = true := by simp [perB_iff, h5, h6, h7]
  have H_hr := Lib.hid hr; clear hr
  go_enter Tryz.func19, Tryz.ntmps19
  go_wp2_with (first | (go_at_call 36; refine (rTime_any _ _).mono ?_; rintro e w1 ⟨rfl, rfl⟩) | (go_at_call 46; refine (rError_any _ _).mono ?_; rintro e w1 ⟨rfl, rfl⟩) | (go_at_call 47; refine (rPeriod_any _ _ _).mono ?_; rintro e w1 ⟨rfl, hb1⟩; obtain ⟨hcw1, hfw1⟩ := bcell hb1; have hsw1 := hb1.size; (try simp only [World.size_alloc, World.heap_drewN, World.size_setCell, heap_drew] at hsw1); have hzw1x0 : w.heap.size < w1.heap.size := by omega))
  refine (rLeft_any s r _ h1 h2 h3 h4).mono ?_
  rintro e w2 ⟨rfl, hb2⟩
  obtain ⟨hcw2, hfw2⟩ := bcell hb2; have hsw2 := hb2.size; (try simp only [World.size_alloc, World.heap_drewN, World.size_setCell, heap_drew] at hsw2); have hzw2x0 : w.heap.size < w2.heap.size := by omega
  go_wp2_with fail
  all_goals
   go_ret2
   refine ⟨ret_pair ?_ rfl, belt⟩
   rw [mayB, H_hr.out, Bool.true_and, Bool.eq_iff_iff]; try (simp; try omega)
theorem belowPost {V : Value} {w : World} : ∀ e w', (e = Ending.returned V ∧ w = w') → (e = Ending.returned V ∧ Below w.heap.size w w') := by
 rintro e w' ⟨rfl, rfl⟩
 exact ⟨rfl, Below.refl _ _⟩
set_option maxHeartbeats 4000000 in
theorem rlfields_any (d k r : Int) (w0 : World) : Calls Tryz.prog 25 #[.int .i64 d, .int .i64 k, .int .i64 r] w0 fun e w' => e = .returned (.bool (fmB d k r)) ∧ Below w0.heap.size w0 w' := by
 have q1 := fun W => (rError_any r W).mono belowPost
 have q2 := fun W => (rmember_any k W).mono belowPost
 have fin : fmB d k r = (decide (1 ≤ d) && decide (d ≤ 400) && memZ k && errB r) := rfl
 generalize errB r = E at *
 generalize memZ k = M at *
 generalize fmB d k r = F at *
 have bb0 := Below.refl w0.heap.size w0
 by_cases h1 : 1 ≤ d
 rotate_left
 ·have d1 : decide (1 ≤ d) = false := decide_eq_false h1
  rw [d1] at fin
  simp only [Bool.false_and] at fin
  have ⟨H_bb0, H_q1, H_q2, H_fin⟩ := hid4 bb0 q1 q2 fin; clear bb0 q1 q2 fin
  go_enter Tryz.func25, Tryz.ntmps25
  go_wp2_with fail
  (with_reducible refine (H_q2.out _).mono ?_)
  rintro e w1 ⟨rfl, b1⟩
  have c1 : Below w0.heap.size w0 w1 := Below.trans belt (b1.mono omh)
  have s1 := c1.size
  have bb1 := H_bb0.out.trans (c1.mono H_bb0.out.size)
  have ⟨H_b1, H_c1, H_bb1⟩ := hid3 b1 c1 bb1; clear b1 c1 bb1
  go_wp2_with fail
  all_goals
   go_ret
   exact ⟨ret_bool H_fin.out.symm, H_bb1.out⟩
 have d1 : decide (1 ≤ d) = true := decide_eq_true h1
 by_cases h2 : d ≤ 400
 rotate_left
 ·have d2 : decide (d ≤ 400) = false := decide_eq_false h2
  rw [d1, d2] at fin
  simp only [Bool.false_and, Bool.true_and] at fin
  have ⟨H_bb0, H_q1, H_q2, H_fin⟩ := hid4 bb0 q1 q2 fin; clear bb0 q1 q2 fin
  go_enter Tryz.func25, Tryz.ntmps25
  go_wp2_with fail
  (with_reducible refine (H_q2.out _).mono ?_)
  rintro e w1 ⟨rfl, b1⟩
  have c1 : Below w0.heap.size w0 w1 := Below.trans belt (b1.mono omh)
  have s1 := c1.size
  have bb1 := H_bb0.out.trans (c1.mono H_bb0.out.size)
  have ⟨H_b1, H_c1, H_bb1⟩ := hid3 b1 c1 bb1; clear b1 c1 bb1
  go_wp2_with fail
  all_goals
   go_ret
   exact ⟨ret_bool H_fin.out.symm, H_bb1.out⟩
 have d2 : decide (d ≤ 400) = true := decide_eq_true h2
 rw [d1, d2] at fin
 simp only [Bool.true_and] at fin
 cases M with
 | false =>
  simp only [Bool.false_and] at fin
  have ⟨H_bb0, H_q1, H_q2, H_fin⟩ := hid4 bb0 q1 q2 fin; clear bb0 q1 q2 fin
  go_enter Tryz.func25, Tryz.ntmps25
  go_wp2_with fail
  (with_reducible refine (H_q2.out _).mono ?_)
  rintro e w1 ⟨rfl, b1⟩
  have c1 : Below w0.heap.size w0 w1 := Below.trans belt (b1.mono omh)
  have s1 := c1.size
  have bb1 := H_bb0.out.trans (c1.mono H_bb0.out.size)
  have ⟨H_b1, H_c1, H_bb1⟩ := hid3 b1 c1 bb1; clear b1 c1 bb1
  go_wp2_with fail
  all_goals
   go_ret
   exact ⟨ret_bool H_fin.out.symm, H_bb1.out⟩
 | true =>
  simp only [Bool.true_and] at fin
  have ⟨H_bb0, H_q1, H_q2, H_fin⟩ := hid4 bb0 q1 q2 fin; clear bb0 q1 q2 fin
  go_enter Tryz.func25, Tryz.ntmps25
  go_wp2_with fail
  (with_reducible refine (H_q2.out _).mono ?_)
  rintro e w1 ⟨rfl, b1⟩
  have c1 : Below w0.heap.size w0 w1 := Below.trans belt (b1.mono omh)
  have s1 := c1.size
  have bb1 := H_bb0.out.trans (c1.mono H_bb0.out.size)
  have ⟨H_b1, H_c1, H_bb1⟩ := hid3 b1 c1 bb1; clear b1 c1 bb1
  go_wp2_with fail
  (with_reducible refine (H_q1.out _).mono ?_)
  rintro e w2 ⟨rfl, b2⟩
  have c2 : Below w1.heap.size w1 w2 := Below.trans belt (b2.mono omh)
  have s2 := c2.size
  have bb2 := H_bb1.out.trans (c2.mono H_bb1.out.size)
  have ⟨H_b2, H_c2, H_bb2⟩ := hid3 b2 c2 bb2; clear b2 c2 bb2
  go_wp2_with fail
  all_goals
   go_ret
   exact ⟨ret_bool H_fin.out.symm, H_bb2.out⟩
set_option maxHeartbeats 4000000 in
theorem rlvalid_any (l : Lk) (A : Option Addr) (n p : Nat) (B : Option Addr) (m q : Nat) (w : World) (hx : SlotIs w A n l.x) (hy : SlotIs w B m l.y) :
  Calls Tryz.prog 11 #[.agg (l.cells A n p B m q).toArray] w fun e w' => e = .returned (.bool (lvB l)) ∧ Below w.heap.size w w' := by
 obtain ⟨w0, hw0⟩ : ∃ W, w.alloc (.cells (l.cells A n p B m q).toArray 28) = W := ⟨_, rfl⟩
 have bb0 : Below w.heap.size w w0 := by rw [← hw0]; exact (Below.refl _ _).alloc (Nat.le_refl _) _
 have k0 : Blk w0 w.heap.size (l.cells A n p B m q).toArray := by rw [← hw0]; exact blk_new rfl
 have q1 := rbest_any l.x l.y A n p B m q w0 (hx.below bb0) (hy.below bb0)
 have q2 := fun W => rlfields_any l.d l.k l.r W
 have fin : lvB l = (bestB l.x l.y && fmB l.d l.k l.r) := rfl
 generalize bestI l.x l.y = I at *
 generalize bestB l.x l.y = T at *
 generalize fmB l.d l.k l.r = F at *
 generalize lvB l = R at *
 unfold Lk.cells at k0 hw0 ⊢
 have ⟨H_bb0, H_k0, H_hw0, H_q1, H_q2, H_fin, H_hx, H_hy⟩ := hid8 bb0 k0 hw0 q1 q2 fin hx hy; clear bb0 k0 hw0 q1 q2 fin hx hy
 go_enter Tryz.func11, Tryz.ntmps11
 go_wp2_with fail
 rw [H_hw0.out]
 obtain ⟨y0, y1, y2, y3, y4, y5, y6, y7, y8, y9, y10, y11⟩ := at12_of H_k0.out
 go_wp2_with fail
 (with_reducible refine (H_q1.out).mono ?_)
 rintro e w1 ⟨rfl, b1⟩
 have c1 : Below w0.heap.size w0 w1 := Below.trans belt (b1.mono omh)
 have s1 := c1.size
 have bb1 := H_bb0.out.trans (c1.mono H_bb0.out.size)
 have k1 := H_k0.out.below c1
 have ⟨H_b1, H_c1, H_bb1, H_k1⟩ := hid4 b1 c1 bb1 k1; clear b1 c1 bb1 k1
 clear y0 y1 y2 y3 y4 y5 y6 y7 y8 y9 y10 y11
 cases T with
 | false =>
  go_wp2_with fail
  go_ret
  exact ⟨ret_bool (by rw [H_fin.out]; rfl), H_bb1.out⟩
 | true =>
  obtain ⟨y0, y1, y2, y3, y4, y5, y6, y7, y8, y9, y10, y11⟩ := at12_of H_k1.out
  go_wp2_with fail
  (with_reducible refine (H_q2.out _).mono ?_)
  rintro e w2 ⟨rfl, b2⟩
  have c2 : Below w1.heap.size w1 w2 := Below.trans belt (b2.mono omh)
  have s2 := c2.size
  have bb2 := H_bb1.out.trans (c2.mono H_bb1.out.size)
  have ⟨H_b2, H_c2, H_bb2⟩ := hid3 b2 c2 bb2; clear b2 c2 bb2
  go_wp2_with fail
  go_ret
  exact ⟨ret_bool (by rw [H_fin.out]; rfl), H_bb2.out⟩
set_option maxHeartbeats 4000000 in
theorem rlfew_any (l : Lk) (A : Option Addr) (n p : Nat) (B : Option Addr) (m q : Nat) (w : World) (hn : n ≤ 9223372036854775807) (hm : m ≤ 9223372036854775807) :
  Calls Tryz.prog 7 #[.agg (l.cells A n p B m q).toArray] w fun e w' => e = .returned (.bool (len40B n && len40B m)) ∧ Below w.heap.size w w' := by
 obtain ⟨w0, hw0⟩ : ∃ W, w.alloc (.cells (l.cells A n p B m q).toArray 28) = W := ⟨_, rfl⟩
 have bb0 : Below w.heap.size w w0 := by rw [← hw0]; exact (Below.refl _ _).alloc (Nat.le_refl _) _
 have k0 : Blk w0 w.heap.size (l.cells A n p B m q).toArray := by rw [← hw0]; exact blk_new rfl
 have q1 := rfew_any l.x.s l.x.c l.x.u l.y.s l.y.c l.y.u A n p B m q w0 hn hm
 generalize (len40B n && len40B m) = T at *
 unfold Lk.cells at k0 hw0 ⊢
 have ⟨H_bb0, H_k0, H_hw0, H_q1⟩ := hid4 bb0 k0 hw0 q1; clear bb0 k0 hw0 q1
 go_enter Tryz.func7, Tryz.ntmps7
 go_wp2_with fail
 rw [H_hw0.out]
 obtain ⟨y0, y1, y2, y3, y4, y5, y6, y7, y8, y9, y10, y11⟩ := at12_of H_k0.out
 go_wp2_with fail
 (with_reducible refine (H_q1.out).mono ?_)
 rintro e w1 ⟨rfl, b1⟩
 have c1 : Below w0.heap.size w0 w1 := Below.trans belt (b1.mono omh)
 have s1 := c1.size
 have bb1 := H_bb0.out.trans (c1.mono H_bb0.out.size)
 have ⟨H_b1, H_c1, H_bb1⟩ := hid3 b1 c1 bb1; clear b1 c1 bb1
 clear y0 y1 y2 y3 y4 y5 y6 y7 y8 y9 y10 y11
 go_wp2_with fail
 go_ret
 exact ⟨rfl, H_bb1.out⟩
set_option maxHeartbeats 4000000 in
theorem rlsame_self (l : Lk) (A : Option Addr) (n p : Nat) (B : Option Addr) (m q : Nat) (A' : Option Addr) (p' : Nat) (B' : Option Addr) (q' : Nat) (hx : l.x.l.length = n) (hy : l.y.l.length = m) (hn : n ≤ 100000) (hm : m ≤ 100000) (w : World) (h1 : IntsAt w A .i64 l.x.l) (h2 : IntsAt w B .i64 l.y.l) (h3 : IntsAt w A' .i64 l.x.l) (h4 : IntsAt w B' .i64 l.y.l) :
  Calls Tryz.prog 12 #[.agg (l.cells A n p B m q).toArray, .agg (l.cells A' n p' B' m q').toArray] w fun e w' => e = .returned (.bool true) ∧ Below w.heap.size w w' := by
 obtain ⟨w0, hw0⟩ : ∃ W, (w.alloc (.cells (l.cells A n p B m q).toArray 28)).alloc (.cells (l.cells A' n p' B' m q').toArray 28) = W := ⟨_, rfl⟩
 have bb0 : Below w.heap.size w w0 := by rw [← hw0]; exact ((Below.refl _ _).alloc (Nat.le_refl _) _).alloc (by simp) _
 have k0 : Blk w0 w.heap.size (l.cells A n p B m q).toArray := by rw [← hw0]; exact (blk_new rfl).alloc _
 have g0 : Blk w0 (w.heap.size + 1) (l.cells A' n p' B' m q').toArray := by rw [← hw0]; exact blk_new (by simp)
 have q1 := rsameBoth_any l.x l.y l.x l.y A n p hx B m q hy A' n p' hx B' m q' hy w0 hn hm hn hm (h1.below bb0) (h2.below bb0) (h3.below bb0) (h4.below bb0)
 rw [sameS_self, sameS_self] at q1
 unfold Lk.cells at k0 g0 hw0 ⊢
 have d1 : decide (l.d = l.d) = true := decide_eq_true rfl
 have d2 : decide (l.k = l.k) = true := decide_eq_true rfl
 have d3 : decide (l.r = l.r) = true := decide_eq_true rfl
 have d4 : decide (l.up = l.up) = true := decide_eq_true rfl
 have ⟨H_bb0, H_k0, H_g0, H_hw0, H_q1, H_hx, H_hy, H_h1⟩ := hid8 bb0 k0 g0 hw0 q1 hx hy h1; clear bb0 k0 g0 hw0 q1 hx hy h1; have ⟨H_h2, H_h3, H_h4⟩ := hid3 h2 h3 h4; clear h2 h3 h4
 go_enter Tryz.func12, Tryz.ntmps12
 go_wp2_with fail
 rw [H_hw0.out]
 obtain ⟨y0, y1, y2, y3, y4, y5, y6, y7, y8, y9, y10, y11⟩ := at12_of H_k0.out
 obtain ⟨z0, z1, z2, z3, z4, z5, z6, z7, z8, z9, z10, z11⟩ := at12_of H_g0.out
 go_wp2_with fail
 (with_reducible refine (H_q1.out).mono ?_)
 rintro e w1 ⟨rfl, b1⟩
 have c1 : Below w0.heap.size w0 w1 := Below.trans belt (b1.mono omh)
 have s1 := c1.size
 have bb1 := H_bb0.out.trans (c1.mono H_bb0.out.size)
 have ⟨H_b1, H_c1, H_bb1⟩ := hid3 b1 c1 bb1; clear b1 c1 bb1
 clear y0 y1 y2 y3 y4 y5 y6 y7 y8 y9 y10 y11
 clear z0 z1 z2 z3 z4 z5 z6 z7 z8 z9 z10 z11
 go_wp2_with fail
 go_ret
 exact ⟨rfl, H_bb1.out⟩
end Go.Proofs.YtoehobaigfmnpaaGreatDoor

/- Contracts of the reference of locks: fields, Valid, Same of one lock, Few. -/
import Derived.BigGuardPart
import Derived.Test.YtoehobaigfmnpaaDoorMr9
import Derived.Test.YtoehobaigfmnpaaDoorMr11
import Derived.Test.YtoehobaigfmnpaaDoorMr12
import Derived.Test.YtoehobaigfmnpaaDoorMr22
import Derived.Test.YtoehobaigfmnpaaDoorMr23
section
namespace Go.Proofs.YtoehobaigfmnpaaDoor
set_option linter.unusedSimpArgs false
set_option linter.unusedVariables false
set_option maxRecDepth 100000
open Go.RowKit
def Lk.zero : Lk := ⟨0, 0, 0, Slt.zero, Slt.zero, false⟩
/-- a lock and an error number, the lists' places known -/
def LockErr (A0 : Option Addr) (l0 : List Int) (B0 : Option Addr) (m0 : List Int) (r : Lk) (E : Int) (w : World) (e : Ending) (w' : World) : Prop :=
  ∃ A p B q, e = .returned (.tuple #[.agg (r.cells A r.x.l.length p B r.y.l.length q).toArray, .int .i64 E]) ∧ Prov w w' A0 l0 A r.x.l ∧ Prov w w' B0 m0 B r.y.l ∧ Below w.heap.size w w'
theorem prov_nil (w w' : World) (A0 : Option Addr) (l0 : List Int) (A : Option Addr) : Prov w w' A0 l0 A [] := ⟨fun i hi => absurd hi (by simp), .inl rfl⟩
theorem lockErr_zero {A0 : Option Addr} {l0 : List Int} {B0 : Option Addr} {m0 : List Int} {E : Int} {w w' : World} (hb : Below w.heap.size w w') :
    LockErr A0 l0 B0 m0 Lk.zero E w (.returned (.tuple #[.agg #[.int .i64 0, .int .i64 0, .int .i64 0, .int .i64 0, .int .i64 0, .slice none 0 0, .int .u64 0, .int .i64 0, .int .i64 0, .slice none 0 0, .int .u64 0, .bool false], .int .i64 E])) w' :=
  ⟨none, 0, none, 0, rfl, prov_nil _ _ _ _ _, prov_nil _ _ _ _ _, hb⟩
/-- what Power returns -/
def pwR (l : Lk) (u : Bool) : Lk := if lvB l = true then { l with up := u } else Lk.zero
def pwE (l : Lk) : Int := if lvB l = true then 0 else 1
set_option maxHeartbeats 4000000 in
theorem lpower_any (l : Lk) (u : Bool) (A : Option Addr) (n p : Nat) (B : Option Addr) (m q : Nat) (w : World) (hx : SlotIs w A n l.x) (hy : SlotIs w B m l.y) (ht : Tab w) :
    Calls Tryd.prog 29 #[.agg (l.cells A n p B m q).toArray, .bool u] w (LockErr A l.x.l B l.y.l (pwR l u) (pwE l) w) := by
  obtain ⟨w0, hw0⟩ : ∃ W, (w.alloc (.cells (l.cells A n p B m q).toArray 55)).alloc (.cells #[.int .i64 0, .int .i64 0, .int .i64 0, .int .i64 0, .int .i64 0, .slice none 0 0, .int .u64 0, .int .i64 0, .int .i64 0, .slice none 0 0, .int .u64 0, .bool false] 55) = W := ⟨_, rfl⟩
  have bb0 : Below w.heap.size w w0 := by rw [← hw0]; exact ((Below.refl _ _).alloc (Nat.le_refl _) _).alloc (by simp) _
  have k0 : Blk w0 w.heap.size (l.cells A n p B m q).toArray := by rw [← hw0]; exact (blk_new rfl).alloc _
  have g0 : Blk w0 (w.heap.size + 1) #[.int .i64 0, .int .i64 0, .int .i64 0, .int .i64 0, .int .i64 0, .slice none 0 0, .int .u64 0, .int .i64 0, .int .i64 0, .slice none 0 0, .int .u64 0, .bool false] := by rw [← hw0]; exact blk_new (by simp)
  have q1 := lvalid_any l A n p B m q w0 (hx.below bb0) (hy.below bb0) (ht.below bb0)
  cases hv : lvB l with
  | false =>
    have e1 : pwR l u = Lk.zero := by simp [pwR, hv]
    have e2 : pwE l = 1 := by simp [pwE, hv]
    rw [hv] at q1
    rw [e1, e2]
    unfold Lk.cells at k0 hw0 q1 ⊢
    have H_bb0 := Lib.hid bb0; clear bb0; have H_k0 := Lib.hid k0; clear k0; have H_g0 := Lib.hid g0; clear g0; have H_hw0 := Lib.hid hw0; clear hw0; have H_q1 := Lib.hid q1; clear q1; have H_hx := Lib.hid hx; clear hx; have H_hy := Lib.hid hy; clear hy; have H_ht := Lib.hid ht; clear ht
    go_enter Tryd.func29, Tryd.ntmps29
    go_wp2_with fail
    rw [H_hw0.out]
    have y0 := (H_k0.out 0 _ rfl).at
    have y1 := (H_k0.out 1 _ rfl).at
    have y2 := (H_k0.out 2 _ rfl).at
    have y3 := (H_k0.out 3 _ rfl).at
    have y4 := (H_k0.out 4 _ rfl).at
    have y5 := (H_k0.out 5 _ rfl).at
    have y6 := (H_k0.out 6 _ rfl).at
    have y7 := (H_k0.out 7 _ rfl).at
    have y8 := (H_k0.out 8 _ rfl).at
    have y9 := (H_k0.out 9 _ rfl).at
    have y10 := (H_k0.out 10 _ rfl).at
    have y11 := (H_k0.out 11 _ rfl).at
    go_wp2_with fail
    (with_reducible refine (H_q1.out).mono ?_)
    rintro e w1 ⟨rfl, b1⟩
    have c1 : Below w0.heap.size w0 w1 := Below.trans belt (b1.mono omh)
    have s1 := c1.size
    have bb1 := H_bb0.out.trans (c1.mono H_bb0.out.size)
    have k1 := H_k0.out.below c1
    have g1 := H_g0.out.below c1
    have H_b1 := Lib.hid b1; clear b1; have H_c1 := Lib.hid c1; clear c1; have H_bb1 := Lib.hid bb1; clear bb1; have H_k1 := Lib.hid k1; clear k1; have H_g1 := Lib.hid g1; clear g1
    clear y0 y1 y2 y3 y4 y5 y6 y7 y8 y9 y10 y11
    have z0 := (H_g1.out 0 _ rfl).at
    have z1 := (H_g1.out 1 _ rfl).at
    have z2 := (H_g1.out 2 _ rfl).at
    have z3 := (H_g1.out 3 _ rfl).at
    have z4 := (H_g1.out 4 _ rfl).at
    have z5 := (H_g1.out 5 _ rfl).at
    have z6 := (H_g1.out 6 _ rfl).at
    have z7 := (H_g1.out 7 _ rfl).at
    have z8 := (H_g1.out 8 _ rfl).at
    have z9 := (H_g1.out 9 _ rfl).at
    have z10 := (H_g1.out 10 _ rfl).at
    have z11 := (H_g1.out 11 _ rfl).at
    have lz := (H_g1.out 0 _ rfl).lt
    have b2 : Below w.heap.size w (putL w1 (w.heap.size + 1) 0 [.int .i64 0, .int .i64 0, .int .i64 0, .int .i64 0, .int .i64 0, .slice none 0 0, .int .u64 0, .int .i64 0, .int .i64 0, .slice none 0 0, .int .u64 0, .bool false]) := putL_below (by omega) _ _ _ H_bb1.out
    simp only [putL, Nat.reduceAdd] at b2
    have H_b2 := Lib.hid b2; clear b2
    have f0 := (H_g1.out 0 _ rfl).free
    have f1 := (H_g1.out 1 _ rfl).free
    have f2 := (H_g1.out 2 _ rfl).free
    have f3 := (H_g1.out 3 _ rfl).free
    have f4 := (H_g1.out 4 _ rfl).free
    have f5 := (H_g1.out 5 _ rfl).free
    have f6 := (H_g1.out 6 _ rfl).free
    have f7 := (H_g1.out 7 _ rfl).free
    have f8 := (H_g1.out 8 _ rfl).free
    have f9 := (H_g1.out 9 _ rfl).free
    have f10 := (H_g1.out 10 _ rfl).free
    have f11 := (H_g1.out 11 _ rfl).free
    go_wp2_with fail
    refine bodyPost_ret (v := .tuple #[.agg #[.int .i64 0, .int .i64 0, .int .i64 0, .int .i64 0, .int .i64 0, .slice none 0 0, .int .u64 0, .int .i64 0, .int .i64 0, .slice none 0 0, .int .u64 0, .bool false], .int .i64 1]) (by simp [results, Tryd.results29, go_sem, *]) rfl (lockErr_zero H_b2.out)
  | true =>
    have e1 : pwR l u = { l with up := u } := by simp [pwR, hv]
    have e2 : pwE l = 0 := by simp [pwE, hv]
    have hn := hx.len
    have hm := hy.len
    subst hn hm
    rw [hv] at q1
    rw [e1, e2]
    unfold LockErr Lk.cells
    unfold Lk.cells at k0 hw0 q1
    have H_bb0 := Lib.hid bb0; clear bb0; have H_k0 := Lib.hid k0; clear k0; have H_g0 := Lib.hid g0; clear g0; have H_hw0 := Lib.hid hw0; clear hw0; have H_q1 := Lib.hid q1; clear q1; have H_hx := Lib.hid hx; clear hx; have H_hy := Lib.hid hy; clear hy; have H_ht := Lib.hid ht; clear ht
    go_enter Tryd.func29, Tryd.ntmps29
    go_wp2_with fail
    rw [H_hw0.out]
    have y0 := (H_k0.out 0 _ rfl).at
    have y1 := (H_k0.out 1 _ rfl).at
    have y2 := (H_k0.out 2 _ rfl).at
    have y3 := (H_k0.out 3 _ rfl).at
    have y4 := (H_k0.out 4 _ rfl).at
    have y5 := (H_k0.out 5 _ rfl).at
    have y6 := (H_k0.out 6 _ rfl).at
    have y7 := (H_k0.out 7 _ rfl).at
    have y8 := (H_k0.out 8 _ rfl).at
    have y9 := (H_k0.out 9 _ rfl).at
    have y10 := (H_k0.out 10 _ rfl).at
    have y11 := (H_k0.out 11 _ rfl).at
    go_wp2_with fail
    (with_reducible refine (H_q1.out).mono ?_)
    rintro e w1 ⟨rfl, b1⟩
    have c1 : Below w0.heap.size w0 w1 := Below.trans belt (b1.mono omh)
    have s1 := c1.size
    have bb1 := H_bb0.out.trans (c1.mono H_bb0.out.size)
    have k1 := H_k0.out.below c1
    have g1 := H_g0.out.below c1
    have H_b1 := Lib.hid b1; clear b1; have H_c1 := Lib.hid c1; clear c1; have H_bb1 := Lib.hid bb1; clear bb1; have H_k1 := Lib.hid k1; clear k1; have H_g1 := Lib.hid g1; clear g1
    clear y0 y1 y2 y3 y4 y5 y6 y7 y8 y9 y10 y11
    have y0 := (H_k1.out 0 _ rfl).at
    have y1 := (H_k1.out 1 _ rfl).at
    have y2 := (H_k1.out 2 _ rfl).at
    have y3 := (H_k1.out 3 _ rfl).at
    have y4 := (H_k1.out 4 _ rfl).at
    have y5 := (H_k1.out 5 _ rfl).at
    have y6 := (H_k1.out 6 _ rfl).at
    have y7 := (H_k1.out 7 _ rfl).at
    have y8 := (H_k1.out 8 _ rfl).at
    have y9 := (H_k1.out 9 _ rfl).at
    have y10 := (H_k1.out 10 _ rfl).at
    have y11 := (H_k1.out 11 _ rfl).at
    have z0 := (H_g1.out 0 _ rfl).at
    have z1 := (H_g1.out 1 _ rfl).at
    have z2 := (H_g1.out 2 _ rfl).at
    have z3 := (H_g1.out 3 _ rfl).at
    have z4 := (H_g1.out 4 _ rfl).at
    have z5 := (H_g1.out 5 _ rfl).at
    have z6 := (H_g1.out 6 _ rfl).at
    have z7 := (H_g1.out 7 _ rfl).at
    have z8 := (H_g1.out 8 _ rfl).at
    have z9 := (H_g1.out 9 _ rfl).at
    have z10 := (H_g1.out 10 _ rfl).at
    have z11 := (H_g1.out 11 _ rfl).at
    have ly := (H_k1.out 0 _ rfl).lt
    have lz := (H_g1.out 0 _ rfl).lt
    have b2 : Below w.heap.size w (putL (putL w1 w.heap.size 11 [.bool u]) (w.heap.size + 1) 0 [.int .i64 l.d, .int .i64 l.k, .int .i64 l.r, .int .i64 l.x.s, .int .i64 l.x.c, .slice A l.x.l.length p, .int .u64 l.x.u, .int .i64 l.y.s, .int .i64 l.y.c, .slice B l.y.l.length q, .int .u64 l.y.u, .bool u]) := putL_below (by omega) _ _ _ (putL_below (Nat.le_refl _) _ _ _ H_bb1.out)
    simp only [putL, Nat.reduceAdd] at b2
    have H_b2 := Lib.hid b2; clear b2
    have fk := (H_k1.out 11 _ rfl).free
    have f0 := (H_g1.out 0 _ rfl).free
    have f1 := (H_g1.out 1 _ rfl).free
    have f2 := (H_g1.out 2 _ rfl).free
    have f3 := (H_g1.out 3 _ rfl).free
    have f4 := (H_g1.out 4 _ rfl).free
    have f5 := (H_g1.out 5 _ rfl).free
    have f6 := (H_g1.out 6 _ rfl).free
    have f7 := (H_g1.out 7 _ rfl).free
    have f8 := (H_g1.out 8 _ rfl).free
    have f9 := (H_g1.out 9 _ rfl).free
    have f10 := (H_g1.out 10 _ rfl).free
    have f11 := (H_g1.out 11 _ rfl).free
    go_wp2_with fail
    refine bodyPost_ret (v := .tuple #[.agg #[.int .i64 l.d, .int .i64 l.k, .int .i64 l.r, .int .i64 l.x.s, .int .i64 l.x.c, .slice A l.x.l.length p, .int .u64 l.x.u, .int .i64 l.y.s, .int .i64 l.y.c, .slice B l.y.l.length q, .int .u64 l.y.u, .bool u], .int .i64 0]) (by simp [results, Tryd.results29, go_sem, *]) rfl ⟨A, p, B, q, rfl, prov_old (H_hx.out.below H_b2.out).ints, prov_old (H_hy.out.below H_b2.out).ints, H_b2.out⟩
end Go.Proofs.YtoehobaigfmnpaaDoor
end
section
namespace Go.Proofs.YtoehobaigfmnpaaDoor
set_option linter.unusedSimpArgs false
set_option linter.unusedVariables false
set_option maxRecDepth 100000
open Go.RowKit
theorem cast_mod (n b m : Nat) : (n : Int) * (b : Int) % (m : Int) = ((n * b % m : Nat) : Int) := by rw [Int.natCast_emod, Int.natCast_mul]
theorem mul_le62 {n b m : Nat} (hm : m ≤ 2147483648) (hn : n < m) (hb : b < m) : 0 ≤ (n : Int) * (b : Int) ∧ (n : Int) * (b : Int) ≤ 4611686018427387904 := by
  have h : n * b ≤ 2147483648 * 2147483648 := Nat.mul_le_mul (by omega) (by omega)
  have : ((n * b : Nat) : Int) ≤ 4611686018427387904 := by omega
  rw [Int.natCast_mul] at this
  exact ⟨Int.mul_nonneg (by omega) (by omega), this⟩

set_option maxHeartbeats 2000000 in
theorem rpower_any (a x m : Nat) (w : World) (hm1 : 1 < m) (hm : m ≤ 2147483648) (ha : a < m) (hx : x ≤ 4611686018427387904) :
    Calls Tryd.prog 46 #[.int .i64 a, .int .i64 x, .int .i64 m] w fun e w' => e = .returned (.int .i64 (pw a x m : Nat)) ∧ w = w' := by
  have hst : 1 * a ^ x % m = pw a x m := by rw [Nat.one_mul]; rfl
  generalize hR : pw a x m = R at *
  have hmi : (0 : Int) < (m : Int) := by omega
  have hmz : ((m : Int) == 0) = false := by rw [beq_eq_false_iff_ne]; omega
  have H_hst := Lib.hid hst; clear hst; have H_hR := Lib.hid hR; clear hR; have H_ha := Lib.hid ha; clear ha
  go_enter Tryd.func46, Tryd.ntmps46
  go_wp2_with fail
  go_loop [0, 1, 7] (fun a x o => ∃ (X A O : Nat), a = .int .i64 A ∧ x = .int .i64 X ∧ o = .int .i64 O ∧ X ≤ 4611686018427387904 ∧ A < m ∧ O < m ∧ O * A ^ X % m = R) (fun _ x _ => (intOf x).toNat)
  case atStart => exact ⟨x, a, 1, rfl, rfl, rfl, hx, H_ha.out, hm1, H_hst.out⟩
  case round =>
    obtain ⟨X, A, O, rfl, rfl, rfl, hX, hA, hO, hinv⟩ := hrel
    by_cases h0 : X = 0
    · have hR2 : O = R := by rw [h0, Nat.pow_zero, Nat.mul_one, Nat.mod_eq_of_lt hO] at hinv; exact hinv
      have t1 : ¬ (0 : Int) < (X : Int) := by omega
      have H_hinv := Lib.hid hinv; clear hinv; have H_h0 := Lib.hid h0; clear h0; have H_hR2 := Lib.hid hR2; clear hR2; have H_hA := Lib.hid hA; clear hA; have H_hO := Lib.hid hO; clear hO
      go_wp2_with fail
      go_ret
      exact ⟨ret_int (by rw [H_hR2.out]), rfl⟩
    · have t1 : (0 : Int) < (X : Int) := by omega
      have hrd := pow_round m A X O
      rw [hinv] at hrd
      have hA2 : A * A % m < m := Nat.mod_lt _ (by omega)
      have hO2 : O * A % m < m := Nat.mod_lt _ (by omega)
      have m1 := mul_le62 hm hA hA
      have m2 := mul_le62 hm hO hA
      have m3 := m1.1; have m4 := m1.2; have m5 := m2.1; have m6 := m2.2
      have e1 := cast_mod A A m
      have e2 := cast_mod O A m
      by_cases hodd : X % 2 = 1
      · have t2 : ((X : Int) % 2 == 1) = true := by rw [beq_iff_eq]; omega
        rw [if_pos hodd] at hrd
        have H_hinv := Lib.hid hinv; clear hinv; have H_h0 := Lib.hid h0; clear h0; have H_hrd := Lib.hid hrd; clear hrd; have H_hA2 := Lib.hid hA2; clear hA2; have H_hO2 := Lib.hid hO2; clear hO2; have H_hA := Lib.hid hA; clear hA; have H_hO := Lib.hid hO; clear hO; have H_hodd := Lib.hid hodd; clear hodd; have H_m1 := Lib.hid m1; clear m1; have H_m2 := Lib.hid m2; clear m2
        go_wp2_with fail
        go_round
        case rel => exact ⟨X / 2, A * A % m, O * A % m, rfl, by go_num, rfl, by omega, H_hA2.out, H_hO2.out, H_hrd.out⟩
        case measure => simp [intOf]; omega
      · have t2 : ((X : Int) % 2 == 1) = false := by rw [beq_eq_false_iff_ne]; omega
        rw [if_neg hodd] at hrd
        have H_hinv := Lib.hid hinv; clear hinv; have H_h0 := Lib.hid h0; clear h0; have H_hrd := Lib.hid hrd; clear hrd; have H_hA2 := Lib.hid hA2; clear hA2; have H_hO2 := Lib.hid hO2; clear hO2; have H_hA := Lib.hid hA; clear hA; have H_hO := Lib.hid hO; clear hO; have H_hodd := Lib.hid hodd; clear hodd; have H_m1 := Lib.hid m1; clear m1; have H_m2 := Lib.hid m2; clear m2
        go_wp2_with fail
        go_round
        case rel => exact ⟨X / 2, A * A % m, O, rfl, by go_num, rfl, by omega, H_hA2.out, H_hO.out, H_hrd.out⟩
        case measure => simp [intOf]; omega

theorem rExponent_any (n : Int) (w : World) : Calls Tryd.prog 44 #[.int .i64 n] w fun e w' => e = .returned (.bool (wthB n 0)) ∧ w = w' := by
  by_cases h1 : 0 ≤ n
  · by_cases h2 : n < 1073741789
    · have e : wthB n 0 = true := wthB_iff.2 ⟨h1, h2⟩
      rw [e]; clear e
      go_enter Tryd.func44, Tryd.ntmps44
      go_wp2_with fail
      go_ret
      exact ⟨rfl, rfl⟩
    · have e : wthB n 0 = false := by simp [wthB, h2]
      have h2' : decide (n < 1073741789) = false := by simpa using h2
      rw [e]; clear e
      go_enter Tryd.func44, Tryd.ntmps44
      go_wp2_with fail
      go_ret
      exact ⟨rfl, rfl⟩
  · have e : wthB n 0 = false := by simp [wthB, h1]
    have h1' : decide (0 ≤ n) = false := by simpa using h1
    rw [e]; clear e
    go_enter Tryd.func44, Tryd.ntmps44
    go_wp2_with fail
    go_ret
    exact ⟨rfl, rfl⟩

theorem rmember_any (a : Int) (w : World) : Calls Tryd.prog 80 #[.int .i64 a] w fun e w' => e = .returned (.bool (memZ a)) ∧ w = w' := by
  by_cases h1 : 1 ≤ a
  · by_cases h2 : a < 2147483579
    · obtain ⟨n, rfl⟩ := Int.eq_ofNat_of_zero_le (show 0 ≤ a by omega)
      have q := rpower_any n 1073741789 2147483579 w (by omega) (by omega) (by omega) (by omega)
      have e : memZ (n : Int) = ((pw n QQ PP : Nat) == 1) := by simp [memZ, h1, h2]
      have e2 : (((pw n QQ PP : Nat) : Int) == 1) = ((pw n QQ PP : Nat) == 1) := by rw [Bool.eq_iff_iff, beq_iff_eq, beq_iff_eq]; omega
      rw [e]
      change Calls _ _ #[.int .i64 n, .int .i64 ((1073741789 : Nat) : Int), .int .i64 ((2147483579 : Nat) : Int)] w (fun e w' => e = .returned (.int .i64 (pw n QQ PP : Nat)) ∧ _) at q
      generalize ((pw n QQ PP : Nat) == 1) = Z at *
      generalize ((pw n QQ PP : Nat) : Int) = Y at *
      have H_q := Lib.hid q; clear q; have H_e := Lib.hid e; clear e
      go_enter Tryd.func80, Tryd.ntmps80
      go_wp2_with fail
      refine H_q.out.mono ?_
      rintro e w_ ⟨rfl, rfl⟩
      go_wp2_with fail
      go_ret
      exact ⟨rfl, rfl⟩
    · have e : memZ a = false := by simp [memZ, h2]
      have h2' : decide (a < 2147483579) = false := by simpa using h2
      rw [e]; clear e
      go_enter Tryd.func80, Tryd.ntmps80
      go_wp2_with fail
      go_ret
      exact ⟨rfl, rfl⟩
  · have e : memZ a = false := by simp [memZ, h1]
    have h1' : decide (1 ≤ a) = false := by simpa using h1
    rw [e]; clear e
    go_enter Tryd.func80, Tryd.ntmps80
    go_wp2_with fail
    go_ret
    exact ⟨rfl, rfl⟩
end Go.Proofs.YtoehobaigfmnpaaDoor
end
section
namespace Go.Proofs.YtoehobaigfmnpaaDoor
set_option linter.unusedSimpArgs false
set_option linter.unusedVariables false
set_option maxRecDepth 100000
open Go.RowKit
theorem rTime_any (n : Int) (w : World) : Calls Tryd.prog 52 #[.int .i64 n] w fun e w' => e = .returned (.bool (timeB n)) ∧ w = w' := by
  go_enter Tryd.func52, Tryd.ntmps52
  go_wp2_with fail
  all_goals
    go_ret
    exact ⟨ret_bool (by simp [timeB]; omega), rfl⟩
theorem rError_any (n : Int) (w : World) : Calls Tryd.prog 81 #[.int .i64 n] w fun e w' => e = .returned (.bool (errB n)) ∧ w = w' := by
  go_enter Tryd.func81, Tryd.ntmps81
  go_wp2_with fail
  all_goals
    go_ret
    exact ⟨ret_bool (by simp [errB]; omega), rfl⟩
end Go.Proofs.YtoehobaigfmnpaaDoor
end
section
namespace Go.Proofs.YtoehobaigfmnpaaDoor
set_option linter.unusedSimpArgs false
set_option linter.unusedVariables false
set_option maxRecDepth 100000
open Go.RowKit
theorem belowPost {V : Value} {w : World} : ∀ e w', (e = Ending.returned V ∧ w = w') → (e = Ending.returned V ∧ Below w.heap.size w w') := by
  rintro e w' ⟨rfl, rfl⟩
  exact ⟨rfl, Below.refl _ _⟩
set_option maxHeartbeats 4000000 in
theorem rlfields_any (d k r : Int) (w0 : World) : Calls Tryd.prog 60 #[.int .i64 d, .int .i64 k, .int .i64 r] w0 fun e w' => e = .returned (.bool (fmB d k r)) ∧ Below w0.heap.size w0 w' := by
  have q1 := fun W => (rError_any r W).mono belowPost
  have q2 := fun W => (rmember_any k W).mono belowPost
  have fin : fmB d k r = (decide (1 ≤ d) && decide (d ≤ 400) && memZ k && errB r) := rfl
  generalize errB r = E at *
  generalize memZ k = M at *
  generalize fmB d k r = F at *
  have bb0 := Below.refl w0.heap.size w0
  by_cases h1 : 1 ≤ d
  rotate_left
  · have d1 : decide (1 ≤ d) = false := decide_eq_false h1
    rw [d1] at fin
    simp only [Bool.false_and] at fin
    have H_bb0 := Lib.hid bb0; clear bb0; have H_q1 := Lib.hid q1; clear q1; have H_q2 := Lib.hid q2; clear q2; have H_fin := Lib.hid fin; clear fin
    go_enter Tryd.func60, Tryd.ntmps60
    go_wp2_with fail
    (with_reducible refine (H_q2.out _).mono ?_)
    rintro e w1 ⟨rfl, b1⟩
    have c1 : Below w0.heap.size w0 w1 := Below.trans belt (b1.mono omh)
    have s1 := c1.size
    have bb1 := H_bb0.out.trans (c1.mono H_bb0.out.size)
    have H_b1 := Lib.hid b1; clear b1; have H_c1 := Lib.hid c1; clear c1; have H_bb1 := Lib.hid bb1; clear bb1
    go_wp2_with fail
    all_goals
      go_ret
      exact ⟨ret_bool H_fin.out.symm, H_bb1.out⟩
  have d1 : decide (1 ≤ d) = true := decide_eq_true h1
  by_cases h2 : d ≤ 400
  rotate_left
  · have d2 : decide (d ≤ 400) = false := decide_eq_false h2
    rw [d1, d2] at fin
    simp only [Bool.false_and, Bool.true_and] at fin
    have H_bb0 := Lib.hid bb0; clear bb0; have H_q1 := Lib.hid q1; clear q1; have H_q2 := Lib.hid q2; clear q2; have H_fin := Lib.hid fin; clear fin
    go_enter Tryd.func60, Tryd.ntmps60
    go_wp2_with fail
    (with_reducible refine (H_q2.out _).mono ?_)
    rintro e w1 ⟨rfl, b1⟩
    have c1 : Below w0.heap.size w0 w1 := Below.trans belt (b1.mono omh)
    have s1 := c1.size
    have bb1 := H_bb0.out.trans (c1.mono H_bb0.out.size)
    have H_b1 := Lib.hid b1; clear b1; have H_c1 := Lib.hid c1; clear c1; have H_bb1 := Lib.hid bb1; clear bb1
    go_wp2_with fail
    all_goals
      go_ret
      exact ⟨ret_bool H_fin.out.symm, H_bb1.out⟩
  have d2 : decide (d ≤ 400) = true := decide_eq_true h2
  rw [d1, d2] at fin
  simp only [Bool.true_and] at fin
  cases M with
  | false =>
    simp only [Bool.false_and] at fin
    have H_bb0 := Lib.hid bb0; clear bb0; have H_q1 := Lib.hid q1; clear q1; have H_q2 := Lib.hid q2; clear q2; have H_fin := Lib.hid fin; clear fin
    go_enter Tryd.func60, Tryd.ntmps60
    go_wp2_with fail
    (with_reducible refine (H_q2.out _).mono ?_)
    rintro e w1 ⟨rfl, b1⟩
    have c1 : Below w0.heap.size w0 w1 := Below.trans belt (b1.mono omh)
    have s1 := c1.size
    have bb1 := H_bb0.out.trans (c1.mono H_bb0.out.size)
    have H_b1 := Lib.hid b1; clear b1; have H_c1 := Lib.hid c1; clear c1; have H_bb1 := Lib.hid bb1; clear bb1
    go_wp2_with fail
    all_goals
      go_ret
      exact ⟨ret_bool H_fin.out.symm, H_bb1.out⟩
  | true =>
    simp only [Bool.true_and] at fin
    have H_bb0 := Lib.hid bb0; clear bb0; have H_q1 := Lib.hid q1; clear q1; have H_q2 := Lib.hid q2; clear q2; have H_fin := Lib.hid fin; clear fin
    go_enter Tryd.func60, Tryd.ntmps60
    go_wp2_with fail
    (with_reducible refine (H_q2.out _).mono ?_)
    rintro e w1 ⟨rfl, b1⟩
    have c1 : Below w0.heap.size w0 w1 := Below.trans belt (b1.mono omh)
    have s1 := c1.size
    have bb1 := H_bb0.out.trans (c1.mono H_bb0.out.size)
    have H_b1 := Lib.hid b1; clear b1; have H_c1 := Lib.hid c1; clear c1; have H_bb1 := Lib.hid bb1; clear bb1
    go_wp2_with fail
    (with_reducible refine (H_q1.out _).mono ?_)
    rintro e w2 ⟨rfl, b2⟩
    have c2 : Below w1.heap.size w1 w2 := Below.trans belt (b2.mono omh)
    have s2 := c2.size
    have bb2 := H_bb1.out.trans (c2.mono H_bb1.out.size)
    have H_b2 := Lib.hid b2; clear b2; have H_c2 := Lib.hid c2; clear c2; have H_bb2 := Lib.hid bb2; clear bb2
    go_wp2_with fail
    all_goals
      go_ret
      exact ⟨ret_bool H_fin.out.symm, H_bb2.out⟩
set_option maxHeartbeats 4000000 in
theorem rlvalid_any (l : Lk) (A : Option Addr) (n p : Nat) (B : Option Addr) (m q : Nat) (w : World) (hx : SlotIs w A n l.x) (hy : SlotIs w B m l.y) :
    Calls Tryd.prog 28 #[.agg (l.cells A n p B m q).toArray] w fun e w' => e = .returned (.bool (lvB l)) ∧ Below w.heap.size w w' := by
  obtain ⟨w0, hw0⟩ : ∃ W, w.alloc (.cells (l.cells A n p B m q).toArray 55) = W := ⟨_, rfl⟩
  have bb0 : Below w.heap.size w w0 := by rw [← hw0]; exact (Below.refl _ _).alloc (Nat.le_refl _) _
  have k0 : Blk w0 w.heap.size (l.cells A n p B m q).toArray := by rw [← hw0]; exact blk_new rfl
  have q1 := rbest_any l.x l.y A n p B m q w0 (hx.below bb0) (hy.below bb0)
  have q2 := fun W => rlfields_any l.d l.k l.r W
  have fin : lvB l = (bestB l.x l.y && fmB l.d l.k l.r) := rfl
  generalize bestI l.x l.y = I at *
  generalize bestB l.x l.y = T at *
  generalize fmB l.d l.k l.r = F at *
  generalize lvB l = R at *
  unfold Lk.cells at k0 hw0 ⊢
  have H_bb0 := Lib.hid bb0; clear bb0; have H_k0 := Lib.hid k0; clear k0; have H_hw0 := Lib.hid hw0; clear hw0; have H_q1 := Lib.hid q1; clear q1; have H_q2 := Lib.hid q2; clear q2; have H_fin := Lib.hid fin; clear fin; have H_hx := Lib.hid hx; clear hx; have H_hy := Lib.hid hy; clear hy
  go_enter Tryd.func28, Tryd.ntmps28
  go_wp2_with fail
  rw [H_hw0.out]
  have y0 := (H_k0.out 0 _ rfl).at
  have y1 := (H_k0.out 1 _ rfl).at
  have y2 := (H_k0.out 2 _ rfl).at
  have y3 := (H_k0.out 3 _ rfl).at
  have y4 := (H_k0.out 4 _ rfl).at
  have y5 := (H_k0.out 5 _ rfl).at
  have y6 := (H_k0.out 6 _ rfl).at
  have y7 := (H_k0.out 7 _ rfl).at
  have y8 := (H_k0.out 8 _ rfl).at
  have y9 := (H_k0.out 9 _ rfl).at
  have y10 := (H_k0.out 10 _ rfl).at
  have y11 := (H_k0.out 11 _ rfl).at
  go_wp2_with fail
  (with_reducible refine (H_q1.out).mono ?_)
  rintro e w1 ⟨rfl, b1⟩
  have c1 : Below w0.heap.size w0 w1 := Below.trans belt (b1.mono omh)
  have s1 := c1.size
  have bb1 := H_bb0.out.trans (c1.mono H_bb0.out.size)
  have k1 := H_k0.out.below c1
  have H_b1 := Lib.hid b1; clear b1; have H_c1 := Lib.hid c1; clear c1; have H_bb1 := Lib.hid bb1; clear bb1; have H_k1 := Lib.hid k1; clear k1
  clear y0 y1 y2 y3 y4 y5 y6 y7 y8 y9 y10 y11
  cases T with
  | false =>
    go_wp2_with fail
    go_ret
    exact ⟨ret_bool (by rw [H_fin.out]; rfl), H_bb1.out⟩
  | true =>
    have y0 := (H_k1.out 0 _ rfl).at
    have y1 := (H_k1.out 1 _ rfl).at
    have y2 := (H_k1.out 2 _ rfl).at
    have y3 := (H_k1.out 3 _ rfl).at
    have y4 := (H_k1.out 4 _ rfl).at
    have y5 := (H_k1.out 5 _ rfl).at
    have y6 := (H_k1.out 6 _ rfl).at
    have y7 := (H_k1.out 7 _ rfl).at
    have y8 := (H_k1.out 8 _ rfl).at
    have y9 := (H_k1.out 9 _ rfl).at
    have y10 := (H_k1.out 10 _ rfl).at
    have y11 := (H_k1.out 11 _ rfl).at
    go_wp2_with fail
    (with_reducible refine (H_q2.out _).mono ?_)
    rintro e w2 ⟨rfl, b2⟩
    have c2 : Below w1.heap.size w1 w2 := Below.trans belt (b2.mono omh)
    have s2 := c2.size
    have bb2 := H_bb1.out.trans (c2.mono H_bb1.out.size)
    have H_b2 := Lib.hid b2; clear b2; have H_c2 := Lib.hid c2; clear c2; have H_bb2 := Lib.hid bb2; clear bb2
    go_wp2_with fail
    go_ret
    exact ⟨ret_bool (by rw [H_fin.out]; rfl), H_bb2.out⟩
set_option maxHeartbeats 4000000 in
theorem rlfew_any (l : Lk) (A : Option Addr) (n p : Nat) (B : Option Addr) (m q : Nat) (w : World) (hn : n ≤ 9223372036854775807) (hm : m ≤ 9223372036854775807) :
    Calls Tryd.prog 33 #[.agg (l.cells A n p B m q).toArray] w fun e w' => e = .returned (.bool (len40B n && len40B m)) ∧ Below w.heap.size w w' := by
  obtain ⟨w0, hw0⟩ : ∃ W, w.alloc (.cells (l.cells A n p B m q).toArray 55) = W := ⟨_, rfl⟩
  have bb0 : Below w.heap.size w w0 := by rw [← hw0]; exact (Below.refl _ _).alloc (Nat.le_refl _) _
  have k0 : Blk w0 w.heap.size (l.cells A n p B m q).toArray := by rw [← hw0]; exact blk_new rfl
  have q1 := rfew_any l.x.s l.x.c l.x.u l.y.s l.y.c l.y.u A n p B m q w0 hn hm
  generalize (len40B n && len40B m) = T at *
  unfold Lk.cells at k0 hw0 ⊢
  have H_bb0 := Lib.hid bb0; clear bb0; have H_k0 := Lib.hid k0; clear k0; have H_hw0 := Lib.hid hw0; clear hw0; have H_q1 := Lib.hid q1; clear q1
  go_enter Tryd.func33, Tryd.ntmps33
  go_wp2_with fail
  rw [H_hw0.out]
  have y0 := (H_k0.out 0 _ rfl).at
  have y1 := (H_k0.out 1 _ rfl).at
  have y2 := (H_k0.out 2 _ rfl).at
  have y3 := (H_k0.out 3 _ rfl).at
  have y4 := (H_k0.out 4 _ rfl).at
  have y5 := (H_k0.out 5 _ rfl).at
  have y6 := (H_k0.out 6 _ rfl).at
  have y7 := (H_k0.out 7 _ rfl).at
  have y8 := (H_k0.out 8 _ rfl).at
  have y9 := (H_k0.out 9 _ rfl).at
  have y10 := (H_k0.out 10 _ rfl).at
  have y11 := (H_k0.out 11 _ rfl).at
  go_wp2_with fail
  (with_reducible refine (H_q1.out).mono ?_)
  rintro e w1 ⟨rfl, b1⟩
  have c1 : Below w0.heap.size w0 w1 := Below.trans belt (b1.mono omh)
  have s1 := c1.size
  have bb1 := H_bb0.out.trans (c1.mono H_bb0.out.size)
  have H_b1 := Lib.hid b1; clear b1; have H_c1 := Lib.hid c1; clear c1; have H_bb1 := Lib.hid bb1; clear bb1
  clear y0 y1 y2 y3 y4 y5 y6 y7 y8 y9 y10 y11
  go_wp2_with fail
  go_ret
  exact ⟨rfl, H_bb1.out⟩
end Go.Proofs.YtoehobaigfmnpaaDoor
end

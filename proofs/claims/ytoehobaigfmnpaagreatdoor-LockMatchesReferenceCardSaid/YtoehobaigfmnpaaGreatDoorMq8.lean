/- Contracts of package sign: Exp, Public, challenge, signature, Sign. -/
import Derived.Test.YtoehobaigfmnpaaGreatDoorMq4
import Derived.Test.YtoehobaigfmnpaaGreatDoorMq7
set_option linter.unusedSimpArgs false
set_option linter.unusedVariables false
set_option maxRecDepth 100000
namespace Go.Proofs.YtoehobaigfmnpaaGreatDoor
open Go.RowKit
def wthB (n lo : Int) : Bool := decide (lo ≤ n) && decide (n < 1073741789)
theorem wthB_iff {n lo : Int} : wthB n lo = true ↔ lo ≤ n ∧ n < 1073741789 := by simp [wthB]
theorem within_any (n lo : Int) (w : World) : Calls Tryz.prog 74 #[.int .i64 n, .int .i64 lo] w fun e w' => e = .returned (.bool (wthB n lo)) ∧ w = w' := by
 by_cases h1 : lo ≤ n
 ·by_cases h2 : n < 1073741789
  ·have e : wthB n lo = true := wthB_iff.2 ⟨h1, h2⟩
   rw [e]; clear e
   go_enter Tryz.func74, Tryz.ntmps74
   go_wp2_with fail
   go_ret
   exact ⟨rfl, rfl⟩
  ·have e : wthB n lo = false := by simp [wthB, h2]
   have h2' : decide (n < 1073741789) = false := by simpa using h2
   rw [e]; clear e
   go_enter Tryz.func74, Tryz.ntmps74
   go_wp2_with fail
   go_ret
   exact ⟨rfl, rfl⟩
 ·have e : wthB n lo = false := by simp [wthB, h1]
  have h1' : decide (lo ≤ n) = false := by simpa using h1
  rw [e]; clear e
  go_enter Tryz.func74, Tryz.ntmps74
  go_wp2_with fail
  go_ret
  exact ⟨rfl, rfl⟩
theorem cast_mulmod (n b : Nat) : (n : Int) * (b : Int) % 2147483579 = ((n * b % PP : Nat) : Int) := by
 rw [Int.natCast_emod, Int.natCast_mul]; rfl
theorem mul_lt31 {n b : Nat} (hn : n < PP) (hb : b < PP) : (n : Int) * (b : Int) ≤ 4611686018427387904 := by
 have h : n * b ≤ 2147483579 * 2147483579 := Nat.mul_le_mul (Nat.le_of_lt hn) (Nat.le_of_lt hb)
 have : ((n * b : Nat) : Int) ≤ 4611686018427387904 := by omega
 rwa [Int.natCast_mul] at this
theorem times_any (g n b : Nat) (w : World) (hn : n < PP) (hb : b < PP) (hg : w.heap[g]? = some (.cells #[.int .i64 n] 3)) :
  Calls Tryz.prog 92 #[.pointer (some ⟨g, 0, none⟩), .int .i64 b] w fun e w' => e = .returned (.tuple #[]) ∧ w.grownBy w' (some g) ∧ w'.heap[g]? = some (.cells #[.int .i64 (n * b % PP : Nat)] 3) := by
 have hc := cell_of_one hg
 have hf := free_of_one hg
 have h0 : 0 ≤ (n : Int) * (b : Int) := Int.mul_nonneg (by omega) (by omega)
 have h1 := mul_lt31 hn hb
 have e := cast_mulmod n b
 have h2 := fun v => grown_set (grown_refl w (some g)) 0 v
 have h3 : ∀ v, (w.setCell ⟨g, 0, none⟩ v).heap[g]? = some (.cells #[v] 3) := fun v => one_setCell hg
 have ⟨H_hg, H_e, H_h2, H_h3⟩ := hid4 hg e h2 h3; clear hg e h2 h3
 go_enter Tryz.func92, Tryz.ntmps92
 go_wp2_with fail
 go_end0
 refine ⟨rfl, ?_, ?_⟩
 ·exact H_h2.out _
 ·rw [← H_e.out]; exact H_h3.out _
set_option maxHeartbeats 2000000 in
theorem power_any (a x : Nat) (w : World) (ha : a < PP) (hx : x ≤ 4611686018427387904) :
  Calls Tryz.prog 75 #[.int .i64 a, .int .i64 x] w fun e w' => e = .returned (.int .i64 (pw a x PP : Nat)) ∧ Below w.heap.size w w' := by
 have hpp : 1 < PP := PP_gt
 have hst : 1 * a ^ x % PP = pw a x PP := by rw [Nat.one_mul]; rfl
 generalize hR : pw a x PP = R at *
 have ⟨H_hst, H_hR, H_ha, H_hpp⟩ := hid4 hst hR ha hpp; clear hst hR ha hpp
 go_enter Tryz.func75, Tryz.ntmps75
 go_wp2_with fail
 go_loopw [1] (fun x wr => ∃ (X A O : Nat), x = .int .i64 X ∧ X ≤ 4611686018427387904 ∧ A < PP ∧ O < PP ∧ O * A ^ X % PP = R ∧ wr.heap[w.heap.size]? = some (.cells #[.int .i64 A] 3) ∧ wr.heap[w.heap.size + 1]? = some (.cells #[.int .i64 O] 3) ∧ Below w.heap.size w wr) (fun x _ => (intOf x).toNat)
 case atStart =>
  refine ⟨x, a, 1, rfl, hx, H_ha.out, H_hpp.out, H_hst.out, ?_, ?_, ?_⟩
  ·exact blk_alloc (newAt rfl) _
  ·exact newAt (by simp)
  ·exact ((Below.refl _ _).alloc (Nat.le_refl _) _).alloc (by simp) _
 case round =>
  obtain ⟨X, A, O, rfl, hX, hA, hO, hinv, hgA, hgO, hbw⟩ := hrel
  have hc1 := cell_of_one hgA
  have hc2 := cell_of_one hgO
  by_cases h0 : X = 0
  ·have hR2 : O = R := by rw [h0, Nat.pow_zero, Nat.mul_one, Nat.mod_eq_of_lt hO] at hinv; exact hinv
   have t1 : ¬ (0 : Int) < (X : Int) := by omega
   have ⟨H_hinv, H_hgA, H_hgO, H_hbw, H_h0, H_hR2, H_hA, H_hO⟩ := hid8 hinv hgA hgO hbw h0 hR2 hA hO; clear hinv hgA hgO hbw h0 hR2 hA hO
   go_wp2_with fail
   go_ret
   exact ⟨ret_int (by rw [H_hR2.out]), H_hbw.out⟩
  ·have t1 : (0 : Int) < (X : Int) := by omega
   have hrd := pow_round PP A X O
   rw [hinv] at hrd
   have hA2 : A * A % PP < PP := Nat.mod_lt _ (by decide)
   have hO2 : O * A % PP < PP := Nat.mod_lt _ (by decide)
   have q1 := fun W h => times_any (w.heap.size + 1) O A W hO hA h
   have q2 := fun W h => times_any w.heap.size A A W hA hA h
   by_cases hodd : X % 2 = 1
   ·have t2 : ((X : Int) % 2 == 1) = true := by rw [beq_iff_eq]; omega
    rw [if_pos hodd] at hrd
    have ⟨H_hinv, H_hgA, H_hgO, H_hbw, H_h0, H_hrd, H_hA2, H_hO2⟩ := hid8 hinv hgA hgO hbw h0 hrd hA2 hO2; clear hinv hgA hgO hbw h0 hrd hA2 hO2; have ⟨H_q1, H_q2, H_hA, H_hO, H_hodd⟩ := hid5 q1 q2 hA hO hodd; clear q1 q2 hA hO hodd
    go_wp2_with fail
    refine (H_q1.out _ H_hgO.out).mono ?_
    rintro e w1 ⟨rfl, g1, h1⟩
    have k1 := blk_grown g1 H_hgA.out (by omega)
    have b1 : Below w.heap.size w w1 := H_hbw.out.trans (below_of_grown g1 H_hbw.out.size (by omega))
    have c1 := cell_of_one k1
    have ⟨H_g1, H_h1, H_k1, H_b1⟩ := hid4 g1 h1 k1 b1; clear g1 h1 k1 b1
    go_wp2_with fail
    refine (H_q2.out _ H_k1.out).mono ?_
    rintro e w2 ⟨rfl, g2, h2⟩
    have k2 := blk_grown g2 H_h1.out (by omega)
    have b2 : Below w.heap.size w w2 := H_b1.out.trans (below_of_grown g2 H_b1.out.size (by omega))
    have ⟨H_g2, H_h2, H_k2, H_b2⟩ := hid4 g2 h2 k2 b2; clear g2 h2 k2 b2
    go_wp2_with fail
    go_roundw
    case rel => exact ⟨X / 2, _, _, by go_num, by omega, H_hA2.out, H_hO2.out, H_hrd.out, H_h2.out, H_k2.out, H_b2.out⟩
    case measure => simp [intOf]; omega
   ·have t2 : ((X : Int) % 2 == 1) = false := by rw [beq_eq_false_iff_ne]; omega
    rw [if_neg hodd] at hrd
    have ⟨H_hinv, H_hgA, H_hgO, H_hbw, H_h0, H_hrd, H_hA2, H_hO2⟩ := hid8 hinv hgA hgO hbw h0 hrd hA2 hO2; clear hinv hgA hgO hbw h0 hrd hA2 hO2; have ⟨H_q1, H_q2, H_hA, H_hO, H_hodd⟩ := hid5 q1 q2 hA hO hodd; clear q1 q2 hA hO hodd
    go_wp2_with fail
    refine (H_q2.out _ H_hgA.out).mono ?_
    rintro e w2 ⟨rfl, g2, h2⟩
    have k2 := blk_grown g2 H_hgO.out (by omega)
    have b2 : Below w.heap.size w w2 := H_hbw.out.trans (below_of_grown g2 H_hbw.out.size (by omega))
    have ⟨H_g2, H_h2, H_k2, H_b2⟩ := hid4 g2 h2 k2 b2; clear g2 h2 k2 b2
    go_wp2_with fail
    go_roundw
    case rel => exact ⟨X / 2, _, _, by go_num, by omega, H_hA2.out, H_hO.out, H_hrd.out, H_h2.out, H_k2.out, H_b2.out⟩
    case measure => simp [intOf]; omega
def memZ (a : Int) : Bool := decide (1 ≤ a) && decide (a < 2147483579) && (pw a.toNat QQ PP == 1)
theorem memZ_iff {a : Int} : memZ a = true ↔ 1 ≤ a ∧ a < 2147483579 ∧ pw a.toNat QQ PP = 1 := by simp [memZ, and_assoc]
theorem memZ_pw {s : Nat} : memZ ((pw 4 s PP : Nat) : Int) = true := by
 obtain ⟨h1, h2, h3⟩ := memB_iff.1 (mem_pw four_q s)
 have hp : PP = 2147483579 := rfl
 exact memZ_iff.2 ⟨by omega, by omega, by rw [Int.toNat_natCast]; exact h3⟩
theorem member_any (a : Int) (w : World) : Calls Tryz.prog 52 #[.int .i64 a] w fun e w' => e = .returned (.bool (memZ a)) ∧ Below w.heap.size w w' := by
 by_cases h1 : 1 ≤ a
 ·by_cases h2 : a < 2147483579
  ·obtain ⟨n, rfl⟩ := Int.eq_ofNat_of_zero_le (show 0 ≤ a by omega)
   have q := power_any n 1073741789 w (by unfold PP; omega) (by omega)
   have e : memZ (n : Int) = ((pw n QQ PP : Nat) == 1) := by simp [memZ, h1, h2]
   have e2 : (((pw n QQ PP : Nat) : Int) == 1) = ((pw n QQ PP : Nat) == 1) := by rw [Bool.eq_iff_iff, beq_iff_eq, beq_iff_eq]; omega
   rw [e]
   change Calls _ _ #[.int .i64 n, .int .i64 ((1073741789 : Nat) : Int)] w (fun e w' => e = .returned (.int .i64 (pw n QQ PP : Nat)) ∧ _) at q
   generalize ((pw n QQ PP : Nat) == 1) = Z at *
   generalize ((pw n QQ PP : Nat) : Int) = Y at *
   have ⟨H_q, H_e⟩ := hid2 q e; clear q e
   go_enter Tryz.func52, Tryz.ntmps52
   go_wp2_with fail
   refine H_q.out.mono ?_
   rintro e w1 ⟨rfl, b1⟩
   have H_b1 := Lib.hid b1; clear b1
   go_wp2_with fail
   go_ret
   exact ⟨rfl, H_b1.out⟩
  ·have e : memZ a = false := by simp [memZ, h2]
   have h2' : decide (a < 2147483579) = false := by simpa using h2
   rw [e]; clear e
   go_enter Tryz.func52, Tryz.ntmps52
   go_wp2_with fail
   go_ret
   exact ⟨rfl, Below.refl _ _⟩
 ·have e : memZ a = false := by simp [memZ, h1]
  have h1' : decide (1 ≤ a) = false := by simpa using h1
  rw [e]; clear e
  go_enter Tryz.func52, Tryz.ntmps52
  go_wp2_with fail
  go_ret
  exact ⟨rfl, Below.refl _ _⟩
def chN (l : List Int) : Nat := (nextB 14695981039346656037 l % 1073741789).toNat
theorem chN_eq (l : List Int) : nextB 14695981039346656037 l % 1073741789 = (chN l : Int) := by
 unfold chN; have := nextB_in 14695981039346656037 l; omega
theorem chN_lt (l : List Int) : chN l < QQ := by
 have : QQ = 1073741789 := rfl
 have := chN_eq l; omega
theorem fit_two {a b : Int} {l : List Int} (ha : -9223372036854775808 ≤ a ∧ a ≤ 9223372036854775807) (hb : -9223372036854775808 ≤ b ∧ b ≤ 9223372036854775807) (hl : Fit l) : Fit (a :: b :: l) := fit_cons ha (fit_cons hb hl)
set_option maxHeartbeats 1000000 in
theorem challenge_any (a p : Int) (A : Option Addr) (c n : Nat) (l : List Int) (hln : l.length = n) (w : World) (ha : -9223372036854775808 ≤ a ∧ a ≤ 9223372036854775807) (hp : -9223372036854775808 ≤ p ∧ p ≤ 9223372036854775807) (hl : IntsAt w A .i64 l) (hn : n ≤ 100000) (hf : Fit l) (ht : Tab w) :
  Calls Tryz.prog 76 #[.int .i64 a, .int .i64 p, .slice A n c] w fun e w' => e = .returned (.int .i64 (chN (a :: p :: l) : Nat)) ∧ Below w.heap.size w w' := by
 obtain ⟨i0, hi, hz0, hz1, hz2⟩ := info_parts infoI64
 have q1 := digSum_val none 0 0 [] rfl _ sum_nil w IntsAt.nil (by omega) (by simp)
 have e1 := chN_eq (a :: p :: l)
 have e2 := nextB_in 14695981039346656037 (a :: p :: l)
 have q2 := fun W X x (h1 : IntsAt W X .i64 (a :: p :: l)) h2 => digNext_val 14695981039346656037 X x (2 + n) (a :: p :: l) (by simp [hln]; omega) _ rfl W (by omega) h1 (by omega) (fit_two ha hp hf) h2
 generalize nextB 14695981039346656037 (a :: p :: l) = N at *
 generalize chN (a :: p :: l) = C at *
 have e3 := e2.1; have e4 := e2.2
 have bb0 := Below.refl w.heap.size w
 have l0 := hl; have t0 := ht
 have ⟨H_q1, H_q2, H_e1, H_e2, H_bb0, H_hl, H_ht, H_hf⟩ := hid8 q1 q2 e1 e2 bb0 hl ht hf; clear q1 q2 e1 e2 bb0 hl ht hf; have ⟨H_ha, H_hp, H_l0, H_t0, H_hln⟩ := hid5 ha hp l0 t0 hln; clear ha hp l0 t0 hln
 go_enter Tryz.func76, Tryz.ntmps76
 go_wp2_with fail
 refine H_q1.out.mono ?_
 rintro e w1 ⟨rfl, b1⟩
 have s1 := b1.size
 (try simp only [World.size_alloc, World.heap_drewN, World.size_setCell, heap_drew] at s1)
 have bb1 := H_bb0.out.trans (b1.mono (by first | omega | (simp; omega)))
 have l1 := H_l0.out.below b1
 have t1 := H_t0.out.below b1
 have ⟨H_b1, H_bb1, H_l1, H_t1⟩ := hid4 b1 bb1 l1 t1; clear b1 bb1 l1 t1
 go_wp2_with (at_builtin; refine wp_app_at _ rfl (.tmp 10) (.tmp 11) _ rfl w1.heap.size 3 i0 _ 8 Tryz.underlying22 hi hz0 hz1 hz2 rfl .i64 (some ⟨w1.heap.size, 0, none⟩) 2 2 [a, p] rfl rfl (own_lit (w := w1) [a, p] (Nat.le_refl _) (by simp) _ rfl) A c n l H_hln.out rfl (H_l1.out.alloc _) (by omega) (by omega) (by simp) ?_)
 intro X x w2 ho2 hg2 hB2
 have b2 : Below w1.heap.size w1 w2 := (own_lit (w := w1) (k := .i64) [a, p] (Nat.le_refl _) (by simp) _ rfl).grow ((Below.refl _ _).alloc (Nat.le_refl _) _) hg2
 have s2 := b2.size
 have bb2 := H_bb1.out.trans (b2.mono s1)
 have q3 := H_q2.out w2 X x ho2.ints (H_t1.out.below b2)
 have ⟨H_ho2, H_hg2, H_hB2, H_b2, H_bb2, H_q3⟩ := hid6 ho2 hg2 hB2 b2 bb2 q3; clear ho2 hg2 hB2 b2 bb2 q3
 go_wp2_with fail
 refine H_q3.out.mono ?_
 rintro e w3 ⟨rfl, b3⟩
 have s3 := b3.size
 (try simp only [World.size_alloc, World.heap_drewN, World.size_setCell, heap_drew] at s3)
 have bb3 := H_bb2.out.trans (b3.mono (by first | omega | (simp; omega)))
 have ⟨H_b3, H_bb3⟩ := hid2 b3 bb3; clear b3 bb3
 go_wp2_with fail
 go_ret
 exact ⟨ret_int (by rw [← H_e1.out]), H_bb3.out⟩
def sigE (s o : Nat) (l : List Int) : Nat := chN ((pw 4 o PP : Nat) :: (pw 4 s PP : Nat) :: l)
def sigS (s o : Nat) (l : List Int) : Nat := (o + sigE s o l * s) % QQ
theorem sigE_lt (s o : Nat) (l : List Int) : sigE s o l < QQ := chN_lt _
theorem sigS_lt (s o : Nat) (l : List Int) : sigS s o l < QQ := Nat.mod_lt _ (by decide)
theorem pw_fit (a x : Nat) : -9223372036854775808 ≤ ((pw a x PP : Nat) : Int) ∧ ((pw a x PP : Nat) : Int) ≤ 9223372036854775807 := by
 have h : pw a x PP < PP := pw_lt (by decide)
 have : PP = 2147483579 := rfl
 omega
theorem set_same {w : World} {b o : Nat} {x : Value} (h : w.cell? ⟨b, o, none⟩ = some x) (v : Value) : (w.setCell ⟨b, o, none⟩ v).cell? ⟨b, o, none⟩ = some v := World.cell?_setCell_same _ _ _ h
theorem set_other {w : World} {b o o' : Nat} {x : Value} (h : w.cell? ⟨b, o, none⟩ = some x) (hne : o' ≠ o) (v : Value) : (w.setCell ⟨b, o', none⟩ v).cell? ⟨b, o, none⟩ = some x := by
 rw [World.cell?_setCell_other _ _ _ _ (fun e => by injection e with _ e2; exact hne e2)]; exact h
set_option maxHeartbeats 1000000 in
theorem signature_any (s o : Nat) (A : Option Addr) (c n : Nat) (l : List Int) (hln : l.length = n) (w : World) (hs : s < QQ) (ho : o < QQ) (hl : IntsAt w A .i64 l) (hn : n ≤ 100000) (hf : Fit l) (ht : Tab w) :
  Calls Tryz.prog 94 #[.int .i64 s, .int .i64 o, .slice A n c] w fun e w' => e = .returned (.agg #[.int .i64 (sigE s o l : Nat), .int .i64 (sigS s o l : Nat)]) ∧ Below w.heap.size w w' := by
 have hq : QQ = 1073741789 := rfl
 have q1 := fun W => power_any 4 o W (by decide) (by omega)
 have q2 := fun W => power_any 4 s W (by decide) (by omega)
 have q3 := fun W (h1 : IntsAt W A .i64 l) h2 => challenge_any (pw 4 o PP : Nat) (pw 4 s PP : Nat) A c n l hln W (pw_fit _ _) (pw_fit _ _) h1 hn hf h2
 change ∀ W, IntsAt W A .i64 l → Tab W → Calls _ _ _ W (fun e w' => e = .returned (.int .i64 (sigE s o l : Nat)) ∧ _) at q3
 have hE := sigE_lt s o l
 have hS : ((sigS s o l : Nat) : Int) = ((o : Int) + (sigE s o l : Int) * s) % 1073741789 := by
  rw [sigS, Int.natCast_emod, Int.natCast_add, Int.natCast_mul]; rfl
 generalize sigE s o l = E at *
 generalize sigS s o l = S at *
 have hm : E * s ≤ 1073741789 * 1073741789 := Nat.mul_le_mul (by omega) (by omega)
 have hm1 : (E : Int) * (s : Int) ≤ 1152921504606846976 := by
  have : ((E * s : Nat) : Int) ≤ 1152921504606846976 := by omega
  rwa [Int.natCast_mul] at this
 have hm0 : 0 ≤ (E : Int) * (s : Int) := Int.mul_nonneg (by omega) (by omega)
 generalize ((pw 4 o PP : Nat) : Int) = P1 at *
 generalize ((pw 4 s PP : Nat) : Int) = P2 at *
 have ho1 : o ≤ 1073741789 := by omega
 clear hm
 have ⟨H_q1, H_q2, H_q3, H_hl, H_ht, H_hf, H_hln, H_hS⟩ := hid8 q1 q2 q3 hl ht hf hln hS; clear q1 q2 q3 hl ht hf hln hS; have ⟨H_hE, H_hq⟩ := hid2 hE hq; clear hE hq
 go_enter Tryz.func94, Tryz.ntmps94
 go_wp2_with fail
 refine (H_q1.out _).mono ?_; rintro e w1 ⟨rfl, hbw1⟩
 have hsw1 := hbw1.size; (try simp only [World.size_alloc, World.heap_drewN, World.size_setCell, heap_drew] at hsw1)
 have gw1 : Below w.heap.size w w1 := belt
 have kw1x0x0 := keepc hbw1 (b := w.heap.size) (o := 0) omg (by go_simp; with_reducible rfl)
 have fw1x0x0 := keepf hbw1 (b := w.heap.size) (o := 0) omg (by go_simp)
 have kw1x0x1 := keepc hbw1 (b := w.heap.size) (o := 1) omg (by go_simp; with_reducible rfl)
 have fw1x0x1 := keepf hbw1 (b := w.heap.size) (o := 1) omg (by go_simp)
 have zw1x0 : w.heap.size < w1.heap.size := by omega
 have H_hbw1 := Lib.hid hbw1; clear hbw1
 go_wp2_with fail
 refine (H_q2.out _).mono ?_; rintro e w2 ⟨rfl, hbw2⟩
 have hsw2 := hbw2.size; (try simp only [World.size_alloc, World.heap_drewN, World.size_setCell, heap_drew] at hsw2)
 have gw2 : Below w.heap.size w w2 := belt
 have kw2x0x0 := keepc hbw2 (b := w.heap.size) (o := 0) omg (by go_simp; with_reducible rfl)
 have fw2x0x0 := keepf hbw2 (b := w.heap.size) (o := 0) omg (by go_simp)
 have kw2x0x1 := keepc hbw2 (b := w.heap.size) (o := 1) omg (by go_simp; with_reducible rfl)
 have fw2x0x1 := keepf hbw2 (b := w.heap.size) (o := 1) omg (by go_simp)
 have zw2x0 : w.heap.size < w2.heap.size := by omega
 have H_hbw2 := Lib.hid hbw2; clear hbw2
 clear gw1
 clear kw1x0x0
 clear fw1x0x0
 clear kw1x0x1
 clear fw1x0x1
 have q4 := H_q3.out w2 (H_hl.out.below gw2) (H_ht.out.below gw2)
 have H_q4 := Lib.hid q4; clear q4
 go_wp2_with fail
 refine (H_q4.out).mono ?_; rintro e w3 ⟨rfl, hbw3⟩
 have hsw3 := hbw3.size; (try simp only [World.size_alloc, World.heap_drewN, World.size_setCell, heap_drew] at hsw3)
 have gw3 : Below w.heap.size w w3 := belt
 have kw3x0x0 := keepc hbw3 (b := w.heap.size) (o := 0) omg (by go_simp; with_reducible rfl)
 have fw3x0x0 := keepf hbw3 (b := w.heap.size) (o := 0) omg (by go_simp)
 have kw3x0x1 := keepc hbw3 (b := w.heap.size) (o := 1) omg (by go_simp; with_reducible rfl)
 have fw3x0x1 := keepf hbw3 (b := w.heap.size) (o := 1) omg (by go_simp)
 have zw3x0 : w.heap.size < w3.heap.size := by omega
 have H_hbw3 := Lib.hid hbw3; clear hbw3
 clear gw2
 clear kw2x0x0
 clear fw2x0x0
 clear kw2x0x1
 clear fw2x0x1
 go_wp2_with fail
 have c0 := set_same kw3x0x0 (.int .i64 E)
 have c1 := set_same (set_other kw3x0x1 (o' := 0) (by omega) (.int .i64 E)) (.int .i64 (((o : Int) + (E : Int) * s) % 1073741789))
 refine bodyPost_ret (v := .agg #[.int .i64 E, .int .i64 (((o : Int) + (E : Int) * s) % 1073741789)]) (by simp [results, Tryz.results94, go_sem, c0, c1]) rfl ?_
 rw [H_hS.out]
 exact ⟨rfl, belt⟩
end Go.Proofs.YtoehobaigfmnpaaGreatDoor

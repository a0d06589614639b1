/- Contracts of package sign: within, power, Member, Exp, Public. -/
import Derived.Test.YtclgncaghiinhaaGreatDoorU2
import Derived.Test.YtclgncaghiinhaaGreatDoorU4
import Derived.Test.YtclgncaghiinhaaGreatDoorU12
set_option linter.unusedSimpArgs false
set_option linter.unusedVariables false
set_option maxRecDepth 100000
namespace Go.Proofs.YtclgncaghiinhaaGreatDoor
open Go.RowKit
section
open Go.RowKit Go.Maps
theorem cwrong_any (c : Crd) (hc : CFit c) (w : World) : Calls Tryz.prog 47 #[.agg c.cells.toArray] w fun e w' => e = .returned (.bool (!cvB c)) ∧ Below w.heap.size w w' := by
 have b1 : Below w.heap.size w (w.alloc (.cells c.cells.toArray 28)) := (Below.refl _ _).alloc (Nat.le_refl _) _
 have q := cvalid_any c hc (w.alloc (.cells c.cells.toArray 28))
 generalize cvB c = R at *
 unfold Crd.cells at q b1 ⊢
 have ⟨Hq, Hb1, Hhc⟩ := hid3 q b1 hc; clear q b1 hc
 go_enter Tryz.func47, Tryz.ntmps47
 go_wp2_with fail
 refine Hq.out.mono ?_
 rintro e w2 ⟨rfl, b2⟩
 have bb := Hb1.out.trans (b2.mono (by simp))
 have ⟨Hb2, Hbb⟩ := hid2 b2 bb; clear b2 bb
 go_wp2_with fail
 go_ret
 exact ⟨rfl, Hbb.out⟩
/-- the seven numbers that are signed -/
def Crd.msg (c : Crd) : List Int := [c.i, c.k, c.d, c.n, c.f, c.u, c.l]
theorem CFit.msg {c : Crd} (h : CFit c) : Fit c.msg := by
 intro x hx
 simp only [Crd.msg, List.mem_cons, List.not_mem_nil, or_false] at hx
 rcases hx with rfl | rfl | rfl | rfl | rfl | rfl | rfl
 ·exact h.i
 ·exact h.k
 ·exact h.d
 ·exact h.n
 ·exact h.f
 ·exact h.u
 ·exact h.l
def NewInts7 (l : List Int) (w : World) (e : Ending) (w' : World) : Prop := ∃ b, e = .returned (.slice (some ⟨b, 0, none⟩) 7 7) ∧ IntsAt w' (some ⟨b, 0, none⟩) .i64 l ∧ w.heap.size ≤ b ∧ Below w.heap.size w w'
set_option maxHeartbeats 1000000 in
theorem cmessage_any (c : Crd) (w : World) : Calls Tryz.prog 49 #[.agg c.cells.toArray] w (NewInts7 c.msg w) := by
 unfold Crd.cells Crd.msg
 go_enter Tryz.func49, Tryz.ntmps49
 go_wp2_with fail
 go_ret
 refine ⟨w.heap.size + 1, rfl, ?_, by omega, ((Below.refl _ _).alloc (Nat.le_refl _) _).alloc (by simp) _⟩
 exact ints_lit (w := w.alloc _) (E := 3) [c.i, c.k, c.d, c.n, c.f, c.u, c.l] _ (by simp)
/-- a card in its nine cells -/
def CdAt (_ : World) (cs : List Value) (c : Crd) : Prop := cs = c.cells ∧ CFit c
/-- a slice of cards -/
def Cards (w : World) (A : Option Addr) (l : List Crd) : Prop := RowsAt 9 CdAt w A l
theorem Cards.below {w w' : World} {A : Option Addr} {l : List Crd} (h : Cards w A l) (hb : Below w.heap.size w w') : Cards w' A l := RowsAt.below h (fun _ _ h => h) hb
/-- the nine cells of one -/
theorem Cards.at {w : World} {A : Option Addr} {l : List Crd} (h : Cards w A l) {i : Nat} {c : Crd} (hi : l[i]? = some c) : ∃ b off, A = some ⟨b, off, none⟩ ∧ b < w.heap.size ∧ CFit c ∧
  w.cell? ⟨b, off + i * 9, none⟩ = some (.int .i64 c.i) ∧ w.cell? ⟨b, off + i * 9 + 1, none⟩ = some (.int .i64 c.k) ∧ w.cell? ⟨b, off + i * 9 + 2, none⟩ = some (.int .i64 c.d) ∧ w.cell? ⟨b, off + i * 9 + 3, none⟩ = some (.int .i64 c.n) ∧ w.cell? ⟨b, off + i * 9 + 4, none⟩ = some (.int .i64 c.f) ∧
  w.cell? ⟨b, off + i * 9 + 5, none⟩ = some (.int .i64 c.u) ∧ w.cell? ⟨b, off + i * 9 + 6, none⟩ = some (.int .i64 c.l) ∧ w.cell? ⟨b, off + i * 9 + 7, none⟩ = some (.int .i64 c.e) ∧ w.cell? ⟨b, off + i * 9 + 8, none⟩ = some (.int .i64 c.s) := by
 obtain ⟨b, off, cs, e, hlt, hl, hc, rfl, hf⟩ := h i c hi
 refine ⟨b, off, e, hlt, hf, ?_, ?_, ?_, ?_, ?_, ?_, ?_, ?_, ?_⟩
 ·exact hc 0 (by omega)
 all_goals (rw [Nat.add_assoc])
 ·exact hc 1 (by omega)
 ·exact hc 2 (by omega)
 ·exact hc 3 (by omega)
 ·exact hc 4 (by omega)
 ·exact hc 5 (by omega)
 ·exact hc 6 (by omega)
 ·exact hc 7 (by omega)
 ·exact hc 8 (by omega)
/-- the first card that is not well-formed, from k on -/
theorem allV_drop {l : List Crd} {k : Nat} {c : Crd} (h : l[k]? = some c) : allV (l.drop k) = (cvB c && allV (l.drop (k + 1))) := by
 have hk : k < l.length := by
  rcases Nat.lt_or_ge k l.length with h1 | h1
  ·exact h1
  ·rw [List.getElem?_eq_none h1] at h; cases h
 rw [List.drop_eq_getElem_cons hk, allV, List.all_cons]
 have : l[k] = c := by rw [List.getElem?_eq_getElem hk] at h; exact Option.some.inj h
 rw [this]; rfl
/-- the index that is found -/
def IdxPost (ok : Bool) (w : World) (e : Ending) (w' : World) : Prop := ∃ i : Int, e = .returned (.int .i64 i) ∧ (decide (0 ≤ i)) = !ok ∧ -1 ≤ i ∧ i ≤ 9223372036854775807 ∧ Below w.heap.size w w'
end
def PP : Nat := 2147483579
def QQ : Nat := 1073741789
/-- square and multiply, by fuel -/
def mp (m : Nat) : Nat → Nat → Nat → Nat → Nat
 | 0, _, _, out => out
 | f + 1, a, x, out => if x = 0 then out else mp m f (a * a % m) (x / 2) (if x % 2 = 1 then out * a % m else out)
theorem pow_half (a x : Nat) : a ^ x = (a * a) ^ (x / 2) * (if x % 2 = 1 then a else 1) := by
 have h : x = 2 * (x / 2) + x % 2 := by omega
 conv => lhs; rw [h]
 rw [Nat.pow_add, Nat.pow_mul, Nat.pow_two]
 rcases (by omega : x % 2 = 0 ∨ x % 2 = 1) with h2 | h2 <;> simp [h2]
/-- one round keeps the product -/
theorem pow_round (m a x out : Nat) : ((if x % 2 = 1 then out * a % m else out) * (a * a % m) ^ (x / 2)) % m = out * a ^ x % m := by
 rw [pow_half a x]
 split
 ·rw [Nat.mul_mod, Nat.mod_mod, Nat.pow_mod, Nat.mod_mod, ← Nat.pow_mod, ← Nat.mul_mod]
  congr 1
  rw [Nat.mul_assoc, Nat.mul_comm a]
 ·rw [Nat.mul_mod, Nat.pow_mod, Nat.mod_mod, ← Nat.pow_mod, ← Nat.mul_mod, Nat.mul_one]
theorem mp_eq (m : Nat) : ∀ f a x out, x < 2 ^ f → mp m f a x out % m = out * a ^ x % m
  | 0, a, x, out, h => by have : x = 0 := by simpa using h
                          subst this; simp [mp]
  | f + 1, a, x, out, h => by
    rw [mp]
    by_cases h0 : x = 0
    · subst h0; simp
    · rw [if_neg h0, mp_eq m f _ _ _ (by rw [Nat.pow_succ] at h; omega), pow_round]
def pw (a x m : Nat) : Nat := a ^ x % m
theorem pw_lt {a x m : Nat} (h : 0 < m) : pw a x m < m := Nat.mod_lt _ h
theorem pw_mp {a x m : Nat} (f : Nat) (h : x < 2 ^ f) : pw a x m = mp m f a x 1 % m := by rw [mp_eq m f a x 1 h, Nat.one_mul]; rfl
theorem pw_pw (a x y m : Nat) : pw (pw a x m) y m = pw a (x * y) m := by
 simp only [pw]; rw [← Nat.pow_mod, Nat.pow_mul]
theorem pw_add (a x y m : Nat) : pw a (x + y) m = pw a x m * pw a y m % m := by
 simp only [pw]; rw [Nat.pow_add, Nat.mul_mod]
theorem pw_one_pow {m : Nat} (h : 1 < m) (x : Nat) : pw 1 x m = 1 := by simp [pw, Nat.mod_eq_of_lt h]
theorem pw_mod_exp {a q m : Nat} (hm : 1 < m) (h : pw a q m = 1) (x : Nat) : pw a (x % q) m = pw a x m := by
 have e : x = q * (x / q) + x % q := (Nat.div_add_mod x q).symm
 conv => rhs; rw [e]
 rw [pw_add, ← pw_pw, h, pw_one_pow hm, Nat.one_mul, pw, Nat.mod_mod]
theorem PP_gt : 1 < PP := by decide
theorem four_q : pw 4 QQ PP = 1 := by rw [pw_mp 31 (by decide)]; decide +kernel
/-- an element of the group -/
def memB (a : Nat) : Bool := decide (1 ≤ a) && decide (a < PP) && (pw a QQ PP == 1)
theorem memB_iff {a : Nat} : memB a = true ↔ 1 ≤ a ∧ a < PP ∧ pw a QQ PP = 1 := by simp [memB, and_assoc]
theorem mem_pw {a : Nat} (h : pw a QQ PP = 1) (x : Nat) : memB (pw a x PP) = true := by
 have h1 : pw (pw a x PP) QQ PP = 1 := by rw [pw_pw, Nat.mul_comm, ← pw_pw, h, pw_one_pow PP_gt]
 refine memB_iff.2 ⟨?_, pw_lt (by decide), h1⟩
 rcases Nat.eq_zero_or_pos (pw a x PP) with h0 | h0
 ·rw [h0, pw, Nat.zero_pow (by decide), Nat.zero_mod] at h1; omega
 ·exact h0
/-- what was signed is right -/
theorem back_right (s o e : Nat) (he : e < QQ) : pw 4 ((o + e * s) % QQ) PP * pw (pw 4 s PP) ((QQ - e) % QQ) PP % PP = pw 4 o PP := by
 have hs : pw (pw 4 s PP) QQ PP = 1 := (memB_iff.1 (mem_pw four_q s)).2.2
 rw [pw_mod_exp PP_gt four_q, pw_mod_exp PP_gt hs, pw_pw, ← pw_add]
 have : o + e * s + s * (QQ - e) = o + QQ * s := by
  have h1 : e * s + s * (QQ - e) = QQ * s := by
   rw [Nat.mul_comm e s, ← Nat.mul_add, Nat.add_sub_cancel' (Nat.le_of_lt he), Nat.mul_comm]
  omega
 rw [this, pw_add, ← pw_pw 4 QQ s, four_q, pw_one_pow PP_gt, Nat.mul_one, pw, Nat.mod_mod]
def wthB (n lo : Int) : Bool := decide (lo ≤ n) && decide (n < 1073741789)
theorem wthB_iff {n lo : Int} : wthB n lo = true ↔ lo ≤ n ∧ n < 1073741789 := by simp [wthB]
theorem within_any (n lo : Int) (w : World) : Calls Tryz.prog 81 #[.int .i64 n, .int .i64 lo] w fun e w' => e = .returned (.bool (wthB n lo)) ∧ w = w' := by
 by_cases h1 : lo ≤ n
 ·by_cases h2 : n < 1073741789
  ·have e : wthB n lo = true := wthB_iff.2 ⟨h1, h2⟩
   rw [e]; clear e
   go_enter Tryz.func81, Tryz.ntmps81
   go_wp2_with fail
   go_ret
   exact ⟨rfl, rfl⟩
  ·have e : wthB n lo = false := by simp [wthB, h2]
   have h2' : decide (n < 1073741789) = false := by simpa using h2
   rw [e]; clear e
   go_enter Tryz.func81, Tryz.ntmps81
   go_wp2_with fail
   go_ret
   exact ⟨rfl, rfl⟩
 ·have e : wthB n lo = false := by simp [wthB, h1]
  have h1' : decide (lo ≤ n) = false := by simpa using h1
  rw [e]; clear e
  go_enter Tryz.func81, Tryz.ntmps81
  go_wp2_with fail
  go_ret
  exact ⟨rfl, rfl⟩
theorem cast_mulmod (n b : Nat) : (n : Int) * (b : Int) % 2147483579 = ((n * b % PP : Nat) : Int) := by
 rw [Int.natCast_emod, Int.natCast_mul]; rfl
theorem mul_lt31 {n b : Nat} (hn : n < PP) (hb : b < PP) : (n : Int) * (b : Int) ≤ 4611686018427387904 := by
 have h : n * b ≤ 2147483579 * 2147483579 := Nat.mul_le_mul (Nat.le_of_lt hn) (Nat.le_of_lt hb)
 have : ((n * b : Nat) : Int) ≤ 4611686018427387904 := by omega
 rwa [Int.natCast_mul] at this
theorem times_any (g n b : Nat) (w : World) (hn : n < PP) (hb : b < PP) (hg : w.heap[g]? = some (.cells #[.int .i64 n] 3)) :
  Calls Tryz.prog 94 #[.pointer (some ⟨g, 0, none⟩), .int .i64 b] w fun e w' => e = .returned (.tuple #[]) ∧ w.grownBy w' (some g) ∧ w'.heap[g]? = some (.cells #[.int .i64 (n * b % PP : Nat)] 3) := by
 have hc := cell_of_one hg
 have hf := free_of_one hg
 have h0 : 0 ≤ (n : Int) * (b : Int) := Int.mul_nonneg (by omega) (by omega)
 have h1 := mul_lt31 hn hb
 have e := cast_mulmod n b
 have h2 := fun v => grown_set (grown_refl w (some g)) 0 v
 have h3 : ∀ v, (w.setCell ⟨g, 0, none⟩ v).heap[g]? = some (.cells #[v] 3) := fun v => one_setCell hg
 have ⟨Hhg, He, Hh2, Hh3⟩ := hid4 hg e h2 h3; clear hg e h2 h3
 go_enter Tryz.func94, Tryz.ntmps94
 go_wp2_with fail
 go_end0
 refine ⟨rfl, ?_, ?_⟩
 ·exact Hh2.out _
 ·rw [← He.out]; exact Hh3.out _
set_option maxHeartbeats 2000000 in
theorem power_any (a x : Nat) (w : World) (ha : a < PP) (hx : x ≤ 4611686018427387904) :
  Calls Tryz.prog 73 #[.int .i64 a, .int .i64 x] w fun e w' => e = .returned (.int .i64 (pw a x PP : Nat)) ∧ Below w.heap.size w w' := by
 have hpp : 1 < PP := PP_gt
 have hst : 1 * a ^ x % PP = pw a x PP := by rw [Nat.one_mul]; rfl
 generalize hR : pw a x PP = R at *
 have ⟨Hhst, HhR, Hha, Hhpp⟩ := hid4 hst hR ha hpp; clear hst hR ha hpp
 go_enter Tryz.func73, Tryz.ntmps73
 go_wp2_with fail
 go_loopw [1] (fun x wr => ∃ (X A O : Nat), x = .int .i64 X ∧ X ≤ 4611686018427387904 ∧ A < PP ∧ O < PP ∧ O * A ^ X % PP = R ∧ wr.heap[w.heap.size]? = some (.cells #[.int .i64 A] 3) ∧ wr.heap[w.heap.size + 1]? = some (.cells #[.int .i64 O] 3) ∧ Below w.heap.size w wr) (fun x _ => (intOf x).toNat)
 case atStart =>
  refine ⟨x, a, 1, rfl, hx, Hha.out, Hhpp.out, Hhst.out, ?_, ?_, ?_⟩
  ·exact blk_alloc (newAt rfl) _
  ·exact newAt (by simp)
  ·exact ((Below.refl _ _).alloc (Nat.le_refl _) _).alloc (by simp) _
 case round =>
  obtain ⟨X, A, O, rfl, hX, hA, hO, hinv, hgA, hgO, hbw⟩ := hrel
  have hc1 := cell_of_one hgA
  have hc2 := cell_of_one hgO
  by_cases h0 : X = 0
  ·have hR2 : O = R := by rw [h0, Nat.pow_zero, Nat.mul_one, Nat.mod_eq_of_lt hO] at hinv; exact hinv
   have t1 : ¬ (0 : Int) < (X : Int) := by omega
   have ⟨Hhinv, HhgA, HhgO, Hhbw, Hh0, HhR2, HhA, HhO⟩ := hid8 hinv hgA hgO hbw h0 hR2 hA hO; clear hinv hgA hgO hbw h0 hR2 hA hO
   go_wp2_with fail
   go_ret
   exact ⟨ret_int (by rw [HhR2.out]), Hhbw.out⟩
  ·have t1 : (0 : Int) < (X : Int) := by omega
   have hrd := pow_round PP A X O
   rw [hinv] at hrd
   have hA2 : A * A % PP < PP := Nat.mod_lt _ (by decide)
   have hO2 : O * A % PP < PP := Nat.mod_lt _ (by decide)
   have q1 := fun W h => times_any (w.heap.size + 1) O A W hO hA h
   have q2 := fun W h => times_any w.heap.size A A W hA hA h
   by_cases hodd : X % 2 = 1
   ·have t2 : ((X : Int) % 2 == 1) = true := by rw [beq_iff_eq]; omega
    rw [if_pos hodd] at hrd
    have ⟨Hhinv, HhgA, HhgO, Hhbw, Hh0, Hhrd, HhA2, HhO2⟩ := hid8 hinv hgA hgO hbw h0 hrd hA2 hO2; clear hinv hgA hgO hbw h0 hrd hA2 hO2; have ⟨Hq1, Hq2, HhA, HhO, Hhodd⟩ := hid5 q1 q2 hA hO hodd; clear q1 q2 hA hO hodd
    go_wp2_with fail
    refine (Hq1.out _ HhgO.out).mono ?_
    rintro e w1 ⟨rfl, g1, h1⟩
    have k1 := blk_grown g1 HhgA.out (by omega)
    have b1 : Below w.heap.size w w1 := Hhbw.out.trans (below_of_grown g1 Hhbw.out.size (by omega))
    have c1 := cell_of_one k1
    have ⟨Hg1, Hh1, Hk1, Hb1⟩ := hid4 g1 h1 k1 b1; clear g1 h1 k1 b1
    go_wp2_with fail
    refine (Hq2.out _ Hk1.out).mono ?_
    rintro e w2 ⟨rfl, g2, h2⟩
    have k2 := blk_grown g2 Hh1.out (by omega)
    have b2 : Below w.heap.size w w2 := Hb1.out.trans (below_of_grown g2 Hb1.out.size (by omega))
    have ⟨Hg2, Hh2, Hk2, Hb2⟩ := hid4 g2 h2 k2 b2; clear g2 h2 k2 b2
    go_wp2_with fail
    go_roundw
    case rel => exact ⟨X / 2, _, _, by go_num, by omega, HhA2.out, HhO2.out, Hhrd.out, Hh2.out, Hk2.out, Hb2.out⟩
    case measure => simp [intOf]; omega
   ·have t2 : ((X : Int) % 2 == 1) = false := by rw [beq_eq_false_iff_ne]; omega
    rw [if_neg hodd] at hrd
    have ⟨Hhinv, HhgA, HhgO, Hhbw, Hh0, Hhrd, HhA2, HhO2⟩ := hid8 hinv hgA hgO hbw h0 hrd hA2 hO2; clear hinv hgA hgO hbw h0 hrd hA2 hO2; have ⟨Hq1, Hq2, HhA, HhO, Hhodd⟩ := hid5 q1 q2 hA hO hodd; clear q1 q2 hA hO hodd
    go_wp2_with fail
    refine (Hq2.out _ HhgA.out).mono ?_
    rintro e w2 ⟨rfl, g2, h2⟩
    have k2 := blk_grown g2 HhgO.out (by omega)
    have b2 : Below w.heap.size w w2 := Hhbw.out.trans (below_of_grown g2 Hhbw.out.size (by omega))
    have ⟨Hg2, Hh2, Hk2, Hb2⟩ := hid4 g2 h2 k2 b2; clear g2 h2 k2 b2
    go_wp2_with fail
    go_roundw
    case rel => exact ⟨X / 2, _, _, by go_num, by omega, HhA2.out, HhO.out, Hhrd.out, Hh2.out, Hk2.out, Hb2.out⟩
    case measure => simp [intOf]; omega
/-- an integer is an element of the group -/
def memZ (a : Int) : Bool := decide (1 ≤ a) && decide (a < 2147483579) && (pw a.toNat QQ PP == 1)
theorem memZ_iff {a : Int} : memZ a = true ↔ 1 ≤ a ∧ a < 2147483579 ∧ pw a.toNat QQ PP = 1 := by simp [memZ, and_assoc]
theorem memZ_pw {s : Nat} : memZ ((pw 4 s PP : Nat) : Int) = true := by
 obtain ⟨h1, h2, h3⟩ := memB_iff.1 (mem_pw four_q s)
 have hp : PP = 2147483579 := rfl
 exact memZ_iff.2 ⟨by omega, by omega, by rw [Int.toNat_natCast]; exact h3⟩
theorem member_any (a : Int) (w : World) : Calls Tryz.prog 36 #[.int .i64 a] w fun e w' => e = .returned (.bool (memZ a)) ∧ Below w.heap.size w w' := by
 by_cases h1 : 1 ≤ a
 ·by_cases h2 : a < 2147483579
  ·obtain ⟨n, rfl⟩ := Int.eq_ofNat_of_zero_le (show 0 ≤ a by omega)
   have q := power_any n 1073741789 w (by unfold PP; omega) (by omega)
   have e : memZ (n : Int) = ((pw n QQ PP : Nat) == 1) := by simp [memZ, h1, h2]
   have e2 : (((pw n QQ PP : Nat) : Int) == 1) = ((pw n QQ PP : Nat) == 1) := by rw [Bool.eq_iff_iff, beq_iff_eq, beq_iff_eq]; omega
   rw [e]
   change Calls _ _ #[.int .i64 n, .int .i64 ((1073741789 : Nat) : Int)] w (fun e w' => e = .returned (.int .i64 (pw n QQ PP : Nat)) ∧ _) at q
   generalize ((pw n QQ PP : Nat) == 1) = Z at *
   generalize ((pw n QQ PP : Nat) : Int) = Y at *
   have ⟨Hq, He⟩ := hid2 q e; clear q e
   go_enter Tryz.func36, Tryz.ntmps36
   go_wp2_with fail
   refine Hq.out.mono ?_
   rintro e w1 ⟨rfl, b1⟩
   have Hb1 := Lib.hid b1; clear b1
   go_wp2_with fail
   go_ret
   exact ⟨rfl, Hb1.out⟩
  ·have e : memZ a = false := by simp [memZ, h2]
   have h2' : decide (a < 2147483579) = false := by simpa using h2
   rw [e]; clear e
   go_enter Tryz.func36, Tryz.ntmps36
   go_wp2_with fail
   go_ret
   exact ⟨rfl, Below.refl _ _⟩
 ·have e : memZ a = false := by simp [memZ, h1]
  have h1' : decide (1 ≤ a) = false := by simpa using h1
  rw [e]; clear e
  go_enter Tryz.func36, Tryz.ntmps36
  go_wp2_with fail
  go_ret
  exact ⟨rfl, Below.refl _ _⟩
end Go.Proofs.YtclgncaghiinhaaGreatDoor

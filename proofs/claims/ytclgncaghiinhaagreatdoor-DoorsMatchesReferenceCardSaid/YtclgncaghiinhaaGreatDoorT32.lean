/- Contracts of the reference of sign. -/
import Derived.Test.YtclgncaghiinhaaGreatDoorT16
import Derived.Test.YtclgncaghiinhaaGreatDoorT26
import Derived.Test.YtclgncaghiinhaaGreatDoorT28
import Derived.Test.YtclgncaghiinhaaGreatDoorT31
set_option linter.unusedSimpArgs false
set_option linter.unusedVariables false
set_option maxRecDepth 100000
namespace Go.Proofs.YtclgncaghiinhaaGreatDoor
open Go.RowKit
theorem left_s {l : Lk} {c : Crd} {t a : Int} (h : shE l c t a = 0) : (keepS (shR l c t a)).s = if shW l c = true ∧ 2 ≤ a then (keepS l).s + 1 else (keepS l).s := by
 obtain ⟨⟨h1, h2, h3, h4⟩, h6, h7, h9, hw⟩ := sh_ok h
 have hb := lv_best h1
 rw [shR, if_pos h]
 cases hW : shW l c with
 | false => simp only [Bool.false_eq_true, false_and, if_false]; rfl
 | true =>
  rw [shWE, if_pos hW] at hw
  simp only [if_true, true_and]
  have h2' : a < 2 ∨ 2 ≤ a := by omega
  rcases bestI_01 l.x l.y with hI | hI
  ·obtain ⟨e, sb, s2, s3⟩ := stays0 hw hb hI
   have ek : keepS l = l.x := by rw [keepS, if_neg (by omega)]
   rw [ek]
   rcases h2' with ha | ha
   ·rw [if_neg (by omega)]; simp only [keepS, e, s2 ha]; rw [if_neg (by omega)]
   ·obtain ⟨s4, _, s6⟩ := s3 ha
    rw [if_pos ha]; simp only [keepS, e, s4, if_true, s6]
  ·obtain ⟨e, sb, s2, s3⟩ := stays1 hw hb hI
   have ek : keepS l = l.y := by rw [keepS, if_pos hI]
   rw [ek]
   rcases h2' with ha | ha
   ·rw [if_neg (by omega)]; simp only [keepS, e, s2 ha, if_true]
   ·obtain ⟨s4, _, s6⟩ := s3 ha
    rw [if_pos ha]; simp only [keepS, e, s4]
    rw [if_neg (by omega), s6]
/-- two valid locks that keep the same -/
structure Leq (l m : Lk) : Prop where
 d : l.d = m.d
 k : l.k = m.k
 r : l.r = m.r
 v : lvB l = true
 v2 : lvB m = true
 s : (keepS l).s = (keepS m).s
 c : (keepS l).c = (keepS m).c
 l : (keepS l).l = (keepS m).l
theorem Leq.refl {l : Lk} (h : lvB l = true) : Leq l l := ⟨rfl, rfl, rfl, h, h, rfl, rfl, rfl⟩
theorem Leq.up {l m : Lk} (h : Leq l m) (u w : Bool) : Leq { l with up := u } { m with up := w } := ⟨h.d, h.k, h.r, h.v, h.v2, h.s, h.c, h.l⟩
/-- a card is shown to a lock that has power: the lock, and whether the door opened -/
def stp (l : Lk) (c : Crd) (t a : Int) : Lk × Bool := if shE { l with up := true } c t a = 0 then (shR { l with up := true } c t a, shO { l with up := true } c t a) else ({ l with up := true }, false)
theorem stp_v {l : Lk} {c : Crd} {t a : Int} (h : lvB l = true) : lvB (stp l c t a).1 = true := by
 unfold stp; split
 ·rename_i e; exact (left_of e).v
 ·exact h
/-- a showing: the lock, the card, the time, the moment -/
structure Shw where
 i : Nat
 j : Nat
 t : Int
 a : Int
def lkD (ls : List Lk) (i : Nat) : Lk := ls.getD i Lk.zero
def cdD (cs : List Crd) (j : Nat) : Crd := cs.getD j Crd.zero
/-- one showing -/
def oneS (cs : List Crd) (ls : List Lk) (s : Shw) : List Lk := ls.set s.i (stp (lkD ls s.i) (cdD cs s.j) s.t s.a).1
def oneO (cs : List Crd) (ls : List Lk) (s : Shw) : Bool := (stp (lkD ls s.i) (cdD cs s.j) s.t s.a).2
/-- the locks after showings, and which opened -/
def runS (cs : List Crd) : List Lk → List Shw → List Lk
 | ls, [] => ls
 | ls, s :: r => runS cs (oneS cs ls s) r
def runO (cs : List Crd) : List Lk → List Shw → List Bool
 | _, [] => []
 | ls, s :: r => oneO cs ls s :: runO cs (oneS cs ls s) r
theorem runS_append (cs : List Crd) : ∀ (ls : List Lk) (p q : List Shw), runS cs ls (p ++ q) = runS cs (runS cs ls p) q
 | _, [], _ => rfl
 | ls, s :: r, q => runS_append cs (oneS cs ls s) r q
theorem runO_append (cs : List Crd) : ∀ (ls : List Lk) (p q : List Shw), runO cs ls (p ++ q) = runO cs ls p ++ runO cs (runS cs ls p) q
 | _, [], _ => rfl
 | ls, s :: r, q => by rw [List.cons_append, runO, runO, runO_append cs _ r q, List.cons_append, runS]
theorem runS_len (cs : List Crd) : ∀ (ls : List Lk) (p : List Shw), (runS cs ls p).length = ls.length
 | _, [] => rfl
 | ls, s :: r => by rw [runS, runS_len cs _ r, oneS, List.length_set]
theorem runO_len (cs : List Crd) : ∀ (ls : List Lk) (p : List Shw), (runO cs ls p).length = p.length
 | _, [] => rfl
 | ls, s :: r => by rw [runO, List.length_cons, List.length_cons, runO_len cs _ r]
theorem lkD_set {ls : List Lk} {i k : Nat} {x : Lk} (hi : i < ls.length) : lkD (ls.set i x) k = if k = i then x else lkD ls k := by
 unfold lkD
 rw [List.getD_eq_getElem?_getD, List.getD_eq_getElem?_getD, List.getElem?_set]
 by_cases h : k = i
 ·subst h; simp [hi]
 ·rw [if_neg (fun e => h e.symm), if_neg h]
theorem oneS_at {cs : List Crd} {ls : List Lk} {s : Shw} (h : s.i < ls.length) (k : Nat) : lkD (oneS cs ls s) k = if k = s.i then (stp (lkD ls s.i) (cdD cs s.j) s.t s.a).1 else lkD ls k := lkD_set h
/-- all locks are valid, all showings are of these locks -/
def AllV (ls : List Lk) : Prop := ∀ k, k < ls.length → lvB (lkD ls k) = true
theorem oneS_v {cs : List Crd} {ls : List Lk} {s : Shw} (h : AllV ls) (hs : s.i < ls.length) : AllV (oneS cs ls s) := fun k hk => by
 rw [oneS, List.length_set] at hk
 rw [oneS_at hs]
 split
 ·exact stp_v (h s.i hs)
 ·exact h k hk
/-- two lists of locks that keep the same -/
def RLeq (ls ms : List Lk) : Prop := ls.length = ms.length ∧ ∀ k, k < ls.length → Leq (lkD ls k) (lkD ms k)
theorem RLeq.refl {ls : List Lk} (h : AllV ls) : RLeq ls ls := ⟨rfl, fun k hk => Leq.refl (h k hk)⟩
theorem beq_dec (a b : Int) : (a == b) = decide (a = b) := by rw [Bool.eq_iff_iff]; simp
def boolC (b : Bool) : List Value := [.bool b]
def BlAt (_ : World) (cs : List Value) (b : Bool) : Prop := cs = boolC b
/-- booleans in memory -/
def Bls (w : World) (A : Option Addr) (l : List Bool) : Prop := RowsAt 1 BlAt w A l
theorem Bls.below {w w' : World} {A : Option Addr} {l : List Bool} (h : Bls w A l) (hb : Below w.heap.size w w') : Bls w' A l := RowsAt.below h (fun _ _ h => h) hb
theorem Bls.at {w : World} {A : Option Addr} {l : List Bool} (h : Bls w A l) {i : Nat} {s : Bool} (hi : l[i]? = some s) : ∃ b off, A = some ⟨b, off, none⟩ ∧ b < w.heap.size ∧ w.cell? ⟨b, off + i, none⟩ = some (.bool s) := by
 obtain ⟨b, off, cs, e, hlt, hl, hc, rfl⟩ := h i s hi
 refine ⟨b, off, e, hlt, ?_⟩
 have := hc 0 (by omega)
 simpa [boolC] using this
/-- a showing in plain words -/
def Sh4.shw (s : Sh4) : Shw := ⟨s.a.toNat, s.b.toNat, s.c, s.d⟩
structure GoodS (nl nc : Nat) (s : Sh4) : Prop where
 a0 : 0 ≤ s.a
 a1 : s.a < nl
 b0 : 0 ≤ s.b
 b1 : s.b < nc
 d0 : 0 ≤ s.d
 d1 : s.d ≤ 3
 t : timeB s.c = true
theorem wrg_iff {nl nc : Nat} {s : Sh4} : wrgD s.a s.b s.c s.d nl nc = false ↔ GoodS nl nc s := by
 simp only [wrgD, withD, Bool.or_eq_false_iff, Bool.not_eq_false', Bool.and_eq_true, decide_eq_true_eq, and_true]
 constructor
 ·rintro ⟨⟨h1, h2, h3⟩, h4⟩
  exact ⟨h1.1, h1.2, h2.1, h2.2, h3.1, by omega, h4⟩
 ·rintro ⟨h1, h2, h3, h4, h5, h6, h7⟩
  exact ⟨⟨⟨h1, h2⟩, ⟨h3, h4⟩, h5, by omega⟩, h7⟩
theorem none_iff {nl nc : Nat} {l : List Sh4} : noneW nl nc l = true ↔ ∀ s ∈ l, GoodS nl nc s := by
 rw [noneW, List.all_eq_true]
 constructor
 ·intro h s hs; exact wrg_iff.1 (by simpa using h s hs)
 ·intro h s hs; rw [wrg_iff.2 (h s hs)]; rfl
/-- whether all are valid -/
def lksB (ls : List Lk) : Bool := ls.all lvB
theorem lks_iff {ls : List Lk} : lksB ls = true ↔ AllV ls := by
 rw [lksB, List.all_eq_true]
 constructor
 ·intro h k hk
  unfold lkD
  rw [List.getD_eq_getElem?_getD, List.getElem?_eq_getElem hk]
  exact h _ (List.getElem_mem hk)
 ·intro h l hl
  obtain ⟨k, hk, rfl⟩ := List.mem_iff_getElem.1 hl
  have := h k hk
  unfold lkD at this
  rw [List.getD_eq_getElem?_getD, List.getElem?_eq_getElem hk] at this
  exact this
/-- the error of a run (of no more than 500 showings) -/
def runB (ls : List Lk) (cs : List Crd) (ss : List Sh4) : Bool := lksB ls && cdsB cs && noneW ls.length cs.length ss
theorem run_good {ls : List Lk} {cs : List Crd} {ss : List Sh4} (h : runB ls cs ss = true) : AllV ls ∧ cdsB cs = true ∧ ∀ s ∈ ss, GoodS ls.length cs.length s := by
 simp only [runB, Bool.and_eq_true] at h
 exact ⟨lks_iff.1 h.1.1, h.1.2, none_iff.1 h.2⟩
def runL (ls : List Lk) (cs : List Crd) (ss : List Sh4) : List Lk := if runB ls cs ss = true then runS cs ls (ss.map Sh4.shw) else []
def runW (ls : List Lk) (cs : List Crd) (ss : List Sh4) : List Bool := if runB ls cs ss = true then runO cs ls (ss.map Sh4.shw) else []
def runN (ls : List Lk) (cs : List Crd) (ss : List Sh4) : Int := if runB ls cs ss = true then 0 else 1
/-- what a run returns -/
def RunRes (ls : List Lk) (os : List Bool) (E : Int) (w : World) (e : Ending) (w' : World) : Prop :=
 ∃ A c Ps O k, e = .returned (.tuple #[.slice A ls.length c, .slice O os.length k, .int .i64 E]) ∧ Ps.map LkP.L = ls ∧ Locks w' A Ps ∧ Bls w' O os ∧ ls.length ≤ c ∧ c ≤ maxLen ∧ Below w.heap.size w w'
theorem runRes_nil {E : Int} {w w' : World} (h : Below w.heap.size w w') : RunRes [] [] E w (.returned (.tuple #[.slice none 0 0, .slice none 0 0, .int .i64 E])) w' := ⟨none, 0, [], none, 0, rfl, rfl, RowsAt.nil, RowsAt.nil, Nat.le_refl _, Nat.zero_le _, h⟩
theorem cast_mod (n b m : Nat) : (n : Int) * (b : Int) % (m : Int) = ((n * b % m : Nat) : Int) := by rw [Int.natCast_emod, Int.natCast_mul]
theorem mul_le62 {n b m : Nat} (hm : m ≤ 2147483648) (hn : n < m) (hb : b < m) : 0 ≤ (n : Int) * (b : Int) ∧ (n : Int) * (b : Int) ≤ 4611686018427387904 := by
 have h : n * b ≤ 2147483648 * 2147483648 := Nat.mul_le_mul (by omega) (by omega)
 have : ((n * b : Nat) : Int) ≤ 4611686018427387904 := by omega
 rw [Int.natCast_mul] at this
 exact ⟨Int.mul_nonneg (by omega) (by omega), this⟩
set_option maxHeartbeats 2000000 in
theorem rpower_any (a x m : Nat) (w : World) (hm1 : 1 < m) (hm : m ≤ 2147483648) (ha : a < m) (hx : x ≤ 4611686018427387904) :
  Calls Tryz.prog 76 #[.int .i64 a, .int .i64 x, .int .i64 m] w fun e w' => e = .returned (.int .i64 (pw a x m : Nat)) ∧ w = w' := by
 have hst : 1 * a ^ x % m = pw a x m := by rw [Nat.one_mul]; rfl
 generalize hR : pw a x m = R at *
 have hmi : (0 : Int) < (m : Int) := by omega
 have hmz : ((m : Int) == 0) = false := by rw [beq_eq_false_iff_ne]; omega
 have ⟨Hhst, HhR, Hha⟩ := hid3 hst hR ha; clear hst hR ha
 go_enter Tryz.func76, Tryz.ntmps76
 go_wp2_with fail
 go_loop [0, 1, 7] (fun a x o => ∃ (X A O : Nat), a = .int .i64 A ∧ x = .int .i64 X ∧ o = .int .i64 O ∧ X ≤ 4611686018427387904 ∧ A < m ∧ O < m ∧ O * A ^ X % m = R) (fun _ x _ => (intOf x).toNat)
 case atStart => exact ⟨x, a, 1, rfl, rfl, rfl, hx, Hha.out, hm1, Hhst.out⟩
 case round =>
  obtain ⟨X, A, O, rfl, rfl, rfl, hX, hA, hO, hinv⟩ := hrel
  by_cases h0 : X = 0
  ·have hR2 : O = R := by rw [h0, Nat.pow_zero, Nat.mul_one, Nat.mod_eq_of_lt hO] at hinv; exact hinv
   have t1 : ¬ (0 : Int) < (X : Int) := by omega
   have ⟨Hhinv, Hh0, HhR2, HhA, HhO⟩ := hid5 hinv h0 hR2 hA hO; clear hinv h0 hR2 hA hO
   go_wp2_with fail
   go_ret
   exact ⟨ret_int (by rw [HhR2.out]), rfl⟩
  ·have t1 : (0 : Int) < (X : Int) := by omega
   have hrd := pow_round m A X O
   rw [hinv] at hrd
   have hA2 : A * A % m < m := Nat.mod_lt _ (by omega)
   have hO2 : O * A % m < m := Nat.mod_lt _ (by omega)
   have m1 := mul_le62 hm hA hA
   have m2 := mul_le62 hm hO hA
   have m3 := m1.1; have m4 := m1.2; have m5 := m2.1; have m6 := m2.2
   have e1 := cast_mod A A m
   have e2 := cast_mod O A m
   by_cases hodd : X % 2 = 1
   ·have t2 : ((X : Int) % 2 == 1) = true := by rw [beq_iff_eq]; omega
    rw [if_pos hodd] at hrd
    have ⟨Hhinv, Hh0, Hhrd, HhA2, HhO2, HhA, HhO, Hhodd⟩ := hid8 hinv h0 hrd hA2 hO2 hA hO hodd; clear hinv h0 hrd hA2 hO2 hA hO hodd; have ⟨Hm1, Hm2⟩ := hid2 m1 m2; clear m1 m2
    go_wp2_with fail
    go_round
    case rel => exact ⟨X / 2, A * A % m, O * A % m, rfl, by go_num, rfl, by omega, HhA2.out, HhO2.out, Hhrd.out⟩
    case measure => simp [intOf]; omega
   ·have t2 : ((X : Int) % 2 == 1) = false := by rw [beq_eq_false_iff_ne]; omega
    rw [if_neg hodd] at hrd
    have ⟨Hhinv, Hh0, Hhrd, HhA2, HhO2, HhA, HhO, Hhodd⟩ := hid8 hinv h0 hrd hA2 hO2 hA hO hodd; clear hinv h0 hrd hA2 hO2 hA hO hodd; have ⟨Hm1, Hm2⟩ := hid2 m1 m2; clear m1 m2
    go_wp2_with fail
    go_round
    case rel => exact ⟨X / 2, A * A % m, O, rfl, by go_num, rfl, by omega, HhA2.out, HhO.out, Hhrd.out⟩
    case measure => simp [intOf]; omega
theorem rExponent_any (n : Int) (w : World) : Calls Tryz.prog 51 #[.int .i64 n] w fun e w' => e = .returned (.bool (wthB n 0)) ∧ w = w' := by
 by_cases h1 : 0 ≤ n
 ·by_cases h2 : n < 1073741789
  ·have e : wthB n 0 = true := wthB_iff.2 ⟨h1, h2⟩
   rw [e]; clear e
   go_enter Tryz.func51, Tryz.ntmps51
   go_wp2_with fail
   go_ret
   exact ⟨rfl, rfl⟩
  ·have e : wthB n 0 = false := by simp [wthB, h2]
   have h2' : decide (n < 1073741789) = false := by simpa using h2
   rw [e]; clear e
   go_enter Tryz.func51, Tryz.ntmps51
   go_wp2_with fail
   go_ret
   exact ⟨rfl, rfl⟩
 ·have e : wthB n 0 = false := by simp [wthB, h1]
  have h1' : decide (0 ≤ n) = false := by simpa using h1
  rw [e]; clear e
  go_enter Tryz.func51, Tryz.ntmps51
  go_wp2_with fail
  go_ret
  exact ⟨rfl, rfl⟩
theorem rmember_any (a : Int) (w : World) : Calls Tryz.prog 40 #[.int .i64 a] w fun e w' => e = .returned (.bool (memZ a)) ∧ w = w' := by
 by_cases h1 : 1 ≤ a
 ·by_cases h2 : a < 2147483579
  ·obtain ⟨n, rfl⟩ := Int.eq_ofNat_of_zero_le (show 0 ≤ a by omega)
   have q := rpower_any n 1073741789 2147483579 w (by omega) (by omega) (by omega) (by omega)
   have e : memZ (n : Int) = ((pw n QQ PP : Nat) == 1) := by simp [memZ, h1, h2]
   have e2 : (((pw n QQ PP : Nat) : Int) == 1) = ((pw n QQ PP : Nat) == 1) := by rw [Bool.eq_iff_iff, beq_iff_eq, beq_iff_eq]; omega
   rw [e]
   change Calls _ _ #[.int .i64 n, .int .i64 ((1073741789 : Nat) : Int), .int .i64 ((2147483579 : Nat) : Int)] w (fun e w' => e = .returned (.int .i64 (pw n QQ PP : Nat)) ∧ _) at q
   generalize ((pw n QQ PP : Nat) == 1) = Z at *
   generalize ((pw n QQ PP : Nat) : Int) = Y at *
   have ⟨Hq, He⟩ := hid2 q e; clear q e
   go_enter Tryz.func40, Tryz.ntmps40
   go_wp2_with fail
   refine Hq.out.mono ?_
   rintro e w_ ⟨rfl, rfl⟩
   go_wp2_with fail
   go_ret
   exact ⟨rfl, rfl⟩
  ·have e : memZ a = false := by simp [memZ, h2]
   have h2' : decide (a < 2147483579) = false := by simpa using h2
   rw [e]; clear e
   go_enter Tryz.func40, Tryz.ntmps40
   go_wp2_with fail
   go_ret
   exact ⟨rfl, rfl⟩
 ·have e : memZ a = false := by simp [memZ, h1]
  have h1' : decide (1 ≤ a) = false := by simpa using h1
  rw [e]; clear e
  go_enter Tryz.func40, Tryz.ntmps40
  go_wp2_with fail
  go_ret
  exact ⟨rfl, rfl⟩
theorem rpowP (a x : Nat) (w : World) (ha : a < PP) (hx : x ≤ 4611686018427387904) :
  Calls Tryz.prog 76 #[.int .i64 a, .int .i64 x, .int .i64 2147483579] w fun e w' => e = .returned (.int .i64 (pw a x PP : Nat)) ∧ w = w' := rpower_any a x 2147483579 w (by omega) (by omega) ha hx
theorem rchal_any (A : Option Addr) (c n : Nat) (l : List Int) (hln : l.length = n) (w : World) (hl : IntsAt w A .i64 l) (hn : n ≤ 100000) (hf : Fit l) :
  Calls Tryz.prog 96 #[.slice A n c] w fun e w' => e = .returned (.int .i64 (chN l : Nat)) ∧ Below w.heap.size w w' := by
 have q1 := refSum_val none 0 0 [] rfl _ sum_nil w IntsAt.nil (by omega) (by simp)
 have e1 := chN_eq l
 have e2 := nextB_in 14695981039346656037 l
 have q2 := refNext_val 14695981039346656037 A c n l hln _ rfl w (by omega) hl (by omega) hf
 generalize nextB 14695981039346656037 l = N at *
 generalize chN l = C at *
 have e3 := e2.1; have e4 := e2.2
 have bb0 := Below.refl w.heap.size w
 have ⟨Hq1, Hq2, He1, He2, Hbb0, Hhl, Hhf, Hhln⟩ := hid8 q1 q2 e1 e2 bb0 hl hf hln; clear q1 q2 e1 e2 bb0 hl hf hln
 go_enter Tryz.func96, Tryz.ntmps96
 go_wp2_with fail
 refine Hq1.out.mono ?_
 rintro e w_ ⟨rfl, rfl⟩
 go_wp2_with fail
 refine Hq2.out.mono ?_
 rintro e w1 ⟨rfl, b1⟩
 have s1 := b1.size
 (try simp only [World.size_alloc, World.heap_drewN, World.size_setCell, heap_drew] at s1)
 have bb1 := Hbb0.out.trans (b1.mono (by first | omega | (simp; omega)))
 have ⟨Hb1, Hbb1⟩ := hid2 b1 bb1; clear b1 bb1
 go_wp2_with fail
 go_ret
 exact ⟨ret_int (by rw [← He1.out]), Hbb1.out⟩
/-- what a call that makes a list of integers leaves -/
def NewInts (l : List Int) (n : Nat) (w : World) (e : Ending) (w' : World) : Prop := ∃ B d, e = .returned (.slice B n d) ∧ IntsAt w' B .i64 l ∧ Below w.heap.size w w'
set_option maxHeartbeats 1000000 in
theorem rafter_any (a b : Int) (A : Option Addr) (c n : Nat) (l : List Int) (hln : l.length = n) (w : World) (hl : IntsAt w A .i64 l) (hn : n ≤ 100000) :
  Calls Tryz.prog 97 #[.int .i64 a, .int .i64 b, .slice A n c] w (NewInts (a :: b :: l) (2 + n) w) := by
 obtain ⟨i0, hi, hz0, hz1, hz2⟩ := info_parts infoI64
 have o0 := own_lit (w := w) (k := .i64) (E := 3) [a, b] (Nat.le_refl _) (by simp) _ rfl
 have b0 : Below w.heap.size w (w.alloc (.cells #[.int .i64 a, .int .i64 b] 3)) := (Below.refl _ _).alloc (Nat.le_refl _) _
 have ⟨Hhl, Hhln, Ho0, Hb0⟩ := hid4 hl hln o0 b0; clear hl hln o0 b0
 go_enter Tryz.func97, Tryz.ntmps97
 go_wp2_with fail
 go_loopw [7, 8] (fun v i wr => ∃ (k : Nat) (B : Option Addr) (d : Nat), k ≤ n ∧ i = .int .i64 k ∧ v = .slice B (2 + k) d ∧ OwnInts wr w.heap.size 3 .i64 B d (a :: b :: l.take k) ∧ Below w.heap.size w wr) (fun _ i _ => n - (intOf i).toNat)
 case atStart => exact ⟨0, _, _, by omega, rfl, rfl, Ho0.out, Hb0.out⟩
 case round =>
  obtain ⟨k, B, d, hk, rfl, rfl, ho, hbw⟩ := hrel
  have hsz := hbw.size
  by_cases hlt : k < n
  ·obtain ⟨g, off, hA, hbs, hc⟩ := (Hhl.out.below hbw) k (by rw [Hhln.out]; exact hlt)
   have hsn := take_snocD l k 0 (by rw [Hhln.out]; exact hlt)
   have hll : (a :: b :: l.take k).length = 2 + k := by simp [Hhln.out]; omega
   generalize l.getD k 0 = x at *
   have i1 : (0 : Int) ≤ (k : Int) := by omega
   have i2 : (k : Int) < (n : Int) := by omega
   subst hA
   have ⟨Hho, Hhbw, Hhsn, Hhll⟩ := hid4 ho hbw hsn hll; clear ho hbw hsn hll
   go_wp2_with (at_builtin; refine wp_app_at _ rfl (.tmp 18) (.tmp 23) _ rfl w.heap.size 3 i0 _ 8 Tryz.underlying42 hi hz0 hz1 hz2 rfl .i64 B d (2 + k) (a :: b :: l.take k) Hhll.out rfl (Hho.out.alloc _) (some ⟨wr.heap.size, 0, none⟩) 1 1 [x] rfl rfl (ints_new1 _ _ _ _ _ rfl) ?_ ?_ ?_ ?_)
   ·omega
   ·omega
   ·simp; omega
   intro B2 d2 w2 ho2 hg2 hB2
   have hb2 := (Hho.out.alloc (.cells #[.int .i64 x] 3)).grow (Hhbw.out.alloc hsz _) hg2
   have ⟨Hho2, Hhg2, HhB2, Hhb2⟩ := hid4 ho2 hg2 hB2 hb2; clear ho2 hg2 hB2 hb2
   go_wp2_with fail
   go_roundw
   case rel => exact ⟨k + 1, B2, d2, by omega, by go_num, by congr 1, by rw [Hhsn.out]; exact Hho2.out, Hhb2.out⟩
   case measure => simp [intOf]; omega
  ·have hall : l.take k = l := List.take_of_length_le (by rw [Hhln.out]; omega)
   rw [hall] at ho
   have i2 : ¬ (k : Int) < (n : Int) := by omega
   have hkn : k = n := by omega
   have hoi := ho.ints
   have ⟨Hho, Hhbw, Hhall, Hhkn, Hhoi⟩ := hid5 ho hbw hall hkn hoi; clear ho hbw hall hkn hoi
   go_wp2_with fail
   go_ret
   exact ⟨B, d, ret_slice (by rw [Hhkn.out]), Hhoi.out, Hhbw.out⟩
end Go.Proofs.YtclgncaghiinhaaGreatDoor

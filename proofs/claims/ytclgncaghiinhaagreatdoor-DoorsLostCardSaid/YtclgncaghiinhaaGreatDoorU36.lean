/- Contracts of the reference of locks: fields, Valid, Same of one lock, Few. -/
import Derived.BigGuardPart
import Derived.Test.YtclgncaghiinhaaGreatDoorU8
import Derived.Test.YtclgncaghiinhaaGreatDoorU10
import Derived.Test.YtclgncaghiinhaaGreatDoorU14
import Derived.Test.YtclgncaghiinhaaGreatDoorU16
import Derived.Test.YtclgncaghiinhaaGreatDoorU21
import Derived.Test.YtclgncaghiinhaaGreatDoorU28
import Derived.Test.YtclgncaghiinhaaGreatDoorU31
import Derived.Test.YtclgncaghiinhaaGreatDoorU35
set_option linter.unusedSimpArgs false
set_option linter.unusedVariables false
set_option maxRecDepth 100000
namespace Go.Proofs.YtclgncaghiinhaaGreatDoor
open Go.RowKit
theorem left_s {l : Lk} {c : Crd} {t a : Int} (h : shE l c t a = 0) : (keepS (shR l c t a)).s = if shW l c = true ∧ 2 ≤ a then (keepS l).s + 1 else (keepS l).s := by
 obtain ⟨⟨h1, h2, h3, h4⟩, h6, h7, h9, hw⟩ := sh_ok h
 have hb := lv_best h1
 rw [shR, if_pos h]
 cases hW : shW l c with
 | false => simp only [Bool.false_eq_true, false_and, if_false]; rfl
 | true =>
  rw [shWE, if_pos hW] at hw
  simp only [if_true, true_and]
  have h2' : a < 2 ∨ 2 ≤ a := by omega
  rcases bestI_01 l.x l.y with hI | hI
  ·obtain ⟨e, sb, s2, s3⟩ := stays0 hw hb hI
   have ek : keepS l = l.x := by rw [keepS, if_neg (by omega)]
   rw [ek]
   rcases h2' with ha | ha
   ·rw [if_neg (by omega)]; simp only [keepS, e, s2 ha]; rw [if_neg (by omega)]
   ·obtain ⟨s4, _, s6⟩ := s3 ha
    rw [if_pos ha]; simp only [keepS, e, s4, if_true, s6]
  ·obtain ⟨e, sb, s2, s3⟩ := stays1 hw hb hI
   have ek : keepS l = l.y := by rw [keepS, if_pos hI]
   rw [ek]
   rcases h2' with ha | ha
   ·rw [if_neg (by omega)]; simp only [keepS, e, s2 ha, if_true]
   ·obtain ⟨s4, _, s6⟩ := s3 ha
    rw [if_pos ha]; simp only [keepS, e, s4]
    rw [if_neg (by omega), s6]
/-- two valid locks that keep the same -/
structure Leq (l m : Lk) : Prop where
 d : l.d = m.d
 k : l.k = m.k
 r : l.r = m.r
 v : lvB l = true
 v2 : lvB m = true
 s : (keepS l).s = (keepS m).s
 c : (keepS l).c = (keepS m).c
 l : (keepS l).l = (keepS m).l
theorem Leq.refl {l : Lk} (h : lvB l = true) : Leq l l := ⟨rfl, rfl, rfl, h, h, rfl, rfl, rfl⟩
theorem Leq.up {l m : Lk} (h : Leq l m) (u w : Bool) : Leq { l with up := u } { m with up := w } := ⟨h.d, h.k, h.r, h.v, h.v2, h.s, h.c, h.l⟩
/-- a card is shown to a lock that has power: the lock, and whether the door opened -/
def stp (l : Lk) (c : Crd) (t a : Int) : Lk × Bool := if shE { l with up := true } c t a = 0 then (shR { l with up := true } c t a, shO { l with up := true } c t a) else ({ l with up := true }, false)
theorem stp_v {l : Lk} {c : Crd} {t a : Int} (h : lvB l = true) : lvB (stp l c t a).1 = true := by
 unfold stp; split
 ·rename_i e; exact (left_of e).v
 ·exact h
theorem stp_lost {l : Lk} {c : Crd} {t a x : Int} (h : x ∈ (keepS l).l) : x ∈ (keepS (stp l c t a).1).l := by
 unfold stp; split
 ·rename_i e
  have := lost_stays e (x := x) (by rw [keep_up]; exact h)
  exact this
 ·simp only [keep_up]; exact h
/-- a door that opens for a guest's card: no lesser Counter was kept, and this one is kept from then on -/
theorem stp_guest {l : Lk} {c : Crd} {t a : Int} (h : (stp l c t a).2 = true) : a = 3 ∧ (c.k = 1 → (keepS l).c ≤ c.n ∧ c.n ≤ (keepS (stp l c t a).1).c) ∧ ¬ c.i ∈ (keepS l).l := by
 unfold stp at h ⊢
 split at h
 ·rename_i e
  rw [if_pos e]
  simp only at h ⊢
  rw [shO, if_pos e, Bool.and_eq_true, decide_eq_true_eq] at h
  obtain ⟨_, _, _, h9, _⟩ := sh_ok e
  have x := acc_iff.1 h9
  refine ⟨h.1, fun hk => ⟨x.2.2.2 hk, ?_⟩, x.2.2.1⟩
  rw [((left_of e).new (by omega)).1, aftC, if_pos hk]; omega
 ·cases h
/-- a showing: the lock, the card, the time, the moment -/
structure Shw where
 i : Nat
 j : Nat
 t : Int
 a : Int
def lkD (ls : List Lk) (i : Nat) : Lk := ls.getD i Lk.zero
def cdD (cs : List Crd) (j : Nat) : Crd := cs.getD j Crd.zero
/-- one showing -/
def oneS (cs : List Crd) (ls : List Lk) (s : Shw) : List Lk := ls.set s.i (stp (lkD ls s.i) (cdD cs s.j) s.t s.a).1
def oneO (cs : List Crd) (ls : List Lk) (s : Shw) : Bool := (stp (lkD ls s.i) (cdD cs s.j) s.t s.a).2
/-- the locks after showings, and which opened -/
def runS (cs : List Crd) : List Lk → List Shw → List Lk
 | ls, [] => ls
 | ls, s :: r => runS cs (oneS cs ls s) r
def runO (cs : List Crd) : List Lk → List Shw → List Bool
 | _, [] => []
 | ls, s :: r => oneO cs ls s :: runO cs (oneS cs ls s) r
theorem runS_append (cs : List Crd) : ∀ (ls : List Lk) (p q : List Shw), runS cs ls (p ++ q) = runS cs (runS cs ls p) q
 | _, [], _ => rfl
 | ls, s :: r, q => runS_append cs (oneS cs ls s) r q
theorem runO_append (cs : List Crd) : ∀ (ls : List Lk) (p q : List Shw), runO cs ls (p ++ q) = runO cs ls p ++ runO cs (runS cs ls p) q
 | _, [], _ => rfl
 | ls, s :: r, q => by rw [List.cons_append, runO, runO, runO_append cs _ r q, List.cons_append, runS]
theorem runS_len (cs : List Crd) : ∀ (ls : List Lk) (p : List Shw), (runS cs ls p).length = ls.length
 | _, [] => rfl
 | ls, s :: r => by rw [runS, runS_len cs _ r, oneS, List.length_set]
theorem runO_len (cs : List Crd) : ∀ (ls : List Lk) (p : List Shw), (runO cs ls p).length = p.length
 | _, [] => rfl
 | ls, s :: r => by rw [runO, List.length_cons, List.length_cons, runO_len cs _ r]
theorem lkD_set {ls : List Lk} {i k : Nat} {x : Lk} (hi : i < ls.length) : lkD (ls.set i x) k = if k = i then x else lkD ls k := by
 unfold lkD
 rw [List.getD_eq_getElem?_getD, List.getD_eq_getElem?_getD, List.getElem?_set]
 by_cases h : k = i
 ·subst h; simp [hi]
 ·rw [if_neg (fun e => h e.symm), if_neg h]
theorem oneS_at {cs : List Crd} {ls : List Lk} {s : Shw} (h : s.i < ls.length) (k : Nat) : lkD (oneS cs ls s) k = if k = s.i then (stp (lkD ls s.i) (cdD cs s.j) s.t s.a).1 else lkD ls k := lkD_set h
/-- all locks are valid, all showings are of these locks -/
def AllV (ls : List Lk) : Prop := ∀ k, k < ls.length → lvB (lkD ls k) = true
theorem oneS_v {cs : List Crd} {ls : List Lk} {s : Shw} (h : AllV ls) (hs : s.i < ls.length) : AllV (oneS cs ls s) := fun k hk => by
 rw [oneS, List.length_set] at hk
 rw [oneS_at hs]
 split
 ·exact stp_v (h s.i hs)
 ·exact h k hk
/-- two lists of locks that keep the same -/
def RLeq (ls ms : List Lk) : Prop := ls.length = ms.length ∧ ∀ k, k < ls.length → Leq (lkD ls k) (lkD ms k)
theorem RLeq.refl {ls : List Lk} (h : AllV ls) : RLeq ls ls := ⟨rfl, fun k hk => Leq.refl (h k hk)⟩
theorem beq_dec (a b : Int) : (a == b) = decide (a = b) := by rw [Bool.eq_iff_iff]; simp
def boolC (b : Bool) : List Value := [.bool b]
def BlAt (_ : World) (cs : List Value) (b : Bool) : Prop := cs = boolC b
/-- booleans in memory -/
def Bls (w : World) (A : Option Addr) (l : List Bool) : Prop := RowsAt 1 BlAt w A l
theorem Bls.below {w w' : World} {A : Option Addr} {l : List Bool} (h : Bls w A l) (hb : Below w.heap.size w w') : Bls w' A l := RowsAt.below h (fun _ _ h => h) hb
theorem Bls.at {w : World} {A : Option Addr} {l : List Bool} (h : Bls w A l) {i : Nat} {s : Bool} (hi : l[i]? = some s) : ∃ b off, A = some ⟨b, off, none⟩ ∧ b < w.heap.size ∧ w.cell? ⟨b, off + i, none⟩ = some (.bool s) := by
 obtain ⟨b, off, cs, e, hlt, hl, hc, rfl⟩ := h i s hi
 refine ⟨b, off, e, hlt, ?_⟩
 have := hc 0 (by omega)
 simpa [boolC] using this
/-- a showing in plain words -/
def Sh4.shw (s : Sh4) : Shw := ⟨s.a.toNat, s.b.toNat, s.c, s.d⟩
structure GoodS (nl nc : Nat) (s : Sh4) : Prop where
 a0 : 0 ≤ s.a
 a1 : s.a < nl
 b0 : 0 ≤ s.b
 b1 : s.b < nc
 d0 : 0 ≤ s.d
 d1 : s.d ≤ 3
 t : timeB s.c = true
theorem wrg_iff {nl nc : Nat} {s : Sh4} : wrgD s.a s.b s.c s.d nl nc = false ↔ GoodS nl nc s := by
 simp only [wrgD, withD, Bool.or_eq_false_iff, Bool.not_eq_false', Bool.and_eq_true, decide_eq_true_eq, and_true]
 constructor
 ·rintro ⟨⟨h1, h2, h3⟩, h4⟩
  exact ⟨h1.1, h1.2, h2.1, h2.2, h3.1, by omega, h4⟩
 ·rintro ⟨h1, h2, h3, h4, h5, h6, h7⟩
  exact ⟨⟨⟨h1, h2⟩, ⟨h3, h4⟩, h5, by omega⟩, h7⟩
theorem none_iff {nl nc : Nat} {l : List Sh4} : noneW nl nc l = true ↔ ∀ s ∈ l, GoodS nl nc s := by
 rw [noneW, List.all_eq_true]
 constructor
 ·intro h s hs; exact wrg_iff.1 (by simpa using h s hs)
 ·intro h s hs; rw [wrg_iff.2 (h s hs)]; rfl
/-- whether all are valid -/
def lksB (ls : List Lk) : Bool := ls.all lvB
theorem lks_iff {ls : List Lk} : lksB ls = true ↔ AllV ls := by
 rw [lksB, List.all_eq_true]
 constructor
 ·intro h k hk
  unfold lkD
  rw [List.getD_eq_getElem?_getD, List.getElem?_eq_getElem hk]
  exact h _ (List.getElem_mem hk)
 ·intro h l hl
  obtain ⟨k, hk, rfl⟩ := List.mem_iff_getElem.1 hl
  have := h k hk
  unfold lkD at this
  rw [List.getD_eq_getElem?_getD, List.getElem?_eq_getElem hk] at this
  exact this
/-- the error of a run (of no more than 500 showings) -/
def runB (ls : List Lk) (cs : List Crd) (ss : List Sh4) : Bool := lksB ls && cdsB cs && noneW ls.length cs.length ss
theorem run_good {ls : List Lk} {cs : List Crd} {ss : List Sh4} (h : runB ls cs ss = true) : AllV ls ∧ cdsB cs = true ∧ ∀ s ∈ ss, GoodS ls.length cs.length s := by
 simp only [runB, Bool.and_eq_true] at h
 exact ⟨lks_iff.1 h.1.1, h.1.2, none_iff.1 h.2⟩
def runL (ls : List Lk) (cs : List Crd) (ss : List Sh4) : List Lk := if runB ls cs ss = true then runS cs ls (ss.map Sh4.shw) else []
def runW (ls : List Lk) (cs : List Crd) (ss : List Sh4) : List Bool := if runB ls cs ss = true then runO cs ls (ss.map Sh4.shw) else []
def runN (ls : List Lk) (cs : List Crd) (ss : List Sh4) : Int := if runB ls cs ss = true then 0 else 1
/-- what a run returns -/
def RunRes (ls : List Lk) (os : List Bool) (E : Int) (w : World) (e : Ending) (w' : World) : Prop :=
 ∃ A c Ps O k, e = .returned (.tuple #[.slice A ls.length c, .slice O os.length k, .int .i64 E]) ∧ Ps.map LkP.L = ls ∧ Locks w' A Ps ∧ Bls w' O os ∧ ls.length ≤ c ∧ c ≤ maxLen ∧ Below w.heap.size w w'
theorem runRes_nil {E : Int} {w w' : World} (h : Below w.heap.size w w') : RunRes [] [] E w (.returned (.tuple #[.slice none 0 0, .slice none 0 0, .int .i64 E])) w' := ⟨none, 0, [], none, 0, rfl, rfl, RowsAt.nil, RowsAt.nil, Nat.le_refl _, Nat.zero_le _, h⟩
theorem rExponent_any (n : Int) (w : World) : Calls Tryz.prog 51 #[.int .i64 n] w fun e w' => e = .returned (.bool (wthB n 0)) ∧ w = w' := by
 by_cases h1 : 0 ≤ n
 ·by_cases h2 : n < 1073741789
  ·have e : wthB n 0 = true := wthB_iff.2 ⟨h1, h2⟩
   rw [e]; clear e
   go_enter Tryz.func51, Tryz.ntmps51
   go_wp2_with fail
   go_ret
   exact ⟨rfl, rfl⟩
  ·have e : wthB n 0 = false := by simp [wthB, h2]
   have h2' : decide (n < 1073741789) = false := by simpa using h2
   rw [e]; clear e
   go_enter Tryz.func51, Tryz.ntmps51
   go_wp2_with fail
   go_ret
   exact ⟨rfl, rfl⟩
 ·have e : wthB n 0 = false := by simp [wthB, h1]
  have h1' : decide (0 ≤ n) = false := by simpa using h1
  rw [e]; clear e
  go_enter Tryz.func51, Tryz.ntmps51
  go_wp2_with fail
  go_ret
  exact ⟨rfl, rfl⟩
set_option maxHeartbeats 4000000 in
theorem rlfew_any (l : Lk) (A : Option Addr) (n p : Nat) (B : Option Addr) (m q : Nat) (w : World) (hn : n ≤ 9223372036854775807) (hm : m ≤ 9223372036854775807) :
  Calls Tryz.prog 22 #[.agg (l.cells A n p B m q).toArray] w fun e w' => e = .returned (.bool (len40B n && len40B m)) ∧ Below w.heap.size w w' := by
 obtain ⟨w0, hw0⟩ : ∃ W, w.alloc (.cells (l.cells A n p B m q).toArray 48) = W := ⟨_, rfl⟩
 have bb0 : Below w.heap.size w w0 := by rw [← hw0]; exact (Below.refl _ _).alloc (Nat.le_refl _) _
 have k0 : Blk w0 w.heap.size (l.cells A n p B m q).toArray := by rw [← hw0]; exact blk_new rfl
 have q1 := rfew_any l.x.s l.x.c l.x.u l.y.s l.y.c l.y.u A n p B m q w0 hn hm
 generalize (len40B n && len40B m) = T at *
 unfold Lk.cells at k0 hw0 ⊢
 have ⟨Hbb0, Hk0, Hhw0, Hq1⟩ := hid4 bb0 k0 hw0 q1; clear bb0 k0 hw0 q1
 go_enter Tryz.func22, Tryz.ntmps22
 go_wp2_with fail
 rw [Hhw0.out]
 obtain ⟨y0, y1, y2, y3, y4, y5, y6, y7, y8, y9, y10, y11⟩ := at12_of Hk0.out
 go_wp2_with fail
 (with_reducible refine (Hq1.out).mono ?_)
 rintro e w1 ⟨rfl, b1⟩
 have c1 : Below w0.heap.size w0 w1 := Below.trans belt (b1.mono omh)
 have s1 := c1.size
 have bb1 := Hbb0.out.trans (c1.mono Hbb0.out.size)
 have ⟨Hb1, Hc1, Hbb1⟩ := hid3 b1 c1 bb1; clear b1 c1 bb1
 clear y0 y1 y2 y3 y4 y5 y6 y7 y8 y9 y10 y11
 go_wp2_with fail
 go_ret
 exact ⟨rfl, Hbb1.out⟩
end Go.Proofs.YtclgncaghiinhaaGreatDoor

/- Journals in plain Lean: messages, chains, heads, what is right. -/
import Derived.Lib.AppendStr
import Derived.Test.YtmbmejclnagffaaDoorM10
import Derived.Test.YtmbmejclnagffaaDoorM18
set_option linter.unusedSimpArgs false
set_option linter.unusedVariables false
set_option maxRecDepth 100000
namespace Go.Proofs.YtmbmejclnagffaaDoor
open Go.RowKit
/-- a message, with the place of its integers -/
structure Msg where
  p : Int
  s : Int
  t : Int
  k : Int
  A : Option Addr
  c : Nat
  a : List Int
def Msg.cells (m : Msg) : List Value := [.int .i64 m.p, .int .i64 m.s, .int .i64 m.t, .int .i64 m.k, .slice m.A m.a.length m.c]
/-- the integers of a message -/
def msI (m : Msg) : List Int := m.p :: m.s :: m.t :: m.k :: m.a
def inJ (n lo hi : Int) : Bool := decide (lo ≤ n) && decide (n ≤ hi)
theorem inJ_iff {n lo hi : Int} : inJ n lo hi = true ↔ lo ≤ n ∧ n ≤ hi := by simp [inJ]
def ptyB (n : Int) : Bool := decide (1000 ≤ n) && decide (n < 5000)
theorem ptyB_iff {n : Int} : ptyB n = true ↔ 1000 ≤ n ∧ n < 5000 := by simp [ptyB]
theorem pty_div (n : Int) : inJ (n.tdiv 1000) 1 4 = ptyB n := by
  rw [Bool.eq_iff_iff, inJ_iff, ptyB_iff]
  by_cases h : 0 ≤ n
  · rw [Int.tdiv_eq_ediv_of_nonneg h]; omega
  · have h2 : 0 ≤ (-n).tdiv 1000 := Int.tdiv_nonneg (by omega) (by omega)
    rw [Int.neg_tdiv] at h2
    omega
/-- the number of integers of each kind -/
def cntL : List Int := [0, 7, 1, 3, 3, 4, 3, 2, 6, 4]
def cntI (k : Int) : Int := cntL.getD k.toNat 0
def argB (x : Int) : Bool := inJ x 0 1000000000
def msgB (m : Msg) : Bool := ptyB m.p && inJ m.s 1 5000 && argB m.t && inJ m.k 1 9 && decide ((m.a.length : Int) = cntI m.k) && m.a.all argB
theorem msgB_iff {m : Msg} : msgB m = true ↔ ptyB m.p = true ∧ (1 ≤ m.s ∧ m.s ≤ 5000) ∧ argB m.t = true ∧ (1 ≤ m.k ∧ m.k ≤ 9) ∧ (m.a.length : Int) = cntI m.k ∧ ∀ x ∈ m.a, argB x = true := by
  simp only [msgB, Bool.and_eq_true, inJ_iff, decide_eq_true_eq, List.all_eq_true, and_assoc]
theorem cntI_le (k : Int) : 0 ≤ cntI k ∧ cntI k ≤ 7 := by
  unfold cntI cntL
  have : ∀ n : Nat, 0 ≤ ([0, 7, 1, 3, 3, 4, 3, 2, 6, 4] : List Int).getD n 0 ∧ ([0, 7, 1, 3, 3, 4, 3, 2, 6, 4] : List Int).getD n 0 ≤ 7 := by
    intro n
    rcases (show n = 0 ∨ n = 1 ∨ n = 2 ∨ n = 3 ∨ n = 4 ∨ n = 5 ∨ n = 6 ∨ n = 7 ∨ n = 8 ∨ n = 9 ∨ 10 ≤ n by omega) with rfl | rfl | rfl | rfl | rfl | rfl | rfl | rfl | rfl | rfl | h
    all_goals first | decide | skip
    rw [List.getD_eq_getElem?_getD, List.getElem?_eq_none (by simp; omega)]; decide
  exact this _
/-- the chain of messages -/
def chI (l : List Msg) : Int := chainB (l.map msI)
/-- messages from a place on are right for a party, none of them before a time -/
def okL (party : Int) : Nat → Int → List Msg → Bool
  | _, _, [] => true
  | i, last, m :: r => (msgB m && decide (m.p = party) && decide (m.s = (i : Int) + 1) && decide (last ≤ m.t)) && okL party (i + 1) m.t r
/-- the head of a journal -/
structure Hd where
  p : Int
  n : Int
  c : Int
  e : Int
  s : Int
def Hd.cells (h : Hd) : List Value := [.int .i64 h.p, .int .i64 h.n, .int .u64 h.c, .int .i64 h.e, .int .i64 h.s]
def hd0 : Hd := ⟨0, 0, 0, 0, 0⟩
/-- the head of messages, without its signature -/
def newH (l : List Msg) (party : Int) : Hd := if l = [] then hd0 else ⟨party, l.length, chI l, 0, 0⟩
/-- what a head says -/
def sayI (h : Hd) : List Int := [h.p, h.n, h.c / 4294967296, h.c % 4294967296]
def hdB (l : List Msg) (h : Hd) (party : Int) : Bool := if l = [] then decide (h.p = 0 ∧ h.n = 0 ∧ h.c = 0 ∧ h.e = 0 ∧ h.s = 0) else decide (h.p = party ∧ h.n = l.length ∧ h.c = chI l)
def frmB (l : List Msg) (h : Hd) (party : Int) : Bool := decide (l.length ≤ 5000) && okL party 0 0 l && hdB l h party
/-- whether a journal is right for a party and an element -/
def sgdB (l : List Msg) (h : Hd) (party pub : Int) : Bool := frmB l h party && (decide (l = []) || verV pub h.e h.s (sayI h))
def chkE (party pub : Int) : Int := if ptyB party = true ∧ memZ pub = true then 0 else 1
def chkV (l : List Msg) (h : Hd) (party pub : Int) : Bool := decide (chkE party pub = 0) && sgdB l h party pub
/-- the error of what is appended -/
def lastT (l : List Msg) : Int := match l.getLast? with | none => 0 | some m => m.t
def apE (l : List Msg) (h : Hd) (party time kind : Int) (a : List Int) (sec once : Int) : Int :=
  if (wthB sec 1 && wthB once 1) = true ∧ msgB ⟨party, 1, time, kind, none, 0, a⟩ = true ∧ frmB l h party = true then
    if l.length = 5000 then 2 else if l ≠ [] ∧ time < lastT l then 6 else 0
  else 1
/-- the head of a journal that was appended to -/
def apH (l : List Msg) (party sec once : Int) : Hd := ⟨party, l.length, chI l, sgnE sec once (sayI ⟨party, l.length, chI l, 0, 0⟩), sgnS sec once (sayI ⟨party, l.length, chI l, 0, 0⟩)⟩
theorem chI_in (l : List Msg) : 0 ≤ chI l ∧ chI l ≤ 18446744073709551615 := chainB_in _
end Go.Proofs.YtmbmejclnagffaaDoor

/- Slots, in plain words: which fields may be, the sum, the best of two, what a write makes. -/
import Derived.Test.YtoehobaigfmnpaaDoorDigQ
import Derived.Test.YtoehobaigfmnpaaDoorDigU
namespace Go.Proofs.YtoehobaigfmnpaaDoor
set_option linter.unusedSimpArgs false
set_option linter.unusedVariables false
set_option maxRecDepth 100000

def wB (n lo hi : Int) : Bool := decide (lo ≤ n ∧ n ≤ hi)
theorem wB_iff {n lo hi : Int} : wB n lo hi = true ↔ lo ≤ n ∧ n ≤ hi := by simp [wB]
theorem wB_no {n lo hi : Int} : wB n lo hi = false ↔ ¬ (lo ≤ n ∧ n ≤ hi) := by simp only [wB, decide_eq_false_iff_not]
/-- integers that rise from a number on -/
def risB : Int → List Int → Bool
  | _, [] => true
  | d, x :: r => wB x (d + 1) 1000000 && risB x r
theorem ris_drop {d : Int} {l : List Int} {k : Nat} (h : k < l.length) : risB d (l.drop k) = (wB (l.getD k 0) (d + 1) 1000000 && risB (l.getD k 0) (l.drop (k + 1))) := by
  rw [List.drop_eq_getElem_cons h, risB]
  simp [List.getD_eq_getElem?_getD, h]
theorem ris_end {d : Int} {l : List Int} {k : Nat} (h : l.length ≤ k) : risB d (l.drop k) = true := by
  rw [List.drop_eq_nil_of_le h, risB]
def cntB (n : Int) : Bool := wB n 0 1000000000
def len5B (n : Nat) : Bool := decide (n ≤ 500)
/-- the fields of a slot but for its sum may be -/
def fldB (s c : Int) (l : List Int) : Bool := cntB s && cntB c && len5B l.length && risB 0 l
/-- the right sum of a slot -/
def sumS (s c : Int) (l : List Int) : Int := nextB 0 (s :: c :: l)
theorem sumS_in (s c : Int) (l : List Int) : 0 ≤ sumS s c l ∧ sumS s c l ≤ 18446744073709551615 := nextB_in _ _
/-- a slot is whole -/
def vldB (s c : Int) (l : List Int) (u : Int) : Bool := fldB s c l && (sumS s c l == u)

structure Slt where
  s : Int
  c : Int
  l : List Int
  u : Int
  deriving DecidableEq
def Slt.ok (x : Slt) : Bool := vldB x.s x.c x.l x.u
def Slt.zero : Slt := ⟨0, 0, [], 0⟩
def Slt.made (s c : Int) (l : List Int) : Slt := ⟨s, c, l, sumS s c l⟩
def Slt.fit (x : Slt) : Prop := (-9223372036854775808 ≤ x.s ∧ x.s ≤ 9223372036854775807) ∧ (-9223372036854775808 ≤ x.c ∧ x.c ≤ 9223372036854775807) ∧ Fit x.l ∧ (0 ≤ x.u ∧ x.u ≤ 18446744073709551615) ∧ x.l.length ≤ 1000
/-- the best of two slots -/
def bestI (x y : Slt) : Int := if (y.ok && (!x.ok || decide (x.s < y.s))) = true then 1 else 0
def bestB (x y : Slt) : Bool := x.ok || y.ok
/-- the serial number of the best slot -/
def topS (x y : Slt) : Int := if bestB x y = true then (if bestI x y = 1 then y.s else x.s) else 0
/-- the error of a write -/
def wrE (x y : Slt) (c : Int) (l : List Int) (at_ : Int) : Int :=
  if l.length > 500 then 2 else if fldB 0 c l = false then 1 else if wB at_ 0 3 = false then 1 else if topS x y = 1000000000 then 3 else 0
/-- what is written -/
def wrS (x y : Slt) (c : Int) (l : List Int) (at_ : Int) : Slt :=
  ⟨topS x y + 1, c, l, if at_ = 1 then (sumS (topS x y + 1) c l + 1) % 18446744073709551616 else sumS (topS x y + 1) c l⟩
/-- is the first slot written? -/
def into0 (x y : Slt) : Bool := !bestB x y || (bestI x y == 1)
def wr0 (x y : Slt) (c : Int) (l : List Int) (at_ : Int) : Slt :=
  if wrE x y c l at_ = 0 then (if into0 x y = true ∧ at_ ≠ 0 then wrS x y c l at_ else x) else Slt.zero
def wr1 (x y : Slt) (c : Int) (l : List Int) (at_ : Int) : Slt :=
  if wrE x y c l at_ = 0 then (if into0 x y = false ∧ at_ ≠ 0 then wrS x y c l at_ else y) else Slt.zero
end Go.Proofs.YtoehobaigfmnpaaDoor

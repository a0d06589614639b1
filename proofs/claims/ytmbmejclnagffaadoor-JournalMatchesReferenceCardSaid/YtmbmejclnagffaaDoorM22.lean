/- A region that draws its order, walked in one order: operations that are quiet under a condition on the world are taken first, guarded ones whose guard is false are passed by. -/
import Derived.Test.YtmbmejclnagffaaDoorM1
set_option linter.unusedSimpArgs false
set_option linter.unusedVariables false
set_option maxRecDepth 100000
namespace Go.Proofs.YtmbmejclnagffaaDoor
open Go.RowKit
section
section
variable {P : Program} {ops : Array Oper} {Q : Exit → Act → World → Prop} {md : Region.Mode} {S : World → Prop}
/-- all that is asked of the order in which an operation comes -/
def mayTake (md : Region.Mode) (ops : Array Oper) (listed : Array Bool) (i : Nat) : Bool := Region.noSelect ops && Region.free md ops listed i && (Region.ready md ops listed).contains i
theorem take_at {i : Nat} (d : Option Tmp) {o : Oper} {v : Value} {fuel : Nat} {listed : Array Bool} {a : Act} {w : World} (hi : ops[i]? = some o) (hd : o.dst = d) (hb : mayTake md ops listed i = true)
    (hQ : ∀ c a w, Q (.panic c) (a.put d v) w → Q (.panic c) a w) (hw : Region.wanted o (yielded ops a.tmps) = true) (hy : ∀ w, S w → (execOp a.eval o).run P w = .ok (.value v) w) (hS : S w)
    (h : wpAnyH P md ops Q S fuel (listed.setIfInBounds i true) (a.put d v) w) : wpAnyH P md ops Q S (fuel + 1) listed a w := by
  subst hd
  simp only [mayTake, Bool.and_eq_true] at hb
  exact wpAnyH_take hi hb.1.1 hb.1.2 hb.2 hQ (.inl ⟨hw, hy⟩) hS h
end
end
end Go.Proofs.YtmbmejclnagffaaDoor

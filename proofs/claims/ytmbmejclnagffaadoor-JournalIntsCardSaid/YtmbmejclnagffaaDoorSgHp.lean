/- Plain facts on signatures: what was signed is right; elements. -/
import Derived.Test.YtmbmejclnagffaaDoorSgC
import Derived.Test.YtmbmejclnagffaaDoorOpn1
namespace Go.Proofs.YtmbmejclnagffaaDoor
set_option linter.unusedSimpArgs false
set_option linter.unusedVariables false
set_option maxRecDepth 100000
open Go.RowKit

theorem right_law (s o : Nat) (l : List Int) : rightB (pw 4 s PP) (sigE s o l) (sigS s o l) l = true := by
  rw [rightB, backN, sigS, back_right s o _ (sigE_lt s o l), beq_iff_eq]; rfl
theorem mem4 : memZ 4 = true := memZ_iff.2 ⟨by omega, by omega, four_q⟩
theorem mem9 : memZ 9 = true := memZ_iff.2 ⟨by omega, by omega, by rw [pw_mp 31 (by decide)]; decide +kernel⟩
theorem mem2 : memZ 2 = false := by
  have h : pw 2 QQ PP = PP - 1 := by rw [pw_mp 31 (by decide)]; decide +kernel
  rw [Bool.eq_false_iff]; intro h2
  have := (memZ_iff.1 h2).2.2
  rw [show (2 : Int).toNat = 2 from rfl, h] at this
  exact absurd this (by decide)
theorem mem0 : memZ 0 = false := by rw [Bool.eq_false_iff]; intro h; have := (memZ_iff.1 h).1; omega
theorem pw43 : pw 4 3 PP = 64 := by decide
theorem pw45 : pw 4 5 PP = 1024 := by decide
theorem mem1024 : memZ ((1024 : Nat) : Int) = true := by rw [← pw45]; exact memZ_pw
theorem wth_sig {s o : Nat} {l : List Int} : wthB (sigE s o l) 0 = true ∧ wthB (sigS s o l) 0 = true := by
  have h1 := sigE_lt s o l
  have h2 := sigS_lt s o l
  have : QQ = 1073741789 := rfl
  exact ⟨wthB_iff.2 (by omega), wthB_iff.2 (by omega)⟩

theorem fit_of {l : List Int} (h : ∀ n ∈ l, (Lit.int .i64 n).wf = true) : Fit l := fun x hx => wf_i64 (h x hx)
theorem fit_take {l : List Int} (h : Fit l) (n : Nat) : Fit (l.take n) := fun x hx => h x (List.mem_of_mem_take hx)
theorem nat_beq (a b : Nat) : ((a : Int) == (b : Int)) = (a == b) := by rw [Bool.eq_iff_iff, beq_iff_eq, beq_iff_eq]; omega
end Go.Proofs.YtmbmejclnagffaaDoor

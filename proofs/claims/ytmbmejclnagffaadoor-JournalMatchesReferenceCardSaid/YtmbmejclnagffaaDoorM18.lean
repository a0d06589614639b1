/- Both packages of signatures, whatever the numbers are. -/
import Derived.Test.YtmbmejclnagffaaDoorM17
set_option linter.unusedSimpArgs false
set_option linter.unusedVariables false
set_option maxRecDepth 100000
namespace Go.Proofs.YtmbmejclnagffaaDoor
open Go.RowKit
def errV (b : Bool) : Int := if b = true then 0 else 1
def pubV (s : Int) : Int := if wthB s 1 = true then ((pw 4 s.toNat PP : Nat) : Int) else 0
def sgnE (s o : Int) (l : List Int) : Int := if (wthB s 1 && wthB o 1) = true then ((sigE s.toNat o.toNat l : Nat) : Int) else 0
def sgnS (s o : Int) (l : List Int) : Int := if (wthB s 1 && wthB o 1) = true then ((sigS s.toNat o.toNat l : Nat) : Int) else 0
def verV (p e s : Int) (l : List Int) : Bool := okB p e s && rightB p.toNat e.toNat s.toNat l
theorem nat_of {x lo : Int} (h0 : 0 ≤ lo) (h : wthB x lo = true) : ∃ n : Nat, x = n := ⟨x.toNat, by have := wthB_iff.1 h; omega⟩
theorem nat_mem {a : Int} (h : memZ a = true) : ∃ n : Nat, a = n := ⟨a.toNat, by have := memZ_iff.1 h; omega⟩
theorem public_all (s : Int) (w : World) : Calls Tryd.prog 11 #[.int .i64 s] w fun e w' => e = .returned (.tuple #[.int .i64 (pubV s), .int .i64 (errV (wthB s 1))]) ∧ Below w.heap.size w w' := by
  by_cases h : wthB s 1 = true
  · rw [pubV, errV, if_pos h, if_pos h]
    obtain ⟨s, rfl⟩ := nat_of (by omega) h
    exact public_yes s w h
  · rw [pubV, errV, if_neg h, if_neg h]; exact public_no s w (by simpa using h)
theorem sign_all (s o : Int) (A : Option Addr) (c n : Nat) (l : List Int) (hln : l.length = n) (w : World) (hl : IntsAt w A .i64 l) (hn : n ≤ 1000) (hf : Fit l) (ht : Tab w) :
    Calls Tryd.prog 39 #[.int .i64 s, .int .i64 o, .slice A n c] w fun e w' => e = .returned (.tuple #[.agg #[.int .i64 (sgnE s o l), .int .i64 (sgnS s o l)], .int .i64 (errV (wthB s 1 && wthB o 1))]) ∧ Below w.heap.size w w' := by
  by_cases h : (wthB s 1 && wthB o 1) = true
  · rw [sgnE, sgnS, errV, if_pos h, if_pos h, if_pos h]
    rw [Bool.and_eq_true] at h
    obtain ⟨s, rfl⟩ := nat_of (by omega) h.1
    obtain ⟨o, rfl⟩ := nat_of (by omega) h.2
    exact sign_yes s o A c n l hln w h.1 h.2 hl (by omega) hf ht
  · rw [sgnE, sgnS, errV, if_neg h, if_neg h, if_neg h]; exact sign_no s o A c n w (by simpa using h)
theorem verify_all (p e s : Int) (A : Option Addr) (c n : Nat) (l : List Int) (hln : l.length = n) (w : World) (hl : IntsAt w A .i64 l) (hn : n ≤ 1000) (hf : Fit l) (ht : Tab w) :
    Calls Tryd.prog 58 #[.int .i64 p, .agg #[.int .i64 e, .int .i64 s], .slice A n c] w fun x w' => x = .returned (.tuple #[.bool (verV p e s l), .int .i64 (errV (okB p e s))]) ∧ Below w.heap.size w w' := by
  by_cases h : okB p e s = true
  · rw [verV, errV, if_pos h, h, Bool.true_and]
    simp only [okB, Bool.and_eq_true] at h
    obtain ⟨p, rfl⟩ := nat_mem h.1.1
    obtain ⟨e, rfl⟩ := nat_of (by omega) h.1.2
    obtain ⟨s, rfl⟩ := nat_of (by omega) h.2
    exact verify_yes p e s A c n l hln w h.1.1 h.1.2 h.2 hl (by omega) hf ht
  · rw [Bool.not_eq_true] at h
    rw [verV, errV, h, Bool.false_and, if_neg (by simp)]; exact verify_no p e s A c n w h
end Go.Proofs.YtmbmejclnagffaaDoor

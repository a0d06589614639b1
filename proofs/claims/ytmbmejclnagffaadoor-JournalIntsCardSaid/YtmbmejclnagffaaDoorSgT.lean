/- Contracts of the reference of sign: Verify; the plain law of a number that is used twice. -/
import Derived.Test.YtmbmejclnagffaaDoorSgS
namespace Go.Proofs.YtmbmejclnagffaaDoor
set_option linter.unusedSimpArgs false
set_option linter.unusedVariables false
set_option maxRecDepth 100000
open Go.RowKit

theorem rverify_no (p e s : Int) (A : Option Addr) (c n : Nat) (w : World) (h : okB p e s = false) :
    Calls Tryd.prog 67 #[.int .i64 p, .agg #[.int .i64 e, .int .i64 s], .slice A n c] w fun x w' => x = .returned (.tuple #[.bool false, .int .i64 1]) ∧ Below w.heap.size w w' := by
  have q1 := fun W => rmember_any p W
  have q2 := fun W => rExponent_any e W
  have q3 := fun W => rExponent_any s W
  unfold okB at h
  generalize memZ p = M at *
  generalize wthB e 0 = N at *
  generalize wthB s 0 = O at *
  have hc : M = false ∨ (M = true ∧ N = false) ∨ (M = true ∧ N = true ∧ O = false) := by cases M <;> cases N <;> simp_all
  rcases hc with rfl | ⟨rfl, rfl⟩ | ⟨rfl, rfl, rfl⟩
  all_goals
    have H_q1 := Lib.hid q1; clear q1; have H_q2 := Lib.hid q2; clear q2; have H_q3 := Lib.hid q3; clear q3; have H_h := Lib.hid h; clear h
    go_enter Tryd.func67, Tryd.ntmps67
    go_wp2_with fail
    refine (H_q1.out _).mono ?_
    rintro e w_ ⟨rfl, rfl⟩
    go_wp2_with fail
    refine (H_q2.out _).mono ?_
    rintro e w_ ⟨rfl, rfl⟩
    go_wp2_with fail
    refine (H_q3.out _).mono ?_
    rintro e w_ ⟨rfl, rfl⟩
    go_wp2_with fail
    go_ret2
    exact ⟨rfl, (by (repeat (first | with_reducible exact Below.refl _ _ | with_reducible exact Nat.le_refl _ | with_reducible assumption | with_reducible refine Below.drew ?_ | with_reducible refine below_drewN ?_ _ | with_reducible refine Below.alloc ?_ ?_ _ | with_reducible refine Below.setCell ?_ ?_ _ | with_reducible exact And.right (by assumption) | with_reducible refine Below.trans ?_ (Below.mono (by assumption) ?_) | with_reducible exact Below.size (And.right (by assumption)) | (focus omega) | (focus (simp; done)) | (focus (simp; omega)) | (focus (simp at *; omega)))))⟩

theorem once_mod (x : Int) : ∃ k, x % 1073741789 = x - 1073741789 * k := ⟨x / 1073741789, by omega⟩
/-- two signatures with one number show the secret -/
theorem once_law (s o E F : Nat) (hs : s < QQ) (hE : E < QQ) (hF : F < QQ) (hne : E ≠ F) :
    ((((o + E * s) % QQ : Nat) : Int) - (((o + F * s) % QQ : Nat) : Int) + 1073741789) % 1073741789 * ((pw (((E : Int) - F + 1073741789) % 1073741789).toNat (QQ - 2) QQ : Nat) : Int) % 1073741789 = s := by
  have hq : QQ = 1073741789 := rfl
  obtain ⟨D, hD⟩ : ∃ D : Nat, ((E : Int) - F + 1073741789) % 1073741789 = D := ⟨(((E : Int) - F + 1073741789) % 1073741789).toNat, by omega⟩
  have hD0 : 0 < D := by omega
  have hDQ : D < QQ := by omega
  have hi := inverse hD0 hDQ
  rw [hD, Int.toNat_natCast]
  generalize pw D (QQ - 2) QQ = I at *
  have e1 : (((o + E * s) % QQ : Nat) : Int) = ((o : Int) + (E : Int) * s) % 1073741789 := by rw [Int.natCast_emod, Int.natCast_add, Int.natCast_mul]; rfl
  have e2 : (((o + F * s) % QQ : Nat) : Int) = ((o : Int) + (F : Int) * s) % 1073741789 := by rw [Int.natCast_emod, Int.natCast_add, Int.natCast_mul]; rfl
  rw [e1, e2]
  have hT : (((o : Int) + (E : Int) * s) % 1073741789 - ((o : Int) + (F : Int) * s) % 1073741789 + 1073741789) % 1073741789 = ((D : Int) * s) % 1073741789 := by
    obtain ⟨k4, h4⟩ := once_mod ((E : Int) - F + 1073741789)
    rw [hD] at h4
    have h5 : (D : Int) * s = (E : Int) * s - (F : Int) * s + 1073741789 * s - 1073741789 * (k4 * s) := by
      rw [h4, Int.sub_mul, Int.add_mul, Int.sub_mul, Int.mul_assoc]
    rw [h5]
    generalize (E : Int) * s = a
    generalize (F : Int) * s = b
    generalize k4 * (s : Int) = c
    omega
  rw [hT]
  have h6 : ((D : Int) * (I : Int)) % 1073741789 = 1 := by
    have : ((D * I % QQ : Nat) : Int) = 1 := by rw [hi]; rfl
    rw [Int.natCast_emod, Int.natCast_mul] at this; exact this
  rw [Int.mul_emod, Int.emod_emod_of_dvd _ (Int.dvd_refl _), ← Int.mul_emod, Int.mul_assoc, Int.mul_comm (s : Int), ← Int.mul_assoc, Int.mul_emod, h6, Int.one_mul, Int.emod_emod_of_dvd _ (Int.dvd_refl _)]
  omega
end Go.Proofs.YtmbmejclnagffaaDoor

/- Contracts of the reference of sign: Sign, Back, Verify. -/
import Derived.Test.YtoehobaigfmnpaaDoorSgR
namespace Go.Proofs.YtoehobaigfmnpaaDoor
set_option linter.unusedSimpArgs false
set_option linter.unusedVariables false
set_option maxRecDepth 100000
open Go.RowKit

set_option maxHeartbeats 2000000 in
theorem rback_any (p e s : Nat) (w : World) (hp : p < PP) (he : e < QQ) (hs : s < QQ) :
    Calls Tryd.prog 21 #[.int .i64 p, .agg #[.int .i64 e, .int .i64 s]] w fun x w' => x = .returned (.int .i64 (backN p e s : Nat)) ∧ Below w.heap.size w w' := by
  have hq : QQ = 1073741789 := rfl
  have hpp : PP = 2147483579 := rfl
  have ex := exp_eq e he
  have hK : (QQ - e) % QQ < QQ := Nat.mod_lt _ (by decide)
  have hback : backN p e s = pw 4 s PP * pw p ((QQ - e) % QQ) PP % PP := rfl
  generalize hKK : (QQ - e) % QQ = K at *
  have hb1 := cast_mulmod (pw 4 s PP) (pw p K PP)
  rw [← hback] at hb1
  have hm1 := mul_lt31 (pw_lt (a := 4) (x := s) (m := PP) (by decide)) (pw_lt (a := p) (x := K) (m := PP) (by decide))
  have hm0 : 0 ≤ ((pw 4 s PP : Nat) : Int) * ((pw p K PP : Nat) : Int) := Int.mul_nonneg (by omega) (by omega)
  generalize backN p e s = B at *
  have q4a : ∀ W, Calls Tryd.prog 46 #[.int .i64 4, .int .i64 s, .int .i64 2147483579] W fun e w' => e = .returned (.int .i64 (pw 4 s PP : Nat)) ∧ W = w' := fun W => rpowP 4 s W (by decide) (by omega)
  have q4b := fun W => rpowP p K W hp (by omega)
  generalize ((pw 4 s PP : Nat) : Int) = P1 at *
  generalize ((pw p K PP : Nat) : Int) = P2 at *
  have z1 : IntKind.i64.wrap (1073741789 - (e : Int)) = 1073741789 - (e : Int) := IntWalk.i64_in _ (by omega)
  have z2 : (1073741789 - (e : Int)).tmod 1073741789 = (K : Int) := by rw [Int.tmod_eq_emod_of_nonneg (by omega)]; exact ex
  have z3 : IntKind.i64.wrap (P1 * P2) = P1 * P2 := IntWalk.i64_in _ (by omega)
  have z4 : (P1 * P2).tmod 2147483579 = (B : Int) := by rw [Int.tmod_eq_emod_of_nonneg (by omega)]; exact hb1
  have bw : Below w.heap.size w (w.alloc (.cells #[.int .i64 e, .int .i64 s] 29)) := (Below.refl _ _).alloc (Nat.le_refl _) _
  have k0 : (w.alloc (.cells #[.int .i64 e, .int .i64 s] 29)).cell? ⟨w.heap.size, 0, none⟩ = some (.int .i64 e) := by rw [cell_of_row _ _ _ _ _ _ (heap_alloc_new w _)]; rfl
  have k1 : (w.alloc (.cells #[.int .i64 e, .int .i64 s] 29)).cell? ⟨w.heap.size, 1, none⟩ = some (.int .i64 s) := by rw [cell_of_row _ _ _ _ _ _ (heap_alloc_new w _)]; rfl
  have sz : w.heap.size < (w.alloc (.cells #[.int .i64 e, .int .i64 s] 29)).heap.size := by simp
  have H_q4a := Lib.hid q4a; clear q4a; have H_q4b := Lib.hid q4b; clear q4b; have H_hp := Lib.hid hp; clear hp; have H_he := Lib.hid he; clear he; have H_hs := Lib.hid hs; clear hs; have H_hq := Lib.hid hq; clear hq; have H_hpp := Lib.hid hpp; clear hpp; have H_ex := Lib.hid ex; clear ex; have H_hK := Lib.hid hK; clear hK; have H_hback := Lib.hid hback; clear hback; have H_hKK := Lib.hid hKK; clear hKK; have H_hb1 := Lib.hid hb1; clear hb1; have H_bw := Lib.hid bw; clear bw; have H_hm1 := Lib.hid hm1; clear hm1; have H_hm0 := Lib.hid hm0; clear hm0; have H_z1 := Lib.hid z1; clear z1; have H_z2 := Lib.hid z2; clear z2; have H_z3 := Lib.hid z3; clear z3; have H_z4 := Lib.hid z4; clear z4; have H_k0 := Lib.hid k0; clear k0; have H_k1 := Lib.hid k1; clear k1; have H_sz := Lib.hid sz; clear sz
  go_enter Tryd.func21, Tryd.ntmps21
  go_wp2_with fail
  obtain ⟨w1, hw1⟩ : ∃ w1, w.alloc (.cells #[.int .i64 e, .int .i64 s] 29) = w1 := ⟨_, rfl⟩
  rw [hw1]
  have gw1 := H_bw.out
  have k0 := H_k0.out
  have k1 := H_k1.out
  have sz := H_sz.out
  rw [hw1] at gw1 k0 k1 sz
  have z1 := H_z1.out
  have z2 := H_z2.out
  have z3 := H_z3.out
  have z4 := H_z4.out
  have H_hw1 := Lib.hid hw1; clear hw1
  clear H_k0 H_k1 H_sz H_bw
  go_region_held3 (fun W => (∀ b o, b < w1.heap.size → W.cell? ⟨b, o, none⟩ = w1.cell? ⟨b, o, none⟩) ∧ Below w1.heap.size w1 W) (first | (refine ext_mk ?_; (repeat (first | with_reducible exact Below.refl _ _ | with_reducible exact Nat.le_refl _ | with_reducible assumption | with_reducible refine Below.drew ?_ | with_reducible refine below_drewN ?_ _ | with_reducible refine Below.alloc ?_ ?_ _ | with_reducible refine Below.setCell ?_ ?_ _ | with_reducible exact And.right (by assumption) | with_reducible refine Below.trans ?_ (Below.mono (by assumption) ?_) | with_reducible exact Below.size (And.right (by assumption)) | (focus omega) | (focus (simp; done)) | (focus (simp; omega)) | (focus (simp at *; omega)))))) (first | (go_at_call 46; ((with_reducible refine (H_q4a.out _).mono ?_); rintro e w2 ⟨rfl, rfl⟩)) | (go_at_call 46; ((with_reducible refine (H_q4b.out _).mono ?_); rintro e w2 ⟨rfl, rfl⟩)))
  all_goals
    clear z1 z2 z3 z4
    go_wp2_with fail
    go_ret
    exact ⟨rfl, held_end gw1 (by assumption)⟩
end Go.Proofs.YtoehobaigfmnpaaDoor

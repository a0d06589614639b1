/- Contracts of the reference of sign: Verify where it may be. -/
import Derived.Test.YtmbmejclnagffaaDoorSgT
namespace Go.Proofs.YtmbmejclnagffaaDoor
set_option linter.unusedSimpArgs false
set_option linter.unusedVariables false
set_option maxRecDepth 100000
open Go.RowKit

set_option maxHeartbeats 2000000 in
theorem rverify_yes (p e s : Nat) (A : Option Addr) (c n : Nat) (l : List Int) (hln : l.length = n) (w : World) (hp : memZ p = true) (he : wthB e 0 = true) (hs : wthB s 0 = true) (hl : IntsAt w A .i64 l) (hn : n ≤ 1000) (hf : Fit l) :
    Calls Tryd.prog 67 #[.int .i64 p, .agg #[.int .i64 e, .int .i64 s], .slice A n c] w fun x w' => x = .returned (.tuple #[.bool (rightB p e s l), .int .i64 0]) ∧ Below w.heap.size w w' := by
  have hq : QQ = 1073741789 := rfl
  have hpp : PP = 2147483579 := rfl
  have h1 := memZ_iff.1 hp
  have h2 := wthB_iff.1 he
  have h3 := wthB_iff.1 hs
  have q1 := fun W => rmember_any p W
  have q2 := fun W => rExponent_any e W
  have q3 := fun W => rExponent_any s W
  rw [hp] at q1
  rw [he] at q2
  rw [hs] at q3
  have q4 := fun W => rback_any p e s W (by omega) (by omega) (by omega)
  have hbl := backN_lt p e s
  have q5 := fun W (h : IntsAt W A .i64 l) => rafter_any (backN p e s : Nat) (p : Nat) A c n l hln W h (by omega)
  have q6 := fun W X x (h : IntsAt W X .i64 ((backN p e s : Nat) :: (p : Int) :: l)) => rchal_any X x (2 + n) ((backN p e s : Nat) :: (p : Int) :: l) (by simp [hln]; omega) W h (by omega) (fit_two (by omega) (by omega) hf)
  have hR : rightB p e s l = (e == chN ((backN p e s : Nat) :: (p : Int) :: l)) := rfl
  generalize hCC : chN ((backN p e s : Nat) :: (p : Int) :: l) = C at *
  generalize hLL : ((backN p e s : Nat) : Int) :: (p : Int) :: l = LL at *
  generalize backN p e s = B at *
  have zc : ((C : Int) == (e : Int)) = (e == C) := by rw [nat_beq, Bool.eq_iff_iff, beq_iff_eq, beq_iff_eq]; exact eq_comm
  have bw : Below w.heap.size w (w.alloc (.cells #[.int .i64 e, .int .i64 s] 31)) := (Below.refl _ _).alloc (Nat.le_refl _) _
  have k0 : (w.alloc (.cells #[.int .i64 e, .int .i64 s] 31)).cell? ⟨w.heap.size, 0, none⟩ = some (.int .i64 e) := by rw [cell_of_row _ _ _ _ _ _ (heap_alloc_new w _)]; rfl
  have k1 : (w.alloc (.cells #[.int .i64 e, .int .i64 s] 31)).cell? ⟨w.heap.size, 1, none⟩ = some (.int .i64 s) := by rw [cell_of_row _ _ _ _ _ _ (heap_alloc_new w _)]; rfl
  have sz : w.heap.size < (w.alloc (.cells #[.int .i64 e, .int .i64 s] 31)).heap.size := by simp
  have l1 := hl.below bw
  unfold NewInts at q5
  have H_q1 := Lib.hid q1; clear q1; have H_q2 := Lib.hid q2; clear q2; have H_q3 := Lib.hid q3; clear q3; have H_q4 := Lib.hid q4; clear q4; have H_q5 := Lib.hid q5; clear q5; have H_q6 := Lib.hid q6; clear q6; have H_hl := Lib.hid hl; clear hl; have H_hf := Lib.hid hf; clear hf; have H_hln := Lib.hid hln; clear hln; have H_hp := Lib.hid hp; clear hp; have H_he := Lib.hid he; clear he; have H_hs := Lib.hid hs; clear hs; have H_h1 := Lib.hid h1; clear h1; have H_h2 := Lib.hid h2; clear h2; have H_h3 := Lib.hid h3; clear h3; have H_hq := Lib.hid hq; clear hq; have H_hpp := Lib.hid hpp; clear hpp; have H_hbl := Lib.hid hbl; clear hbl; have H_hR := Lib.hid hR; clear hR; have H_hCC := Lib.hid hCC; clear hCC; have H_hLL := Lib.hid hLL; clear hLL; have H_bw := Lib.hid bw; clear bw; have H_k0 := Lib.hid k0; clear k0; have H_k1 := Lib.hid k1; clear k1; have H_sz := Lib.hid sz; clear sz; have H_l1 := Lib.hid l1; clear l1; have H_zc := Lib.hid zc; clear zc
  go_enter Tryd.func67, Tryd.ntmps67
  go_wp2_with fail
  refine (H_q1.out _).mono ?_
  rintro e w_ ⟨rfl, rfl⟩
  go_wp2_with fail
  refine (H_q2.out _).mono ?_
  rintro e w_ ⟨rfl, rfl⟩
  go_wp2_with fail
  refine (H_q3.out _).mono ?_
  rintro e w_ ⟨rfl, rfl⟩
  go_wp2_with fail
  obtain ⟨w1, hw1⟩ : ∃ w1, w.alloc (.cells #[.int .i64 e, .int .i64 s] 31) = w1 := ⟨_, rfl⟩
  rw [hw1]
  have gw1 := H_bw.out
  have k0 := H_k0.out
  have k1 := H_k1.out
  have sz := H_sz.out
  have l1 := H_l1.out
  rw [hw1] at gw1 k0 k1 sz l1
  have H_hw1 := Lib.hid hw1; clear hw1; have H_l1 := Lib.hid l1; clear l1
  clear H_k0 H_k1 H_sz H_bw
  go_region_held3 (fun W => (∀ b o, b < w1.heap.size → W.cell? ⟨b, o, none⟩ = w1.cell? ⟨b, o, none⟩) ∧ Below w1.heap.size w1 W) (first | (refine ext_mk ?_; (repeat (first | with_reducible exact Below.refl _ _ | with_reducible exact Nat.le_refl _ | with_reducible assumption | with_reducible refine Below.drew ?_ | with_reducible refine below_drewN ?_ _ | with_reducible refine Below.alloc ?_ ?_ _ | with_reducible refine Below.setCell ?_ ?_ _ | with_reducible exact And.right (by assumption) | with_reducible refine Below.trans ?_ (Below.mono (by assumption) ?_) | with_reducible exact Below.size (And.right (by assumption)) | (focus omega) | (focus (simp; done)) | (focus (simp; omega)) | (focus (simp at *; omega)))))) (first | (go_at_call 76; refine (H_q4.out _).mono ?_; rintro e w2 ⟨rfl, hb2⟩) | (go_at_call 65; refine (H_q5.out _ ?_).mono ?_; (focus (exact H_l1.out.below (And.right (by assumption)))); rintro e w2 ⟨X, x, rfl, hX, hb2⟩; have H_hX := Lib.hid hX; clear hX) | (go_at_call 64; refine (H_q6.out _ _ _ ?_).mono ?_; (focus (exact H_hX.out)); rintro e w2 ⟨rfl, hb2⟩))
  all_goals
    go_wp2_with fail
    go_ret2
    rw [H_hR.out, ← H_zc.out]
    exact ⟨rfl, held_end gw1 (by assumption)⟩
end Go.Proofs.YtmbmejclnagffaaDoor

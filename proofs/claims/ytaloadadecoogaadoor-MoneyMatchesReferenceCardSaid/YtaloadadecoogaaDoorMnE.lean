/- Contracts of package ratio: rounders, Part at rounding to even. -/
import Derived.Test.YtaloadadecoogaaDoorMnD
namespace Go.Proofs.YtaloadadecoogaaDoor
set_option linter.unusedSimpArgs false
set_option linter.unusedVariables false
set_option maxRecDepth 100000
open Go.RowKit Go.Maps

def rndV (f : Nat) : Value := .agg #[.func (.func f) #[] #[]]
def rndD : DataW Value := (((DataW.map []).put (.int .i64 1) (.held (rndV 46))).put (.int .i64 2) (.held (rndV 47))).put (.int .i64 3) (.held (rndV 48))
theorem rnd_at (z : DataW Value) : rndD.atKey (.int .i64 3) z = .held (rndV 48) := by
  rw [rndD, at_put_int (isMap_empty.put _ _ |>.put _ _), if_pos rfl]
theorem rnd_has : Maps.has rndD (.int .i64 3) = true := by
  rw [rndD, has_put_int (isMap_empty.put _ _ |>.put _ _)]; simp
theorem zero_rnd (w : World) : (zeroValue 67).run Tryd.prog w = .ok (.agg #[.nilFunc]) w := by kernel_rfl
theorem rnd_look {w : World} {b : Nat} (h : MapAt w Tryd.prog 3 b 3 rndD) :
    (Instr.lookup 69 (.map (some b)) (.int .i64 3) true).run Tryd.prog w = .ok (.tuple #[rndV 48, .bool true]) w :=
  h.look_ok (int_keyed Tryd.underlying3) Tryd.underlying69 (zero_rnd w) (keyOf_int_mk Tryd.underlying3 (by decide)) (rnd_at _) rnd_has
def NewMapM (k : TypeId) (n : Nat) (D : DataW Value) (w : World) (e : Ending) (w' : World) : Prop := ∃ b, e = .returned (.map (some b)) ∧ MapAt w' Tryd.prog k b n D ∧ Below w.heap.size w w'
set_option maxHeartbeats 1000000 in
theorem rounders_any (w : World) : Calls Tryd.prog 38 #[] w (NewMapM 3 3 rndD w) := by
  have hmm := @run_makeMap Tryd.prog
  have K : Keyed Tryd.prog 3 := int_keyed Tryd.underlying3
  have k1 : keyOf Tryd.prog 3 (.int .i64 1) = some (.int .i64 1) := keyOf_int_mk Tryd.underlying3 (by decide)
  have k2 : keyOf Tryd.prog 3 (.int .i64 2) = some (.int .i64 2) := keyOf_int_mk Tryd.underlying3 (by decide)
  have k3 : keyOf Tryd.prog 3 (.int .i64 3) = some (.int .i64 3) := keyOf_int_mk Tryd.underlying3 (by decide)
  have H_k1 := Lib.hid k1; clear k1; have H_k2 := Lib.hid k2; clear k2; have H_k3 := Lib.hid k3; clear k3
  go_enter Tryd.func38, Tryd.ntmps38
  go_wp2_with (refine wp_insert_any _ (by rfl) (.tmp 1) _ (.tmp 2) _ (by rfl) 3 67 K Tryd.underlying69 w.heap.size 0 (.map []) (by rfl) (MapAt.made w _ _ rfl) (by unfold maxLen; omega) (.int .i64 1) (rndV 46) (.int .i64 1) (by rfl) (by rfl) H_k1.out ?_)
  intro w1 m1 g1
  go_wp2_with (refine wp_insert_any _ (by rfl) (.tmp 1) _ (.tmp 3) _ (by rfl) 3 67 K Tryd.underlying69 w.heap.size 1 _ (by rfl) m1 (by unfold maxLen; omega) (.int .i64 2) (rndV 47) (.int .i64 2) (by rfl) (by rfl) H_k2.out ?_)
  intro w2 m2 g2
  go_wp2_with (refine wp_insert_any _ (by rfl) (.tmp 1) _ (.tmp 4) _ (by rfl) 3 67 K Tryd.underlying69 w.heap.size 2 _ (by rfl) m2 (by unfold maxLen; omega) (.int .i64 3) (rndV 48) (.int .i64 3) (by rfl) (by rfl) H_k3.out ?_)
  intro w3 m3 g3
  have g12 := grown_then g1 g2 (.inl rfl)
  have g13 := grown_then g12 g3 (.inl rfl)
  have r1 := grown_then (grown_of_below ((Below.refl w.heap.size w).alloc (Nat.le_refl _) (.map #[] 0)) (some w.heap.size)) g13 (.inl rfl)
  have b3 := below_of_grown r1 (Nat.le_refl _) (Nat.le_refl _)
  have H_m1 := Lib.hid m1; clear m1; have H_m2 := Lib.hid m2; clear m2; have H_m3 := Lib.hid m3; clear m3; have H_g1 := Lib.hid g1; clear g1; have H_g2 := Lib.hid g2; clear g2; have H_g3 := Lib.hid g3; clear g3; have H_g12 := Lib.hid g12; clear g12; have H_g13 := Lib.hid g13; clear g13; have H_r1 := Lib.hid r1; clear r1; have H_b3 := Lib.hid b3; clear b3
  go_wp2_with fail
  go_ret
  exact ⟨_, rfl, H_m3.out, H_b3.out⟩
/-- a part of an amount, rounded to even -/
def ptE (n N D : Int) : Int := if ratB N D = true ∧ amtB n = true then if amtB (rdE (n * N) D) = true then 0 else 3 else 1
def ptV (n N D : Int) : Int := if ptE n N D = 0 then rdE (n * N) D else 0
set_option maxHeartbeats 4000000 in
theorem part_any (n N D : Int) (hn : -9223372036854775808 ≤ n ∧ n ≤ 9223372036854775807) (hN : -9223372036854775808 ≤ N ∧ N ≤ 9223372036854775807) (hD : -9223372036854775808 ≤ D ∧ D ≤ 9223372036854775807) (w : World) :
    Calls Tryd.prog 27 #[.int .i64 n, .agg #[.int .i64 N, .int .i64 D], .int .i64 3] w fun e w' => e = .returned (.tuple #[.int .i64 (ptV n N D), .int .i64 (ptE n N D)]) ∧ Below w.heap.size w w' := by
  obtain ⟨w0, hw0⟩ : ∃ W, w.alloc (.cells #[.int .i64 N, .int .i64 D] 40) = W := ⟨_, rfl⟩
  have bb0 : Below w.heap.size w w0 := by rw [← hw0]; exact (Below.refl _ _).alloc (Nat.le_refl _) _
  have k0 : Blk w0 w.heap.size #[.int .i64 N, .int .i64 D] := by rw [← hw0]; exact blk_new rfl
  have q1 := fun W => rounders_any W
  have q2 := fun W => mrat_any N D hN hD W
  unfold NewMapM at q1
  by_cases hv : ratB N D = true
  rotate_left
  · have hv := Bool.eq_false_iff.2 hv
    have e2 : ptE n N D = 1 := by rw [ptE, if_neg (by simp [hv])]
    have e1 : ptV n N D = 0 := by rw [ptV, e2, if_neg (by omega)]
    rw [hv] at q2
    rw [e1, e2]
    have H_hw0 := Lib.hid hw0; clear hw0; have H_bb0 := Lib.hid bb0; clear bb0; have H_k0 := Lib.hid k0; clear k0; have H_q1 := Lib.hid q1; clear q1; have H_q2 := Lib.hid q2; clear q2; have H_hn := Lib.hid hn; clear hn; have H_hN := Lib.hid hN; clear hN; have H_hD := Lib.hid hD; clear hD; have H_hv := Lib.hid hv; clear hv; have H_e1 := Lib.hid e1; clear e1; have H_e2 := Lib.hid e2; clear e2
    go_enter Tryd.func27, Tryd.ntmps27
    go_wp2_with fail
    rw [H_hw0.out]
    go_wp2_with fail
    (with_reducible refine (H_q1.out _).mono ?_)
    rintro e w1 ⟨b, rfl, m1, b1⟩
    have c1 : Below w0.heap.size w0 w1 := Below.trans (by (repeat (first | with_reducible exact Below.refl _ _ | with_reducible exact Nat.le_refl _ | with_reducible assumption | with_reducible refine Below.drew ?_ | with_reducible refine below_drewN ?_ _ | with_reducible refine Below.alloc ?_ ?_ _ | with_reducible refine Below.setCell ?_ ?_ _ | with_reducible exact And.right (by assumption) | with_reducible refine Below.trans ?_ (Below.mono (by assumption) ?_) | with_reducible exact Below.size (And.right (by assumption)) | (focus omega) | (focus (simp; done)) | (focus (simp; omega)) | (focus (simp at *; omega))))) (b1.mono (by first | exact Nat.le_refl _ | omega | (simp; done) | (simp; omega)))
    have s1 := c1.size
    have bb1 := H_bb0.out.trans (c1.mono H_bb0.out.size)
    have k1 := H_k0.out.below c1
    have H_b1 := Lib.hid b1; clear b1; have H_c1 := Lib.hid c1; clear c1; have H_bb1 := Lib.hid bb1; clear bb1; have H_k1 := Lib.hid k1; clear k1
    have lk := rnd_look m1
    unfold rndV at lk
    have y0 := (H_k1.out 0 _ rfl).at
    have y1 := (H_k1.out 1 _ rfl).at
    have ly := (H_k1.out 0 _ rfl).lt
    have H_m1 := Lib.hid m1; clear m1
    go_wp2_with fail
    (with_reducible refine (H_q2.out _).mono ?_)
    rintro e w2 ⟨rfl, b2⟩
    have c2 : Below w1.heap.size w1 w2 := Below.trans (by (repeat (first | with_reducible exact Below.refl _ _ | with_reducible exact Nat.le_refl _ | with_reducible assumption | with_reducible refine Below.drew ?_ | with_reducible refine below_drewN ?_ _ | with_reducible refine Below.alloc ?_ ?_ _ | with_reducible refine Below.setCell ?_ ?_ _ | with_reducible exact And.right (by assumption) | with_reducible refine Below.trans ?_ (Below.mono (by assumption) ?_) | with_reducible exact Below.size (And.right (by assumption)) | (focus omega) | (focus (simp; done)) | (focus (simp; omega)) | (focus (simp at *; omega))))) (b2.mono (by first | exact Nat.le_refl _ | omega | (simp; done) | (simp; omega)))
    have s2 := c2.size
    have bb2 := H_bb1.out.trans (c2.mono H_bb1.out.size)
    have k2 := H_k1.out.below c2
    have H_b2 := Lib.hid b2; clear b2; have H_c2 := Lib.hid c2; clear c2; have H_bb2 := Lib.hid bb2; clear bb2; have H_k2 := Lib.hid k2; clear k2
    clear lk y0 y1 ly
    have y0 := (H_k2.out 0 _ rfl).at
    have y1 := (H_k2.out 1 _ rfl).at
    have r2 : Blk w2 w1.heap.size #[.func (.func 48) #[] #[]] := (blk_new rfl).below H_b2.out
    have z0 := (r2 0 _ rfl).at
    have H_r2 := Lib.hid r2; clear r2
    go_wp2_with fail
    go_ret2
    exact ⟨rfl, H_bb2.out⟩
  rw [hv] at q2
  by_cases h1 : n < -1000000000
  · have e2 : ptE n N D = 1 := by rw [ptE, if_neg (by rw [amtB_iff]; omega)]
    have e1 : ptV n N D = 0 := by rw [ptV, e2, if_neg (by omega)]
    have i1 : decide (n < -1000000000) = true := decide_eq_true h1
    rw [e1, e2]
    have H_hw0 := Lib.hid hw0; clear hw0; have H_bb0 := Lib.hid bb0; clear bb0; have H_k0 := Lib.hid k0; clear k0; have H_q1 := Lib.hid q1; clear q1; have H_q2 := Lib.hid q2; clear q2; have H_hn := Lib.hid hn; clear hn; have H_hN := Lib.hid hN; clear hN; have H_hD := Lib.hid hD; clear hD; have H_hv := Lib.hid hv; clear hv; have H_e1 := Lib.hid e1; clear e1; have H_e2 := Lib.hid e2; clear e2
    go_enter Tryd.func27, Tryd.ntmps27
    go_wp2_with fail
    rw [H_hw0.out]
    go_wp2_with fail
    (with_reducible refine (H_q1.out _).mono ?_)
    rintro e w1 ⟨b, rfl, m1, b1⟩
    have c1 : Below w0.heap.size w0 w1 := Below.trans (by (repeat (first | with_reducible exact Below.refl _ _ | with_reducible exact Nat.le_refl _ | with_reducible assumption | with_reducible refine Below.drew ?_ | with_reducible refine below_drewN ?_ _ | with_reducible refine Below.alloc ?_ ?_ _ | with_reducible refine Below.setCell ?_ ?_ _ | with_reducible exact And.right (by assumption) | with_reducible refine Below.trans ?_ (Below.mono (by assumption) ?_) | with_reducible exact Below.size (And.right (by assumption)) | (focus omega) | (focus (simp; done)) | (focus (simp; omega)) | (focus (simp at *; omega))))) (b1.mono (by first | exact Nat.le_refl _ | omega | (simp; done) | (simp; omega)))
    have s1 := c1.size
    have bb1 := H_bb0.out.trans (c1.mono H_bb0.out.size)
    have k1 := H_k0.out.below c1
    have H_b1 := Lib.hid b1; clear b1; have H_c1 := Lib.hid c1; clear c1; have H_bb1 := Lib.hid bb1; clear bb1; have H_k1 := Lib.hid k1; clear k1
    have lk := rnd_look m1
    unfold rndV at lk
    have y0 := (H_k1.out 0 _ rfl).at
    have y1 := (H_k1.out 1 _ rfl).at
    have ly := (H_k1.out 0 _ rfl).lt
    have H_m1 := Lib.hid m1; clear m1
    go_wp2_with fail
    (with_reducible refine (H_q2.out _).mono ?_)
    rintro e w2 ⟨rfl, b2⟩
    have c2 : Below w1.heap.size w1 w2 := Below.trans (by (repeat (first | with_reducible exact Below.refl _ _ | with_reducible exact Nat.le_refl _ | with_reducible assumption | with_reducible refine Below.drew ?_ | with_reducible refine below_drewN ?_ _ | with_reducible refine Below.alloc ?_ ?_ _ | with_reducible refine Below.setCell ?_ ?_ _ | with_reducible exact And.right (by assumption) | with_reducible refine Below.trans ?_ (Below.mono (by assumption) ?_) | with_reducible exact Below.size (And.right (by assumption)) | (focus omega) | (focus (simp; done)) | (focus (simp; omega)) | (focus (simp at *; omega))))) (b2.mono (by first | exact Nat.le_refl _ | omega | (simp; done) | (simp; omega)))
    have s2 := c2.size
    have bb2 := H_bb1.out.trans (c2.mono H_bb1.out.size)
    have k2 := H_k1.out.below c2
    have H_b2 := Lib.hid b2; clear b2; have H_c2 := Lib.hid c2; clear c2; have H_bb2 := Lib.hid bb2; clear bb2; have H_k2 := Lib.hid k2; clear k2
    clear lk y0 y1 ly
    have y0 := (H_k2.out 0 _ rfl).at
    have y1 := (H_k2.out 1 _ rfl).at
    have r2 : Blk w2 w1.heap.size #[.func (.func 48) #[] #[]] := (blk_new rfl).below H_b2.out
    have z0 := (r2 0 _ rfl).at
    have H_r2 := Lib.hid r2; clear r2
    go_wp2_with fail
    go_ret2
    exact ⟨rfl, H_bb2.out⟩
  have i1 : decide (n < -1000000000) = false := decide_eq_false h1
  by_cases h2 : 1000000000 < n
  · have e2 : ptE n N D = 1 := by rw [ptE, if_neg (by rw [amtB_iff]; omega)]
    have e1 : ptV n N D = 0 := by rw [ptV, e2, if_neg (by omega)]
    have i2 : decide (1000000000 < n) = true := decide_eq_true h2
    rw [e1, e2]
    have H_hw0 := Lib.hid hw0; clear hw0; have H_bb0 := Lib.hid bb0; clear bb0; have H_k0 := Lib.hid k0; clear k0; have H_q1 := Lib.hid q1; clear q1; have H_q2 := Lib.hid q2; clear q2; have H_hn := Lib.hid hn; clear hn; have H_hN := Lib.hid hN; clear hN; have H_hD := Lib.hid hD; clear hD; have H_hv := Lib.hid hv; clear hv; have H_e1 := Lib.hid e1; clear e1; have H_e2 := Lib.hid e2; clear e2
    go_enter Tryd.func27, Tryd.ntmps27
    go_wp2_with fail
    rw [H_hw0.out]
    go_wp2_with fail
    (with_reducible refine (H_q1.out _).mono ?_)
    rintro e w1 ⟨b, rfl, m1, b1⟩
    have c1 : Below w0.heap.size w0 w1 := Below.trans (by (repeat (first | with_reducible exact Below.refl _ _ | with_reducible exact Nat.le_refl _ | with_reducible assumption | with_reducible refine Below.drew ?_ | with_reducible refine below_drewN ?_ _ | with_reducible refine Below.alloc ?_ ?_ _ | with_reducible refine Below.setCell ?_ ?_ _ | with_reducible exact And.right (by assumption) | with_reducible refine Below.trans ?_ (Below.mono (by assumption) ?_) | with_reducible exact Below.size (And.right (by assumption)) | (focus omega) | (focus (simp; done)) | (focus (simp; omega)) | (focus (simp at *; omega))))) (b1.mono (by first | exact Nat.le_refl _ | omega | (simp; done) | (simp; omega)))
    have s1 := c1.size
    have bb1 := H_bb0.out.trans (c1.mono H_bb0.out.size)
    have k1 := H_k0.out.below c1
    have H_b1 := Lib.hid b1; clear b1; have H_c1 := Lib.hid c1; clear c1; have H_bb1 := Lib.hid bb1; clear bb1; have H_k1 := Lib.hid k1; clear k1
    have lk := rnd_look m1
    unfold rndV at lk
    have y0 := (H_k1.out 0 _ rfl).at
    have y1 := (H_k1.out 1 _ rfl).at
    have ly := (H_k1.out 0 _ rfl).lt
    have H_m1 := Lib.hid m1; clear m1
    go_wp2_with fail
    (with_reducible refine (H_q2.out _).mono ?_)
    rintro e w2 ⟨rfl, b2⟩
    have c2 : Below w1.heap.size w1 w2 := Below.trans (by (repeat (first | with_reducible exact Below.refl _ _ | with_reducible exact Nat.le_refl _ | with_reducible assumption | with_reducible refine Below.drew ?_ | with_reducible refine below_drewN ?_ _ | with_reducible refine Below.alloc ?_ ?_ _ | with_reducible refine Below.setCell ?_ ?_ _ | with_reducible exact And.right (by assumption) | with_reducible refine Below.trans ?_ (Below.mono (by assumption) ?_) | with_reducible exact Below.size (And.right (by assumption)) | (focus omega) | (focus (simp; done)) | (focus (simp; omega)) | (focus (simp at *; omega))))) (b2.mono (by first | exact Nat.le_refl _ | omega | (simp; done) | (simp; omega)))
    have s2 := c2.size
    have bb2 := H_bb1.out.trans (c2.mono H_bb1.out.size)
    have k2 := H_k1.out.below c2
    have H_b2 := Lib.hid b2; clear b2; have H_c2 := Lib.hid c2; clear c2; have H_bb2 := Lib.hid bb2; clear bb2; have H_k2 := Lib.hid k2; clear k2
    clear lk y0 y1 ly
    have y0 := (H_k2.out 0 _ rfl).at
    have y1 := (H_k2.out 1 _ rfl).at
    have r2 : Blk w2 w1.heap.size #[.func (.func 48) #[] #[]] := (blk_new rfl).below H_b2.out
    have z0 := (r2 0 _ rfl).at
    have H_r2 := Lib.hid r2; clear r2
    go_wp2_with fail
    go_ret2
    exact ⟨rfl, H_bb2.out⟩
  have i2 : decide (1000000000 < n) = false := decide_eq_false h2
  have ha : amtB n = true := amtB_iff.2 (by omega)
  have hr := hv
  simp only [ratB, Bool.and_eq_true, amtB_iff, decide_eq_true_eq] at hr
  have hx : -1000000000000000000 ≤ n * N ∧ n * N ≤ 1000000000000000000 := by
    have h := Nat.mul_le_mul (show n.natAbs ≤ 1000000000 by omega) (show N.natAbs ≤ 1000000000 by omega)
    rw [← Int.natAbs_mul] at h
    omega
  have k1 : IntKind.i64.wrap (n * N) = n * N := IntWalk.i64_in _ (by omega)
  have q3 := fun W => round_any (n * N) D hx (by omega) W
  have bR : -1000000000000000001 ≤ rdE (n * N) D ∧ rdE (n * N) D ≤ 1000000000000000001 := by
    have a := rdE_le (x := n * N) (d := D) (B := 1000000000000000000) (by omega) (by omega) (by omega)
    have b := rdE_ge (x := n * N) (d := D) (B := 1000000000000000000) (by omega) (by omega) (by omega)
    omega
  have q4 := fun W => size_any (rdE (n * N) D) W (by omega)
  have eE : ptE n N D = if amtB (rdE (n * N) D) = true then 0 else 3 := by rw [ptE, if_pos ⟨hv, ha⟩]
  have eV : ptV n N D = if amtB (rdE (n * N) D) = true then rdE (n * N) D else 0 := by
    rw [ptV, eE]
    by_cases h : amtB (rdE (n * N) D) = true
    · rw [if_pos h, if_pos rfl, if_pos h]
    · rw [if_neg h, if_neg (by omega), if_neg h]
  rw [eE, eV]
  clear eE eV
  generalize rdE (n * N) D = R at *
  by_cases hR : 1000000000 < (R.natAbs : Int)
  · have i3 : decide (1000000000 < (R.natAbs : Int)) = true := decide_eq_true hR
    have hm : ¬ amtB R = true := by rw [amtB_iff]; omega
    rw [if_neg hm, if_neg hm]
    have H_hw0 := Lib.hid hw0; clear hw0; have H_bb0 := Lib.hid bb0; clear bb0; have H_k0 := Lib.hid k0; clear k0; have H_q1 := Lib.hid q1; clear q1; have H_q2 := Lib.hid q2; clear q2; have H_hn := Lib.hid hn; clear hn; have H_hN := Lib.hid hN; clear hN; have H_hD := Lib.hid hD; clear hD; have H_hv := Lib.hid hv; clear hv; have H_hr := Lib.hid hr; clear hr; have H_hx := Lib.hid hx; clear hx; have H_bR := Lib.hid bR; clear bR; have H_h1 := Lib.hid h1; clear h1; have H_h2 := Lib.hid h2; clear h2; have H_ha := Lib.hid ha; clear ha; have H_q3 := Lib.hid q3; clear q3; have H_q4 := Lib.hid q4; clear q4; have H_hR := Lib.hid hR; clear hR; have H_hm := Lib.hid hm; clear hm
    go_enter Tryd.func27, Tryd.ntmps27
    go_wp2_with fail
    rw [H_hw0.out]
    go_wp2_with fail
    (with_reducible refine (H_q1.out _).mono ?_)
    rintro e w1 ⟨b, rfl, m1, b1⟩
    have c1 : Below w0.heap.size w0 w1 := Below.trans (by (repeat (first | with_reducible exact Below.refl _ _ | with_reducible exact Nat.le_refl _ | with_reducible assumption | with_reducible refine Below.drew ?_ | with_reducible refine below_drewN ?_ _ | with_reducible refine Below.alloc ?_ ?_ _ | with_reducible refine Below.setCell ?_ ?_ _ | with_reducible exact And.right (by assumption) | with_reducible refine Below.trans ?_ (Below.mono (by assumption) ?_) | with_reducible exact Below.size (And.right (by assumption)) | (focus omega) | (focus (simp; done)) | (focus (simp; omega)) | (focus (simp at *; omega))))) (b1.mono (by first | exact Nat.le_refl _ | omega | (simp; done) | (simp; omega)))
    have s1 := c1.size
    have bb1 := H_bb0.out.trans (c1.mono H_bb0.out.size)
    have k1 := H_k0.out.below c1
    have H_b1 := Lib.hid b1; clear b1; have H_c1 := Lib.hid c1; clear c1; have H_bb1 := Lib.hid bb1; clear bb1; have H_k1 := Lib.hid k1; clear k1
    have lk := rnd_look m1
    unfold rndV at lk
    have y0 := (H_k1.out 0 _ rfl).at
    have y1 := (H_k1.out 1 _ rfl).at
    have ly := (H_k1.out 0 _ rfl).lt
    have H_m1 := Lib.hid m1; clear m1
    go_wp2_with fail
    (with_reducible refine (H_q2.out _).mono ?_)
    rintro e w2 ⟨rfl, b2⟩
    have c2 : Below w1.heap.size w1 w2 := Below.trans (by (repeat (first | with_reducible exact Below.refl _ _ | with_reducible exact Nat.le_refl _ | with_reducible assumption | with_reducible refine Below.drew ?_ | with_reducible refine below_drewN ?_ _ | with_reducible refine Below.alloc ?_ ?_ _ | with_reducible refine Below.setCell ?_ ?_ _ | with_reducible exact And.right (by assumption) | with_reducible refine Below.trans ?_ (Below.mono (by assumption) ?_) | with_reducible exact Below.size (And.right (by assumption)) | (focus omega) | (focus (simp; done)) | (focus (simp; omega)) | (focus (simp at *; omega))))) (b2.mono (by first | exact Nat.le_refl _ | omega | (simp; done) | (simp; omega)))
    have s2 := c2.size
    have bb2 := H_bb1.out.trans (c2.mono H_bb1.out.size)
    have k2 := H_k1.out.below c2
    have H_b2 := Lib.hid b2; clear b2; have H_c2 := Lib.hid c2; clear c2; have H_bb2 := Lib.hid bb2; clear bb2; have H_k2 := Lib.hid k2; clear k2
    clear lk y0 y1 ly
    have y0 := (H_k2.out 0 _ rfl).at
    have y1 := (H_k2.out 1 _ rfl).at
    have r2 : Blk w2 w1.heap.size #[.func (.func 48) #[] #[]] := (blk_new rfl).below H_b2.out
    have z0 := (r2 0 _ rfl).at
    have H_r2 := Lib.hid r2; clear r2
    go_wp2_with fail
    (with_reducible refine (H_q3.out _).mono ?_)
    rintro e w3 ⟨rfl, b3⟩
    have c3 : Below w2.heap.size w2 w3 := Below.trans (by (repeat (first | with_reducible exact Below.refl _ _ | with_reducible exact Nat.le_refl _ | with_reducible assumption | with_reducible refine Below.drew ?_ | with_reducible refine below_drewN ?_ _ | with_reducible refine Below.alloc ?_ ?_ _ | with_reducible refine Below.setCell ?_ ?_ _ | with_reducible exact And.right (by assumption) | with_reducible refine Below.trans ?_ (Below.mono (by assumption) ?_) | with_reducible exact Below.size (And.right (by assumption)) | (focus omega) | (focus (simp; done)) | (focus (simp; omega)) | (focus (simp at *; omega))))) (b3.mono (by first | exact Nat.le_refl _ | omega | (simp; done) | (simp; omega)))
    have s3 := c3.size
    have bb3 := H_bb2.out.trans (c3.mono H_bb2.out.size)
    have H_b3 := Lib.hid b3; clear b3; have H_c3 := Lib.hid c3; clear c3; have H_bb3 := Lib.hid bb3; clear bb3
    go_wp2_with fail
    (with_reducible refine (H_q4.out _).mono ?_)
    rintro e w_ ⟨rfl, rfl⟩
    go_wp2_with fail
    go_ret2
    exact ⟨rfl, H_bb3.out⟩
  · have i3 : decide (1000000000 < (R.natAbs : Int)) = false := decide_eq_false hR
    have hm : amtB R = true := by rw [amtB_iff]; omega
    rw [if_pos hm, if_pos hm]
    have H_hw0 := Lib.hid hw0; clear hw0; have H_bb0 := Lib.hid bb0; clear bb0; have H_k0 := Lib.hid k0; clear k0; have H_q1 := Lib.hid q1; clear q1; have H_q2 := Lib.hid q2; clear q2; have H_hn := Lib.hid hn; clear hn; have H_hN := Lib.hid hN; clear hN; have H_hD := Lib.hid hD; clear hD; have H_hv := Lib.hid hv; clear hv; have H_hr := Lib.hid hr; clear hr; have H_hx := Lib.hid hx; clear hx; have H_bR := Lib.hid bR; clear bR; have H_h1 := Lib.hid h1; clear h1; have H_h2 := Lib.hid h2; clear h2; have H_ha := Lib.hid ha; clear ha; have H_q3 := Lib.hid q3; clear q3; have H_q4 := Lib.hid q4; clear q4; have H_hR := Lib.hid hR; clear hR; have H_hm := Lib.hid hm; clear hm
    go_enter Tryd.func27, Tryd.ntmps27
    go_wp2_with fail
    rw [H_hw0.out]
    go_wp2_with fail
    (with_reducible refine (H_q1.out _).mono ?_)
    rintro e w1 ⟨b, rfl, m1, b1⟩
    have c1 : Below w0.heap.size w0 w1 := Below.trans (by (repeat (first | with_reducible exact Below.refl _ _ | with_reducible exact Nat.le_refl _ | with_reducible assumption | with_reducible refine Below.drew ?_ | with_reducible refine below_drewN ?_ _ | with_reducible refine Below.alloc ?_ ?_ _ | with_reducible refine Below.setCell ?_ ?_ _ | with_reducible exact And.right (by assumption) | with_reducible refine Below.trans ?_ (Below.mono (by assumption) ?_) | with_reducible exact Below.size (And.right (by assumption)) | (focus omega) | (focus (simp; done)) | (focus (simp; omega)) | (focus (simp at *; omega))))) (b1.mono (by first | exact Nat.le_refl _ | omega | (simp; done) | (simp; omega)))
    have s1 := c1.size
    have bb1 := H_bb0.out.trans (c1.mono H_bb0.out.size)
    have k1 := H_k0.out.below c1
    have H_b1 := Lib.hid b1; clear b1; have H_c1 := Lib.hid c1; clear c1; have H_bb1 := Lib.hid bb1; clear bb1; have H_k1 := Lib.hid k1; clear k1
    have lk := rnd_look m1
    unfold rndV at lk
    have y0 := (H_k1.out 0 _ rfl).at
    have y1 := (H_k1.out 1 _ rfl).at
    have ly := (H_k1.out 0 _ rfl).lt
    have H_m1 := Lib.hid m1; clear m1
    go_wp2_with fail
    (with_reducible refine (H_q2.out _).mono ?_)
    rintro e w2 ⟨rfl, b2⟩
    have c2 : Below w1.heap.size w1 w2 := Below.trans (by (repeat (first | with_reducible exact Below.refl _ _ | with_reducible exact Nat.le_refl _ | with_reducible assumption | with_reducible refine Below.drew ?_ | with_reducible refine below_drewN ?_ _ | with_reducible refine Below.alloc ?_ ?_ _ | with_reducible refine Below.setCell ?_ ?_ _ | with_reducible exact And.right (by assumption) | with_reducible refine Below.trans ?_ (Below.mono (by assumption) ?_) | with_reducible exact Below.size (And.right (by assumption)) | (focus omega) | (focus (simp; done)) | (focus (simp; omega)) | (focus (simp at *; omega))))) (b2.mono (by first | exact Nat.le_refl _ | omega | (simp; done) | (simp; omega)))
    have s2 := c2.size
    have bb2 := H_bb1.out.trans (c2.mono H_bb1.out.size)
    have k2 := H_k1.out.below c2
    have H_b2 := Lib.hid b2; clear b2; have H_c2 := Lib.hid c2; clear c2; have H_bb2 := Lib.hid bb2; clear bb2; have H_k2 := Lib.hid k2; clear k2
    clear lk y0 y1 ly
    have y0 := (H_k2.out 0 _ rfl).at
    have y1 := (H_k2.out 1 _ rfl).at
    have r2 : Blk w2 w1.heap.size #[.func (.func 48) #[] #[]] := (blk_new rfl).below H_b2.out
    have z0 := (r2 0 _ rfl).at
    have H_r2 := Lib.hid r2; clear r2
    go_wp2_with fail
    (with_reducible refine (H_q3.out _).mono ?_)
    rintro e w3 ⟨rfl, b3⟩
    have c3 : Below w2.heap.size w2 w3 := Below.trans (by (repeat (first | with_reducible exact Below.refl _ _ | with_reducible exact Nat.le_refl _ | with_reducible assumption | with_reducible refine Below.drew ?_ | with_reducible refine below_drewN ?_ _ | with_reducible refine Below.alloc ?_ ?_ _ | with_reducible refine Below.setCell ?_ ?_ _ | with_reducible exact And.right (by assumption) | with_reducible refine Below.trans ?_ (Below.mono (by assumption) ?_) | with_reducible exact Below.size (And.right (by assumption)) | (focus omega) | (focus (simp; done)) | (focus (simp; omega)) | (focus (simp at *; omega))))) (b3.mono (by first | exact Nat.le_refl _ | omega | (simp; done) | (simp; omega)))
    have s3 := c3.size
    have bb3 := H_bb2.out.trans (c3.mono H_bb2.out.size)
    have H_b3 := Lib.hid b3; clear b3; have H_c3 := Lib.hid c3; clear c3; have H_bb3 := Lib.hid bb3; clear bb3
    go_wp2_with fail
    (with_reducible refine (H_q4.out _).mono ?_)
    rintro e w_ ⟨rfl, rfl⟩
    go_wp2_with fail
    go_ret2
    exact ⟨rfl, H_bb3.out⟩
end Go.Proofs.YtaloadadecoogaaDoor

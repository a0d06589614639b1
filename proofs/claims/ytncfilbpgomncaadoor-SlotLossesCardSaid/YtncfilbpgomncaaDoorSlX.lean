/- The examples of the statements about slots. -/
import Derived.Test.YtncfilbpgomncaaDoorSlW
namespace Go.Proofs.YtncfilbpgomncaaDoor
set_option linter.unusedSimpArgs false
set_option linter.unusedVariables false
set_option maxRecDepth 100000
open Go.RowKit

theorem ints1 {w : World} {g : Nat} {a : Int} (hg : g < w.heap.size) (h0 : w.cell? ⟨g, 0, none⟩ = some (.int .i64 a)) : IntsAt w (some ⟨g, 0, none⟩) .i64 [a] := fun i hi => by
  obtain rfl : i = 0 := by simpa using hi
  exact ⟨g, 0, rfl, hg, h0⟩
theorem ints2 {w : World} {g : Nat} {a b : Int} (hg : g < w.heap.size) (h0 : w.cell? ⟨g, 0, none⟩ = some (.int .i64 a)) (h1 : w.cell? ⟨g, 1, none⟩ = some (.int .i64 b)) : IntsAt w (some ⟨g, 0, none⟩) .i64 [a, b] := fun i hi => by
  rcases (by simp at hi; omega : i = 0 ∨ i = 1) with rfl | rfl
  · exact ⟨g, 0, rfl, hg, h0⟩
  · exact ⟨g, 0, rfl, hg, h1⟩
theorem ints3 {w : World} {g : Nat} {a b c : Int} (hg : g < w.heap.size) (h0 : w.cell? ⟨g, 0, none⟩ = some (.int .i64 a)) (h1 : w.cell? ⟨g, 1, none⟩ = some (.int .i64 b)) (h2 : w.cell? ⟨g, 2, none⟩ = some (.int .i64 c)) : IntsAt w (some ⟨g, 0, none⟩) .i64 [a, b, c] := fun i hi => by
  rcases (by simp at hi; omega : i = 0 ∨ i = 1 ∨ i = 2) with rfl | rfl | rfl
  · exact ⟨g, 0, rfl, hg, h0⟩
  · exact ⟨g, 0, rfl, hg, h1⟩
  · exact ⟨g, 0, rfl, hg, h2⟩

def exP : Slt := Slt.made 1 7 []
def exM : Slt := Slt.made 2 8 [5]
def exT : Slt := ⟨2, 8, [5], (sumS 2 8 [5] + 1) % 18446744073709551616⟩
theorem exP_ok : exP.ok = true := made_ok (by decide)
theorem exM_ok : exM.ok = true := made_ok (by decide)
theorem exT_ok : exT.ok = false := torn_ok _ _ _
theorem isP (w : World) (A : Option Addr) : SlotIs w A 0 exP := ⟨rfl, by simp only [exP, Slt.made]; omega, by simp only [exP, Slt.made]; omega, IntsAt.nil, by omega, fun x hx => by simp [exP, Slt.made] at hx, by simp only [exP, Slt.made]; exact sumS_in _ _ _⟩
theorem fit5 : Fit [5] := fit_small (by simp)
theorem fit55 : Fit [5, 5] := fit_small (by simp)
theorem isM {w : World} {A : Option Addr} (h : IntsAt w A .i64 [5]) : SlotIs w A 1 exM := ⟨rfl, by simp only [exM, Slt.made]; omega, by simp only [exM, Slt.made]; omega, h, by omega, fit5, by simp only [exM, Slt.made]; exact sumS_in _ _ _⟩
theorem isT {w : World} {A : Option Addr} (h : IntsAt w A .i64 [5]) : SlotIs w A 1 exT := ⟨rfl, by simp only [exT]; omega, by simp only [exT]; omega, h, by omega, fit5, by simp only [exT]; omega⟩
theorem best0 : bestI Slt.zero Slt.zero = 0 ∧ bestB Slt.zero Slt.zero = false := by simp [bestI, bestB, zero_ok]
theorem best1 : bestI exP Slt.zero = 0 ∧ bestB exP Slt.zero = true := by simp [bestI, bestB, zero_ok, exP_ok]
theorem best2 : bestI exP exT = 0 ∧ bestB exP exT = true := by simp [bestI, bestB, exT_ok, exP_ok]
theorem best3 : bestI exP exM = 1 ∧ bestB exP exM = true := by
  have : decide (exP.s < exM.s) = true := by decide
  simp only [bestI, bestB, exM_ok, exP_ok, this]; decide
theorem top0 : topS Slt.zero Slt.zero = 0 := by simp [topS, best0.2]
theorem top1 : topS exP Slt.zero = 1 := by simp [topS, best1.1, best1.2]; rfl
theorem into00 : into0 Slt.zero Slt.zero = true := by simp [into0, best0.2]
theorem into01 : into0 exP Slt.zero = false := by simp [into0, best1.1, best1.2]
theorem w1E : wrE Slt.zero Slt.zero 7 [] 3 = 0 := by
  have h : fldB 0 7 [] = true := by decide
  have h2 : wB 3 0 3 = true := by decide
  rw [wrE, if_neg (by simp), if_neg (by simp [h]), if_neg (by simp [h2]), top0, if_neg (by omega)]
theorem w1_0 : wr0 Slt.zero Slt.zero 7 [] 3 = exP := by rw [wr0, if_pos w1E, if_pos ⟨into00, by omega⟩, wrS, top0]; rfl
theorem w1_1 : wr1 Slt.zero Slt.zero 7 [] 3 = Slt.zero := by rw [wr1, if_pos w1E, if_neg (by simp [into00])]
theorem w2E (a : Int) (ha : wB a 0 3 = true) : wrE exP Slt.zero 8 [5] a = 0 := by
  have h : fldB 0 8 [5] = true := by decide
  rw [wrE, if_neg (by simp), if_neg (by simp [h]), if_neg (by simp [ha]), top1, if_neg (by omega)]
theorem w2_0 (a : Int) (ha : wB a 0 3 = true) : wr0 exP Slt.zero 8 [5] a = exP := by rw [wr0, if_pos (w2E a ha), if_neg (by simp [into01])]
theorem w2_1 : wr1 exP Slt.zero 8 [5] 1 = exT := by rw [wr1, if_pos (w2E 1 (by decide)), if_pos ⟨into01, by omega⟩, wrS, top1]; rfl
theorem w3_1 : wr1 exP Slt.zero 8 [5] 2 = exM := by rw [wr1, if_pos (w2E 2 (by decide)), if_pos ⟨into01, by omega⟩, wrS, top1]; rfl
theorem w4E : wrE exP Slt.zero 8 [5, 5] 2 = 1 := by
  have h : fldB 0 8 [5, 5] = false := by decide
  rw [wrE, if_neg (by simp), if_pos h]
theorem w5E : wrE exP Slt.zero 8 [] 4 = 1 := by
  have h : fldB 0 8 [] = true := by decide
  have h2 : wB 4 0 3 = false := by decide
  rw [wrE, if_neg (by simp), if_neg (by simp [h]), if_pos h2]
theorem w45 {c : Int} {l : List Int} {a : Int} (h : wrE exP Slt.zero c l a = 1) : wr0 exP Slt.zero c l a = Slt.zero ∧ wr1 exP Slt.zero c l a = Slt.zero := by
  rw [wr0, wr1, h, if_neg (by omega), if_neg (by omega)]; exact ⟨rfl, rfl⟩

set_option maxHeartbeats 8000000 in
theorem head36_any (w0 : World) (ht : Tab w0) : Calls Tryd.prog 30 #[] w0 fun e w' => e = .returned (.bool true) ∧ Below w0.heap.size w0 w' := by
  have q1 := fun W A p B q (h : Tab W) => best_any Slt.zero Slt.zero A 0 p B 0 q W (slotIs_zero W A) (slotIs_zero W B) h
  rw [best0.1, best0.2] at q1
  have q2 := fun W A p B q X x (h : Tab W) => write_any Slt.zero Slt.zero 7 3 A 0 p B 0 q X 0 x [] rfl W (slotIs_zero W A) (slotIs_zero W B) (by omega) IntsAt.nil (by omega) (fun x hx => by simp at hx) h
  rw [w1_0, w1_1, w1E] at q2
  have q3 := fun W A p B q (h : Tab W) => best_any exP Slt.zero A 0 p B 0 q W (isP W A) (slotIs_zero W B) h
  rw [best1.1, best1.2] at q3
  have q4 := fun W A p B q X x (h : IntsAt W X .i64 [5]) (h2 : Tab W) => write_any exP Slt.zero 8 1 A 0 p B 0 q X 1 x [5] rfl W (isP W A) (slotIs_zero W B) (by omega) h (by omega) fit5 h2
  rw [w2_0 1 (by decide), w2_1, w2E 1 (by decide)] at q4
  have q5 := fun W A p B q (h0 : IntsAt W B .i64 [5]) (h : Tab W) => best_any exP exT A 0 p B 1 q W (isP W A) (isT h0) h
  rw [best2.1, best2.2] at q5
  have q6 := fun W A p B q X x (h : IntsAt W X .i64 [5]) (h2 : Tab W) => write_any exP Slt.zero 8 2 A 0 p B 0 q X 1 x [5] rfl W (isP W A) (slotIs_zero W B) (by omega) h (by omega) fit5 h2
  rw [w2_0 2 (by decide), w3_1, w2E 2 (by decide)] at q6
  have q7 := fun W A p B q (h0 : IntsAt W B .i64 [5]) (h : Tab W) => best_any exP exM A 0 p B 1 q W (isP W A) (isM h0) h
  rw [best3.1, best3.2] at q7
  have q8 := fun W A p B q X x (h : IntsAt W X .i64 [5, 5]) (h2 : Tab W) => write_any exP Slt.zero 8 2 A 0 p B 0 q X 2 x [5, 5] rfl W (isP W A) (slotIs_zero W B) (by omega) h (by omega) fit55 h2
  rw [(w45 w4E).1, (w45 w4E).2, w4E] at q8
  have q9 := fun W A p B q X x (h2 : Tab W) => write_any exP Slt.zero 8 4 A 0 p B 0 q X 0 x [] rfl W (isP W A) (slotIs_zero W B) (by omega) IntsAt.nil (by omega) (fun x hx => by simp at hx) h2
  rw [(w45 w5E).1, (w45 w5E).2, w5E] at q9
  have r1 := fun W X x (h : IntsAt W X .i64 [1, 7]) h2 => digNext_val 0 X x 2 [1, 7] rfl (sumS 1 7 []) rfl W (by omega) h (by omega) (fit_small (by simp)) h2
  have r2 := fun W X x (h : IntsAt W X .i64 [2, 8, 5]) h2 => digNext_val 0 X x 3 [2, 8, 5] rfl (sumS 2 8 [5]) rfl W (by omega) h (by omega) (fit_small (by simp)) h2
  have r3 := fun W A p B q => rsame_at exP exP A 0 p rfl B 0 q rfl W (by omega) (by omega) IntsAt.nil IntsAt.nil
  have r4 := fun W A p B q h h2 => rsame_at exM exM A 1 p rfl B 1 q rfl W (by omega) (by omega) h h2
  rw [sameS_self] at r3 r4
  have r5 := fun W A p (h : IntsAt W A .i64 [5]) h2 => valid_at p (isT h) h2
  have r6 := fun W A p (h : IntsAt W A .i64 [5]) h2 => valid_at p (isM h) h2
  rw [exT_ok] at r5
  rw [exM_ok] at r6
  unfold SlotsErr at q2 q4 q6 q8 q9
  simp only [exP, exM, exT, Slt.made, Slt.zero, List.length_cons, List.length_nil, Nat.zero_add] at q1 q2 q3 q4 q5 q6 q7 q8 q9 r3 r4 r5 r6
  generalize sumS 1 7 [] = U1 at *
  generalize (sumS 2 8 [5] + 1) % 18446744073709551616 = U3 at *
  generalize sumS 2 8 [5] = U2 at *
  have bb0 := Below.refl w0.heap.size w0
  have t0 := ht
  have H_q1 := Lib.hid q1; clear q1; have H_q2 := Lib.hid q2; clear q2; have H_q3 := Lib.hid q3; clear q3; have H_q4 := Lib.hid q4; clear q4; have H_q5 := Lib.hid q5; clear q5; have H_q6 := Lib.hid q6; clear q6; have H_q7 := Lib.hid q7; clear q7; have H_q8 := Lib.hid q8; clear q8; have H_q9 := Lib.hid q9; clear q9; have H_r1 := Lib.hid r1; clear r1; have H_r2 := Lib.hid r2; clear r2; have H_r3 := Lib.hid r3; clear r3; have H_r4 := Lib.hid r4; clear r4; have H_r5 := Lib.hid r5; clear r5; have H_r6 := Lib.hid r6; clear r6; have H_bb0 := Lib.hid bb0; clear bb0; have H_t0 := Lib.hid t0; clear t0; have H_ht := Lib.hid ht; clear ht
  go_enter Tryd.func30, Tryd.ntmps30
  go_wp2_with fail
  (with_reducible refine (H_q1.out _ none 0 none 0 ?_).mono ?_)
  · exact H_t0.out.below (show Below w0.heap.size w0 _ by (repeat (first | with_reducible exact Below.refl _ _ | with_reducible exact Nat.le_refl _ | with_reducible assumption | with_reducible refine Below.drew ?_ | with_reducible refine below_drewN ?_ _ | with_reducible refine Below.alloc ?_ ?_ _ | with_reducible refine Below.setCell ?_ ?_ _ | with_reducible exact And.right (by assumption) | with_reducible refine Below.trans ?_ (Below.mono (by assumption) ?_) | with_reducible exact Below.size (And.right (by assumption)) | (focus omega) | (focus (simp; done)) | (focus (simp; omega)) | (focus (simp at *; omega)))))
  rintro e w1 ⟨rfl, b1⟩
  have c1 : Below w0.heap.size w0 w1 := Below.trans (by (repeat (first | with_reducible exact Below.refl _ _ | with_reducible exact Nat.le_refl _ | with_reducible assumption | with_reducible refine Below.drew ?_ | with_reducible refine below_drewN ?_ _ | with_reducible refine Below.alloc ?_ ?_ _ | with_reducible refine Below.setCell ?_ ?_ _ | with_reducible exact And.right (by assumption) | with_reducible refine Below.trans ?_ (Below.mono (by assumption) ?_) | with_reducible exact Below.size (And.right (by assumption)) | (focus omega) | (focus (simp; done)) | (focus (simp; omega)) | (focus (simp at *; omega))))) (b1.mono (by first | exact Nat.le_refl _ | omega | (simp; done) | (simp; omega)))
  have s1 := c1.size
  have bb1 := H_bb0.out.trans (c1.mono H_bb0.out.size)
  have t1 := H_t0.out.below c1
  have H_b1 := Lib.hid b1; clear b1; have H_c1 := Lib.hid c1; clear c1; have H_bb1 := Lib.hid bb1; clear bb1; have H_t1 := Lib.hid t1; clear t1
  have z1 : Blk w1 w0.heap.size #[.int .i64 0, .int .i64 0, .slice none 0 0, .int .u64 0, .int .i64 0, .int .i64 0, .slice none 0 0, .int .u64 0] := (blk_new rfl).below H_b1.out
  have H_z1 := Lib.hid z1; clear z1
  have z0 := (H_z1.out 0 _ rfl).at
  have z1 := (H_z1.out 1 _ rfl).at
  have z2 := (H_z1.out 2 _ rfl).at
  have z3 := (H_z1.out 3 _ rfl).at
  have z4 := (H_z1.out 4 _ rfl).at
  have z5 := (H_z1.out 5 _ rfl).at
  have z6 := (H_z1.out 6 _ rfl).at
  have z7 := (H_z1.out 7 _ rfl).at
  go_wp2_with fail
  (with_reducible refine (H_q2.out _ none 0 none 0 none 0 ?_).mono ?_)
  · exact H_t1.out.below (show Below w1.heap.size w1 _ by (repeat (first | with_reducible exact Below.refl _ _ | with_reducible exact Nat.le_refl _ | with_reducible assumption | with_reducible refine Below.drew ?_ | with_reducible refine below_drewN ?_ _ | with_reducible refine Below.alloc ?_ ?_ _ | with_reducible refine Below.setCell ?_ ?_ _ | with_reducible exact And.right (by assumption) | with_reducible refine Below.trans ?_ (Below.mono (by assumption) ?_) | with_reducible exact Below.size (And.right (by assumption)) | (focus omega) | (focus (simp; done)) | (focus (simp; omega)) | (focus (simp at *; omega)))))
  rintro e w2 ⟨A, p, B, q, rfl, hA, hB, b2⟩
  have c2 : Below w1.heap.size w1 w2 := Below.trans (by (repeat (first | with_reducible exact Below.refl _ _ | with_reducible exact Nat.le_refl _ | with_reducible assumption | with_reducible refine Below.drew ?_ | with_reducible refine below_drewN ?_ _ | with_reducible refine Below.alloc ?_ ?_ _ | with_reducible refine Below.setCell ?_ ?_ _ | with_reducible exact And.right (by assumption) | with_reducible refine Below.trans ?_ (Below.mono (by assumption) ?_) | with_reducible exact Below.size (And.right (by assumption)) | (focus omega) | (focus (simp; done)) | (focus (simp; omega)) | (focus (simp at *; omega))))) (b2.mono (by first | exact Nat.le_refl _ | omega | (simp; done) | (simp; omega)))
  have s2 := c2.size
  have bb2 := H_bb1.out.trans (c2.mono H_bb1.out.size)
  have t2 := H_t1.out.below c2
  have H_b2 := Lib.hid b2; clear b2; have H_c2 := Lib.hid c2; clear c2; have H_bb2 := Lib.hid bb2; clear bb2; have H_t2 := Lib.hid t2; clear t2
  clear z0 z1 z2 z3 z4 z5 z6 z7
  go_wp2_with fail
  (with_reducible refine (H_q3.out _ A p B q ?_).mono ?_)
  · exact H_t2.out.below (show Below w2.heap.size w2 _ by (repeat (first | with_reducible exact Below.refl _ _ | with_reducible exact Nat.le_refl _ | with_reducible assumption | with_reducible refine Below.drew ?_ | with_reducible refine below_drewN ?_ _ | with_reducible refine Below.alloc ?_ ?_ _ | with_reducible refine Below.setCell ?_ ?_ _ | with_reducible exact And.right (by assumption) | with_reducible refine Below.trans ?_ (Below.mono (by assumption) ?_) | with_reducible exact Below.size (And.right (by assumption)) | (focus omega) | (focus (simp; done)) | (focus (simp; omega)) | (focus (simp at *; omega)))))
  rintro e w3 ⟨rfl, b3⟩
  have c3 : Below w2.heap.size w2 w3 := Below.trans (by (repeat (first | with_reducible exact Below.refl _ _ | with_reducible exact Nat.le_refl _ | with_reducible assumption | with_reducible refine Below.drew ?_ | with_reducible refine below_drewN ?_ _ | with_reducible refine Below.alloc ?_ ?_ _ | with_reducible refine Below.setCell ?_ ?_ _ | with_reducible exact And.right (by assumption) | with_reducible refine Below.trans ?_ (Below.mono (by assumption) ?_) | with_reducible exact Below.size (And.right (by assumption)) | (focus omega) | (focus (simp; done)) | (focus (simp; omega)) | (focus (simp at *; omega))))) (b3.mono (by first | exact Nat.le_refl _ | omega | (simp; done) | (simp; omega)))
  have s3 := c3.size
  have bb3 := H_bb2.out.trans (c3.mono H_bb2.out.size)
  have t3 := H_t2.out.below c3
  have H_b3 := Lib.hid b3; clear b3; have H_c3 := Lib.hid c3; clear c3; have H_bb3 := Lib.hid bb3; clear bb3; have H_t3 := Lib.hid t3; clear t3
  have a3 : Blk w3 w2.heap.size #[.int .i64 1, .int .i64 7, .slice A 0 p, .int .u64 U1, .int .i64 0, .int .i64 0, .slice B 0 q, .int .u64 0] := (blk_new rfl).below H_b3.out
  have H_a3 := Lib.hid a3; clear a3
  have a0 := (H_a3.out 0 _ rfl).at
  have a1 := (H_a3.out 1 _ rfl).at
  have a2 := (H_a3.out 2 _ rfl).at
  have a3 := (H_a3.out 3 _ rfl).at
  have a4 := (H_a3.out 4 _ rfl).at
  have a5 := (H_a3.out 5 _ rfl).at
  have a6 := (H_a3.out 6 _ rfl).at
  have a7 := (H_a3.out 7 _ rfl).at
  go_wp2_with fail
  (with_reducible refine (H_q4.out _ A p B q _ 1 ?_ ?_).mono ?_)
  · exact ints1 (by simp) (by go_simp)
  · exact H_t3.out.below (show Below w3.heap.size w3 _ by (repeat (first | with_reducible exact Below.refl _ _ | with_reducible exact Nat.le_refl _ | with_reducible assumption | with_reducible refine Below.drew ?_ | with_reducible refine below_drewN ?_ _ | with_reducible refine Below.alloc ?_ ?_ _ | with_reducible refine Below.setCell ?_ ?_ _ | with_reducible exact And.right (by assumption) | with_reducible refine Below.trans ?_ (Below.mono (by assumption) ?_) | with_reducible exact Below.size (And.right (by assumption)) | (focus omega) | (focus (simp; done)) | (focus (simp; omega)) | (focus (simp at *; omega)))))
  rintro e w4 ⟨A4, p4, B4, q4, rfl, hA4, hB4, b4⟩
  have c4 : Below w3.heap.size w3 w4 := Below.trans (by (repeat (first | with_reducible exact Below.refl _ _ | with_reducible exact Nat.le_refl _ | with_reducible assumption | with_reducible refine Below.drew ?_ | with_reducible refine below_drewN ?_ _ | with_reducible refine Below.alloc ?_ ?_ _ | with_reducible refine Below.setCell ?_ ?_ _ | with_reducible exact And.right (by assumption) | with_reducible refine Below.trans ?_ (Below.mono (by assumption) ?_) | with_reducible exact Below.size (And.right (by assumption)) | (focus omega) | (focus (simp; done)) | (focus (simp; omega)) | (focus (simp at *; omega))))) (b4.mono (by first | exact Nat.le_refl _ | omega | (simp; done) | (simp; omega)))
  have s4 := c4.size
  have bb4 := H_bb3.out.trans (c4.mono H_bb3.out.size)
  have t4 := H_t3.out.below c4
  have a4 := H_a3.out.below c4
  have H_b4 := Lib.hid b4; clear b4; have H_c4 := Lib.hid c4; clear c4; have H_bb4 := Lib.hid bb4; clear bb4; have H_t4 := Lib.hid t4; clear t4; have H_a4 := Lib.hid a4; clear a4
  clear a0 a1 a2 a3 a4 a5 a6 a7
  have H_hB4 := Lib.hid hB4; clear hB4
  go_wp2_with fail
  (with_reducible refine (H_q5.out _ A4 p4 B4 q4 ?_ ?_).mono ?_)
  · exact H_hB4.out.below (show Below w4.heap.size w4 _ by (repeat (first | with_reducible exact Below.refl _ _ | with_reducible exact Nat.le_refl _ | with_reducible assumption | with_reducible refine Below.drew ?_ | with_reducible refine below_drewN ?_ _ | with_reducible refine Below.alloc ?_ ?_ _ | with_reducible refine Below.setCell ?_ ?_ _ | with_reducible exact And.right (by assumption) | with_reducible refine Below.trans ?_ (Below.mono (by assumption) ?_) | with_reducible exact Below.size (And.right (by assumption)) | (focus omega) | (focus (simp; done)) | (focus (simp; omega)) | (focus (simp at *; omega)))))
  · exact H_t4.out.below (show Below w4.heap.size w4 _ by (repeat (first | with_reducible exact Below.refl _ _ | with_reducible exact Nat.le_refl _ | with_reducible assumption | with_reducible refine Below.drew ?_ | with_reducible refine below_drewN ?_ _ | with_reducible refine Below.alloc ?_ ?_ _ | with_reducible refine Below.setCell ?_ ?_ _ | with_reducible exact And.right (by assumption) | with_reducible refine Below.trans ?_ (Below.mono (by assumption) ?_) | with_reducible exact Below.size (And.right (by assumption)) | (focus omega) | (focus (simp; done)) | (focus (simp; omega)) | (focus (simp at *; omega)))))
  rintro e w5 ⟨rfl, b5⟩
  have c5 : Below w4.heap.size w4 w5 := Below.trans (by (repeat (first | with_reducible exact Below.refl _ _ | with_reducible exact Nat.le_refl _ | with_reducible assumption | with_reducible refine Below.drew ?_ | with_reducible refine below_drewN ?_ _ | with_reducible refine Below.alloc ?_ ?_ _ | with_reducible refine Below.setCell ?_ ?_ _ | with_reducible exact And.right (by assumption) | with_reducible refine Below.trans ?_ (Below.mono (by assumption) ?_) | with_reducible exact Below.size (And.right (by assumption)) | (focus omega) | (focus (simp; done)) | (focus (simp; omega)) | (focus (simp at *; omega))))) (b5.mono (by first | exact Nat.le_refl _ | omega | (simp; done) | (simp; omega)))
  have s5 := c5.size
  have bb5 := H_bb4.out.trans (c5.mono H_bb4.out.size)
  have t5 := H_t4.out.below c5
  have a5 := H_a4.out.below c5
  have H_b5 := Lib.hid b5; clear b5; have H_c5 := Lib.hid c5; clear c5; have H_bb5 := Lib.hid bb5; clear bb5; have H_t5 := Lib.hid t5; clear t5; have H_a5 := Lib.hid a5; clear a5
  have v5 : Blk w5 w4.heap.size #[.int .i64 1, .int .i64 7, .slice A4 0 p4, .int .u64 U1, .int .i64 2, .int .i64 8, .slice B4 1 q4, .int .u64 U3] := (blk_new rfl).below H_b5.out
  have e5 := H_hB4.out.below H_c5.out
  have H_v5 := Lib.hid v5; clear v5; have H_e5 := Lib.hid e5; clear e5
  have a0 := (H_a5.out 0 _ rfl).at
  have a1 := (H_a5.out 1 _ rfl).at
  have a2 := (H_a5.out 2 _ rfl).at
  have a3 := (H_a5.out 3 _ rfl).at
  have a4 := (H_a5.out 4 _ rfl).at
  have a5 := (H_a5.out 5 _ rfl).at
  have a6 := (H_a5.out 6 _ rfl).at
  have a7 := (H_a5.out 7 _ rfl).at
  go_wp2_with fail
  (with_reducible refine (H_q6.out _ A p B q _ 1 ?_ ?_).mono ?_)
  · exact ints1 (by simp) (by go_simp)
  · exact H_t5.out.below (show Below w5.heap.size w5 _ by (repeat (first | with_reducible exact Below.refl _ _ | with_reducible exact Nat.le_refl _ | with_reducible assumption | with_reducible refine Below.drew ?_ | with_reducible refine below_drewN ?_ _ | with_reducible refine Below.alloc ?_ ?_ _ | with_reducible refine Below.setCell ?_ ?_ _ | with_reducible exact And.right (by assumption) | with_reducible refine Below.trans ?_ (Below.mono (by assumption) ?_) | with_reducible exact Below.size (And.right (by assumption)) | (focus omega) | (focus (simp; done)) | (focus (simp; omega)) | (focus (simp at *; omega)))))
  rintro e w6 ⟨A6, p6, B6, q6, rfl, hA6, hB6, b6⟩
  have c6 : Below w5.heap.size w5 w6 := Below.trans (by (repeat (first | with_reducible exact Below.refl _ _ | with_reducible exact Nat.le_refl _ | with_reducible assumption | with_reducible refine Below.drew ?_ | with_reducible refine below_drewN ?_ _ | with_reducible refine Below.alloc ?_ ?_ _ | with_reducible refine Below.setCell ?_ ?_ _ | with_reducible exact And.right (by assumption) | with_reducible refine Below.trans ?_ (Below.mono (by assumption) ?_) | with_reducible exact Below.size (And.right (by assumption)) | (focus omega) | (focus (simp; done)) | (focus (simp; omega)) | (focus (simp at *; omega))))) (b6.mono (by first | exact Nat.le_refl _ | omega | (simp; done) | (simp; omega)))
  have s6 := c6.size
  have bb6 := H_bb5.out.trans (c6.mono H_bb5.out.size)
  have t6 := H_t5.out.below c6
  have a6 := H_a5.out.below c6
  have v6 := H_v5.out.below c6
  have e6 := H_e5.out.below c6
  have H_b6 := Lib.hid b6; clear b6; have H_c6 := Lib.hid c6; clear c6; have H_bb6 := Lib.hid bb6; clear bb6; have H_t6 := Lib.hid t6; clear t6; have H_a6 := Lib.hid a6; clear a6; have H_v6 := Lib.hid v6; clear v6; have H_e6 := Lib.hid e6; clear e6
  clear a0 a1 a2 a3 a4 a5 a6 a7
  have H_hB6 := Lib.hid hB6; clear hB6
  go_wp2_with fail
  (with_reducible refine (H_q7.out _ A6 p6 B6 q6 ?_ ?_).mono ?_)
  · exact H_hB6.out.below (show Below w6.heap.size w6 _ by (repeat (first | with_reducible exact Below.refl _ _ | with_reducible exact Nat.le_refl _ | with_reducible assumption | with_reducible refine Below.drew ?_ | with_reducible refine below_drewN ?_ _ | with_reducible refine Below.alloc ?_ ?_ _ | with_reducible refine Below.setCell ?_ ?_ _ | with_reducible exact And.right (by assumption) | with_reducible refine Below.trans ?_ (Below.mono (by assumption) ?_) | with_reducible exact Below.size (And.right (by assumption)) | (focus omega) | (focus (simp; done)) | (focus (simp; omega)) | (focus (simp at *; omega)))))
  · exact H_t6.out.below (show Below w6.heap.size w6 _ by (repeat (first | with_reducible exact Below.refl _ _ | with_reducible exact Nat.le_refl _ | with_reducible assumption | with_reducible refine Below.drew ?_ | with_reducible refine below_drewN ?_ _ | with_reducible refine Below.alloc ?_ ?_ _ | with_reducible refine Below.setCell ?_ ?_ _ | with_reducible exact And.right (by assumption) | with_reducible refine Below.trans ?_ (Below.mono (by assumption) ?_) | with_reducible exact Below.size (And.right (by assumption)) | (focus omega) | (focus (simp; done)) | (focus (simp; omega)) | (focus (simp at *; omega)))))
  rintro e w7 ⟨rfl, b7⟩
  have c7 : Below w6.heap.size w6 w7 := Below.trans (by (repeat (first | with_reducible exact Below.refl _ _ | with_reducible exact Nat.le_refl _ | with_reducible assumption | with_reducible refine Below.drew ?_ | with_reducible refine below_drewN ?_ _ | with_reducible refine Below.alloc ?_ ?_ _ | with_reducible refine Below.setCell ?_ ?_ _ | with_reducible exact And.right (by assumption) | with_reducible refine Below.trans ?_ (Below.mono (by assumption) ?_) | with_reducible exact Below.size (And.right (by assumption)) | (focus omega) | (focus (simp; done)) | (focus (simp; omega)) | (focus (simp at *; omega))))) (b7.mono (by first | exact Nat.le_refl _ | omega | (simp; done) | (simp; omega)))
  have s7 := c7.size
  have bb7 := H_bb6.out.trans (c7.mono H_bb6.out.size)
  have t7 := H_t6.out.below c7
  have a7 := H_a6.out.below c7
  have v7 := H_v6.out.below c7
  have e7 := H_e6.out.below c7
  have H_b7 := Lib.hid b7; clear b7; have H_c7 := Lib.hid c7; clear c7; have H_bb7 := Lib.hid bb7; clear bb7; have H_t7 := Lib.hid t7; clear t7; have H_a7 := Lib.hid a7; clear a7; have H_v7 := Lib.hid v7; clear v7; have H_e7 := Lib.hid e7; clear e7
  have d7 : Blk w7 w6.heap.size #[.int .i64 1, .int .i64 7, .slice A6 0 p6, .int .u64 U1, .int .i64 2, .int .i64 8, .slice B6 1 q6, .int .u64 U2] := (blk_new rfl).below H_b7.out
  have f7 := H_hB6.out.below H_c7.out
  have H_d7 := Lib.hid d7; clear d7; have H_f7 := Lib.hid f7; clear f7
  have a0 := (H_a7.out 0 _ rfl).at
  have a1 := (H_a7.out 1 _ rfl).at
  have a2 := (H_a7.out 2 _ rfl).at
  have a3 := (H_a7.out 3 _ rfl).at
  have a4 := (H_a7.out 4 _ rfl).at
  have a5 := (H_a7.out 5 _ rfl).at
  have a6 := (H_a7.out 6 _ rfl).at
  have a7 := (H_a7.out 7 _ rfl).at
  go_wp2_with fail
  (with_reducible refine (H_q8.out _ A p B q _ 2 ?_ ?_).mono ?_)
  · exact ints2 (by simp) (by go_simp) (by go_simp)
  · exact H_t7.out.below (show Below w7.heap.size w7 _ by (repeat (first | with_reducible exact Below.refl _ _ | with_reducible exact Nat.le_refl _ | with_reducible assumption | with_reducible refine Below.drew ?_ | with_reducible refine below_drewN ?_ _ | with_reducible refine Below.alloc ?_ ?_ _ | with_reducible refine Below.setCell ?_ ?_ _ | with_reducible exact And.right (by assumption) | with_reducible refine Below.trans ?_ (Below.mono (by assumption) ?_) | with_reducible exact Below.size (And.right (by assumption)) | (focus omega) | (focus (simp; done)) | (focus (simp; omega)) | (focus (simp at *; omega)))))
  rintro e w8 ⟨A8, p8, B8, q8, rfl, hA8, hB8, b8⟩
  have c8 : Below w7.heap.size w7 w8 := Below.trans (by (repeat (first | with_reducible exact Below.refl _ _ | with_reducible exact Nat.le_refl _ | with_reducible assumption | with_reducible refine Below.drew ?_ | with_reducible refine below_drewN ?_ _ | with_reducible refine Below.alloc ?_ ?_ _ | with_reducible refine Below.setCell ?_ ?_ _ | with_reducible exact And.right (by assumption) | with_reducible refine Below.trans ?_ (Below.mono (by assumption) ?_) | with_reducible exact Below.size (And.right (by assumption)) | (focus omega) | (focus (simp; done)) | (focus (simp; omega)) | (focus (simp at *; omega))))) (b8.mono (by first | exact Nat.le_refl _ | omega | (simp; done) | (simp; omega)))
  have s8 := c8.size
  have bb8 := H_bb7.out.trans (c8.mono H_bb7.out.size)
  have t8 := H_t7.out.below c8
  have a8 := H_a7.out.below c8
  have v8 := H_v7.out.below c8
  have e8 := H_e7.out.below c8
  have d8 := H_d7.out.below c8
  have f8 := H_f7.out.below c8
  have H_b8 := Lib.hid b8; clear b8; have H_c8 := Lib.hid c8; clear c8; have H_bb8 := Lib.hid bb8; clear bb8; have H_t8 := Lib.hid t8; clear t8; have H_a8 := Lib.hid a8; clear a8; have H_v8 := Lib.hid v8; clear v8; have H_e8 := Lib.hid e8; clear e8; have H_d8 := Lib.hid d8; clear d8; have H_f8 := Lib.hid f8; clear f8
  clear a0 a1 a2 a3 a4 a5 a6 a7
  have a0 := (H_a8.out 0 _ rfl).at
  have a1 := (H_a8.out 1 _ rfl).at
  have a2 := (H_a8.out 2 _ rfl).at
  have a3 := (H_a8.out 3 _ rfl).at
  have a4 := (H_a8.out 4 _ rfl).at
  have a5 := (H_a8.out 5 _ rfl).at
  have a6 := (H_a8.out 6 _ rfl).at
  have a7 := (H_a8.out 7 _ rfl).at
  have la := (H_a8.out 0 _ rfl).lt
  go_wp2_with fail
  (with_reducible refine (H_q9.out _ A p B q none 0 ?_).mono ?_)
  · exact H_t8.out.below (show Below w8.heap.size w8 _ by (repeat (first | with_reducible exact Below.refl _ _ | with_reducible exact Nat.le_refl _ | with_reducible assumption | with_reducible refine Below.drew ?_ | with_reducible refine below_drewN ?_ _ | with_reducible refine Below.alloc ?_ ?_ _ | with_reducible refine Below.setCell ?_ ?_ _ | with_reducible exact And.right (by assumption) | with_reducible refine Below.trans ?_ (Below.mono (by assumption) ?_) | with_reducible exact Below.size (And.right (by assumption)) | (focus omega) | (focus (simp; done)) | (focus (simp; omega)) | (focus (simp at *; omega)))))
  rintro e w9 ⟨A9, p9, B9, q9, rfl, hA9, hB9, b9⟩
  have c9 : Below w8.heap.size w8 w9 := Below.trans (by (repeat (first | with_reducible exact Below.refl _ _ | with_reducible exact Nat.le_refl _ | with_reducible assumption | with_reducible refine Below.drew ?_ | with_reducible refine below_drewN ?_ _ | with_reducible refine Below.alloc ?_ ?_ _ | with_reducible refine Below.setCell ?_ ?_ _ | with_reducible exact And.right (by assumption) | with_reducible refine Below.trans ?_ (Below.mono (by assumption) ?_) | with_reducible exact Below.size (And.right (by assumption)) | (focus omega) | (focus (simp; done)) | (focus (simp; omega)) | (focus (simp at *; omega))))) (b9.mono (by first | exact Nat.le_refl _ | omega | (simp; done) | (simp; omega)))
  have s9 := c9.size
  have bb9 := H_bb8.out.trans (c9.mono H_bb8.out.size)
  have t9 := H_t8.out.below c9
  have a9 := H_a8.out.below c9
  have v9 := H_v8.out.below c9
  have e9 := H_e8.out.below c9
  have d9 := H_d8.out.below c9
  have f9 := H_f8.out.below c9
  have H_b9 := Lib.hid b9; clear b9; have H_c9 := Lib.hid c9; clear c9; have H_bb9 := Lib.hid bb9; clear bb9; have H_t9 := Lib.hid t9; clear t9; have H_a9 := Lib.hid a9; clear a9; have H_v9 := Lib.hid v9; clear v9; have H_e9 := Lib.hid e9; clear e9; have H_d9 := Lib.hid d9; clear d9; have H_f9 := Lib.hid f9; clear f9
  clear la
  clear a0 a1 a2 a3 a4 a5 a6 a7
  go_upto_region 12 with (fail)
  obtain ⟨w10, hw10⟩ : ∃ W, w9.alloc (.cells #[.int .i64 0, .int .i64 0, .slice A9 0 p9, .int .u64 0, .int .i64 0, .int .i64 0, .slice B9 0 q9, .int .u64 0] 51) = W := ⟨_, rfl⟩
  rw [hw10]
  have c10 : Below w9.heap.size w9 w10 := by rw [← hw10]; exact (Below.refl _ _).alloc (Nat.le_refl _) _
  have t10 := H_t9.out.below c10
  have a10 := H_a9.out.below c10
  have v10 := H_v9.out.below c10
  have e10 := H_e9.out.below c10
  have d10 := H_d9.out.below c10
  have f10 := H_f9.out.below c10
  have bb10 := H_bb9.out.trans (c10.mono H_bb9.out.size)
  have H_hw10 := Lib.hid hw10; clear hw10; have H_c10 := Lib.hid c10; clear c10; have H_t10 := Lib.hid t10; clear t10; have H_a10 := Lib.hid a10; clear a10; have H_v10 := Lib.hid v10; clear v10; have H_e10 := Lib.hid e10; clear e10; have H_d10 := Lib.hid d10; clear d10; have H_f10 := Lib.hid f10; clear f10; have H_bb10 := Lib.hid bb10; clear bb10
  have a0 := (H_a10.out 0 _ rfl).at
  have a1 := (H_a10.out 1 _ rfl).at
  have a2 := (H_a10.out 2 _ rfl).at
  have a3 := (H_a10.out 3 _ rfl).at
  have la := (H_a10.out 0 _ rfl).lt
  go_region_held3 (fun W => (∀ b o, b < w10.heap.size → W.cell? ⟨b, o, none⟩ = w10.cell? ⟨b, o, none⟩) ∧ Below w10.heap.size w10 W) (first | (refine ext_mk ?_; (repeat (first | with_reducible exact Below.refl _ _ | with_reducible exact Nat.le_refl _ | with_reducible assumption | with_reducible refine Below.drew ?_ | with_reducible refine below_drewN ?_ _ | with_reducible refine Below.alloc ?_ ?_ _ | with_reducible refine Below.setCell ?_ ?_ _ | with_reducible exact And.right (by assumption) | with_reducible refine Below.trans ?_ (Below.mono (by assumption) ?_) | with_reducible exact Below.size (And.right (by assumption)) | (focus omega) | (focus (simp; done)) | (focus (simp; omega)) | (focus (simp at *; omega)))))) (first | (go_at_call 54; (with_reducible refine (H_r1.out _ _ _ ?_ ?_).mono ?_); (focus (exact ints2 (by simp) (by go_simp) (by go_simp))); (focus (exact H_t10.out.below (And.right (by assumption : _ ∧ Below w10.heap.size w10 _)))); rintro e w11 ⟨rfl, hbw11⟩; have gw11 := Below.trans (And.right (by assumption : _ ∧ Below w10.heap.size w10 _)) (hbw11.mono (Below.size (And.right (by assumption : _ ∧ Below w10.heap.size w10 _)))); have gsw11 := gw11.size; have hcf := bcell hbw11; have hcw11 := hcf.1; have hfw11 := hcf.2; have hsw11 := hbw11.size; (try simp only [World.size_alloc, World.heap_drewN, heap_drew] at hsw11); clear hbw11 hcf; (try have hzw11 : w10.heap.size < w11.heap.size := by omega)) | (go_at_call 36; (with_reducible refine (H_r3.out _ A p none 0).mono ?_); rintro e w12 ⟨rfl, hbw12⟩; have gw12 := Below.trans (And.right (by assumption : _ ∧ Below w10.heap.size w10 _)) (hbw12.mono (Below.size (And.right (by assumption : _ ∧ Below w10.heap.size w10 _)))); have gsw12 := gw12.size; have hcf := bcell hbw12; have hcw12 := hcf.1; have hfw12 := hcf.2; have hsw12 := hbw12.size; (try simp only [World.size_alloc, World.heap_drewN, heap_drew] at hsw12); clear hbw12 hcf; (try have hzw12 : w10.heap.size < w12.heap.size := by omega)))
  clear la
  clear a0 a1 a2 a3
  have c12 : Below w10.heap.size w10 w12 := And.right (by assumption)
  have t12 := H_t10.out.below c12
  have v12 := H_v10.out.below c12
  have e12 := H_e10.out.below c12
  have d12 := H_d10.out.below c12
  have f12 := H_f10.out.below c12
  have bb12 := H_bb10.out.trans (c12.mono H_bb10.out.size)
  clear hcw11 hfw11 hcw12 hfw12 gw11 gw12 gsw11 gsw12 hsw11 hsw12
  have H_c12 := Lib.hid c12; clear c12; have H_t12 := Lib.hid t12; clear t12; have H_v12 := Lib.hid v12; clear v12; have H_e12 := Lib.hid e12; clear e12; have H_d12 := Lib.hid d12; clear d12; have H_f12 := Lib.hid f12; clear f12; have H_bb12 := Lib.hid bb12; clear bb12
  go_wp2_with fail
  have v4 := (H_v12.out 4 _ rfl).at; have v5 := (H_v12.out 5 _ rfl).at; have v6 := (H_v12.out 6 _ rfl).at; have v7 := (H_v12.out 7 _ rfl).at
  have d4 := (H_d12.out 4 _ rfl).at; have d5 := (H_d12.out 5 _ rfl).at; have d6 := (H_d12.out 6 _ rfl).at; have d7 := (H_d12.out 7 _ rfl).at
  have lv := (H_v12.out 4 _ rfl).lt
  have ld := (H_d12.out 4 _ rfl).lt
  go_region_held3 (fun W => (∀ b o, b < w12.heap.size → W.cell? ⟨b, o, none⟩ = w12.cell? ⟨b, o, none⟩) ∧ Below w12.heap.size w12 W) (first | (refine ext_mk ?_; (repeat (first | with_reducible exact Below.refl _ _ | with_reducible exact Nat.le_refl _ | with_reducible assumption | with_reducible refine Below.drew ?_ | with_reducible refine below_drewN ?_ _ | with_reducible refine Below.alloc ?_ ?_ _ | with_reducible refine Below.setCell ?_ ?_ _ | with_reducible exact And.right (by assumption) | with_reducible refine Below.trans ?_ (Below.mono (by assumption) ?_) | with_reducible exact Below.size (And.right (by assumption)) | (focus omega) | (focus (simp; done)) | (focus (simp; omega)) | (focus (simp at *; omega)))))) (first | (go_at_call 54; (with_reducible refine (H_r2.out _ _ _ ?_ ?_).mono ?_); (focus (exact ints3 (by first | omega | (simp; done) | (simp; omega)) (by go_simp) (by go_simp) (by go_simp))); (focus (exact H_t12.out.below (And.right (by assumption : _ ∧ Below w12.heap.size w12 _)))); rintro e w13 ⟨rfl, hbw13⟩; have gw13 := Below.trans (And.right (by assumption : _ ∧ Below w12.heap.size w12 _)) (hbw13.mono (Below.size (And.right (by assumption : _ ∧ Below w12.heap.size w12 _)))); have gsw13 := gw13.size; have hcf := bcell hbw13; have hcw13 := hcf.1; have hfw13 := hcf.2; have hsw13 := hbw13.size; (try simp only [World.size_alloc, World.heap_drewN, heap_drew] at hsw13); clear hbw13 hcf; (try have hzw13 : w12.heap.size < w13.heap.size := by omega)) | (go_at_call 36; (with_reducible refine (H_r4.out _ B6 q6 _ 1 ?_ ?_).mono ?_); (focus (exact H_f12.out.below (And.right (by assumption : _ ∧ Below w12.heap.size w12 _)))); (focus (exact ints1 (by first | omega | (simp; done) | (simp; omega)) (by go_simp))); rintro e w14 ⟨rfl, hbw14⟩; have gw14 := Below.trans (And.right (by assumption : _ ∧ Below w12.heap.size w12 _)) (hbw14.mono (Below.size (And.right (by assumption : _ ∧ Below w12.heap.size w12 _)))); have gsw14 := gw14.size; have hcf := bcell hbw14; have hcw14 := hcf.1; have hfw14 := hcf.2; have hsw14 := hbw14.size; (try simp only [World.size_alloc, World.heap_drewN, heap_drew] at hsw14); clear hbw14 hcf; (try have hzw14 : w12.heap.size < w14.heap.size := by omega)) | (go_at_call 34; (with_reducible refine (H_r5.out _ B4 q4 ?_ ?_).mono ?_); (focus (exact H_e12.out.below (And.right (by assumption : _ ∧ Below w12.heap.size w12 _)))); (focus (exact H_t12.out.below (And.right (by assumption : _ ∧ Below w12.heap.size w12 _)))); rintro e w15 ⟨rfl, hbw15⟩; have gw15 := Below.trans (And.right (by assumption : _ ∧ Below w12.heap.size w12 _)) (hbw15.mono (Below.size (And.right (by assumption : _ ∧ Below w12.heap.size w12 _)))); have gsw15 := gw15.size; have hcf := bcell hbw15; have hcw15 := hcf.1; have hfw15 := hcf.2; have hsw15 := hbw15.size; (try simp only [World.size_alloc, World.heap_drewN, heap_drew] at hsw15); clear hbw15 hcf; (try have hzw15 : w12.heap.size < w15.heap.size := by omega)) | (go_at_call 34; (with_reducible refine (H_r6.out _ B6 q6 ?_ ?_).mono ?_); (focus (exact H_f12.out.below (And.right (by assumption : _ ∧ Below w12.heap.size w12 _)))); (focus (exact H_t12.out.below (And.right (by assumption : _ ∧ Below w12.heap.size w12 _)))); rintro e w16 ⟨rfl, hbw16⟩; have gw16 := Below.trans (And.right (by assumption : _ ∧ Below w12.heap.size w12 _)) (hbw16.mono (Below.size (And.right (by assumption : _ ∧ Below w12.heap.size w12 _)))); have gsw16 := gw16.size; have hcf := bcell hbw16; have hcw16 := hcf.1; have hfw16 := hcf.2; have hsw16 := hbw16.size; (try simp only [World.size_alloc, World.heap_drewN, heap_drew] at hsw16); clear hbw16 hcf; (try have hzw16 : w12.heap.size < w16.heap.size := by omega)))
  all_goals
    go_wp2_with fail
    go_ret
    exact ⟨rfl, heldEnd H_bb12.out (by assumption)⟩
end Go.Proofs.YtncfilbpgomncaaDoor

/- The walk of SlotMade. -/
import Derived.Test.YtncfilbpgomncaaDoorSlX
import Derived.Test.YtncfilbpgomncaaDoorOpnS
namespace Go.Proofs.YtncfilbpgomncaaDoor
set_option linter.unusedSimpArgs false
set_option linter.unusedVariables false
set_option maxRecDepth 100000
open Go.RowKit

theorem SlotArg.below {w w' : World} {A : Option Addr} {n cap : Nat} {x : Slt} (h : SlotArg w A n cap x) (hb : Below w.heap.size w w') : SlotArg w' A n cap x := ⟨h.len, h.s, h.c, h.ints.below hb, h.room, h.max, h.fit, h.u⟩
theorem isMade {w : World} {A : Option Addr} {n : Nat} {s c : Int} {l : List Int} (hln : l.length = n) (hs : -9223372036854775808 ≤ s ∧ s ≤ 9223372036854775807) (hc : -9223372036854775808 ≤ c ∧ c ≤ 9223372036854775807) (hl : IntsAt w A .i64 l) (hn : n ≤ 100000) (hf : Fit l) : SlotIs w A n (Slt.made s c l) :=
  ⟨hln, hs, hc, hl, hn, hf, by simp only [Slt.made]; exact sumS_in _ _ _⟩
theorem ok_same (x : Slt) (h : fldB x.s x.c x.l = true) : x.ok = sameS (Slt.made x.s x.c x.l) x := by
  obtain ⟨s, c, l, u⟩ := x
  rw [Bool.eq_iff_iff, sameS_iff]
  simp only [Slt.ok, vldB, Slt.made] at *
  rw [h, Bool.true_and, beq_iff_eq]
  constructor
  · rintro rfl; rfl
  · intro h; injection h
theorem not_ok {x : Slt} (h : fldB x.s x.c x.l = false) : x.ok = false := by simp [Slt.ok, vldB, h]

set_option maxHeartbeats 8000000 in
theorem slotMade_walk (s c : Int) (A : Option Addr) (cp : Nat) (l : List Int) (x : Slt) (B : Option Addr) (m q : Nat) (w : World) (hsw : (Lit.int .i64 s).wf = true) (hcw : (Lit.int .i64 c).wf = true)
    (hl : IntsAt w A .i64 l) (hlc : l.length ≤ cp) (hcm : cp ≤ maxLen) (hlw : ∀ n ∈ l, (Lit.int .i64 n).wf = true) (hx : SlotArg w B m q x) (ht : Tab w) :
    Calls Tryd.prog 13 #[.int .i64 s, .int .i64 c, .slice A l.length cp, .agg #[.int .i64 x.s, .int .i64 x.c, .slice B m q, .int .u64 x.u]] w fun e w' => e = .returned (.bool true) ∧ Below w.heap.size w w' := by
  have hs := wf_i64 hsw
  have hc := wf_i64 hcw
  have hf := fit_wf hlw
  unfold maxLen at hcm
  generalize hN : l.length = N at *
  obtain ⟨w0, hw0⟩ : ∃ w0, w.alloc (.cells #[.int .i64 x.s, .int .i64 x.c, .slice B m q, .int .u64 x.u] 50) = w0 := ⟨_, rfl⟩
  have bw : Below w.heap.size w w0 := by rw [← hw0]; exact (Below.refl _ _).alloc (Nat.le_refl _) _
  have g0 : Blk w0 w.heap.size #[.int .i64 x.s, .int .i64 x.c, .slice B m q, .int .u64 x.u] := by rw [← hw0]; exact blk_new rfl
  have bb0 := Below.refl w0.heap.size w0
  have t0 := ht.below bw
  have x0 := hx.below bw
  have l0 := hl.below bw
  have q1 := head36_any w0 t0
  have lq := hx.room
  have lm := hx.max
  have xs := hx.s; have xs0 := xs.1; have xs1 := xs.2
  have xc := hx.c
  have H_hsw := Lib.hid hsw; clear hsw; have H_hcw := Lib.hid hcw; clear hcw; have H_hl := Lib.hid hl; clear hl; have H_hlw := Lib.hid hlw; clear hlw; have H_hx := Lib.hid hx; clear hx; have H_ht := Lib.hid ht; clear ht; have H_hs := Lib.hid hs; clear hs; have H_hc := Lib.hid hc; clear hc; have H_hf := Lib.hid hf; clear hf; have H_bw := Lib.hid bw; clear bw; have H_g0 := Lib.hid g0; clear g0; have H_bb0 := Lib.hid bb0; clear bb0; have H_t0 := Lib.hid t0; clear t0; have H_x0 := Lib.hid x0; clear x0; have H_l0 := Lib.hid l0; clear l0; have H_q1 := Lib.hid q1; clear q1; have H_hN := Lib.hid hN; clear hN; have H_xs := Lib.hid xs; clear xs; have H_xc := Lib.hid xc; clear xc; have H_hw0 := Lib.hid hw0; clear hw0
  go_enter Tryd.func13, Tryd.ntmps13
  go_wp2_with fail
  rw [H_hw0.out]
  go_wp2_with fail
  (with_reducible refine (H_q1.out).mono ?_)
  rintro e w1 ⟨rfl, b1⟩
  have c1 : Below w0.heap.size w0 w1 := Below.trans (by (repeat (first | with_reducible exact Below.refl _ _ | with_reducible exact Nat.le_refl _ | with_reducible assumption | with_reducible refine Below.drew ?_ | with_reducible refine below_drewN ?_ _ | with_reducible refine Below.alloc ?_ ?_ _ | with_reducible refine Below.setCell ?_ ?_ _ | with_reducible exact And.right (by assumption) | with_reducible refine Below.trans ?_ (Below.mono (by assumption) ?_) | with_reducible exact Below.size (And.right (by assumption)) | (focus omega) | (focus (simp; done)) | (focus (simp; omega)) | (focus (simp at *; omega))))) (b1.mono (by first | exact Nat.le_refl _ | omega | (simp; done) | (simp; omega)))
  have s1 := c1.size
  have bb1 := H_bb0.out.trans (c1.mono H_bb0.out.size)
  have t1 := H_t0.out.below c1
  have x1 := H_x0.out.below c1
  have l1 := H_l0.out.below c1
  have g1 := H_g0.out.below c1
  have H_b1 := Lib.hid b1; clear b1; have H_c1 := Lib.hid c1; clear c1; have H_bb1 := Lib.hid bb1; clear bb1; have H_t1 := Lib.hid t1; clear t1; have H_x1 := Lib.hid x1; clear x1; have H_l1 := Lib.hid l1; clear l1; have H_g1 := Lib.hid g1; clear g1
  have lt1 := (H_g1.out 0 _ rfl).lt
  have g0 := (H_g1.out 0 _ rfl).at
  have g1 := (H_g1.out 1 _ rfl).at
  have g2 := (H_g1.out 2 _ rfl).at
  have g3 := (H_g1.out 3 _ rfl).at
  by_cases n40 : N ≤ 40
  rotate_left
  · have d1 : decide ((40 : Int) < (N : Int)) = true := decide_eq_true (by omega)
    go_wp2_with fail
    go_ret
    exact ⟨rfl, H_bw.out.trans (H_bb1.out.mono H_bw.out.size)⟩
  have d1 : decide ((40 : Int) < (N : Int)) = false := decide_eq_false (by omega)
  by_cases m40 : m ≤ 40
  rotate_left
  · have d2 : decide ((40 : Int) < (m : Int)) = true := decide_eq_true (by omega)
    go_wp2_with fail
    go_ret
    exact ⟨rfl, H_bw.out.trans (H_bb1.out.mono H_bw.out.size)⟩
  have d2 : decide ((40 : Int) < (m : Int)) = false := decide_eq_false (by omega)
  skip
  cases hF : fldB s c l with
  | true =>
    have q2 := fun W (h : IntsAt W A .i64 l) h2 => make_ok s c A cp N l H_hN.out W H_hs.out H_hc.out h (by omega) H_hf.out h2 hF
    have q3 := fun W X cx (h : SlotIs W X N (Slt.made s c l)) h2 => valid_at cx h h2
    rw [made_ok hF] at q3
    have q4 := fun W X cx (h0 : IntsAt W X .i64 l) (h : IntsAt W A .i64 l) => rsays_any (Slt.made s c l) c X N cx H_hN.out A N cp l H_hN.out W (by omega) (by omega) h0 h
    have hsy : saysS (Slt.made s c l) c l = true := saysS_iff.2 ⟨rfl, rfl⟩
    rw [hsy] at q4
    have ss : (s == s) = true := by simp
    unfold SlotErr at q2
    simp only [Slt.made] at q2 q4
    rw [H_hN.out] at q2
    have hz := fun W X (h : IntsAt W X .i64 l) => isMade (n := N) H_hN.out H_hs.out H_hc.out h (by omega) H_hf.out
    generalize hM : Slt.made s c l = M at *
    have hMs : M.s = s ∧ M.c = c ∧ M.u = sumS s c l := by rw [← hM]; refine ⟨?_, ?_, ?_⟩ <;> simp only [Slt.made]
    rw [hMs.1, hMs.2.1, hMs.2.2] at q3
    generalize sumS s c l = U at *
    have H_q2 := Lib.hid q2; clear q2; have H_q3 := Lib.hid q3; clear q3; have H_q4 := Lib.hid q4; clear q4; have H_hF := Lib.hid hF; clear hF; have H_hsy := Lib.hid hsy; clear hsy; have H_hz := Lib.hid hz; clear hz; have H_hM := Lib.hid hM; clear hM; have H_hMs := Lib.hid hMs; clear hMs
    go_wp2_with fail
    (with_reducible refine (H_q2.out _ ?_ ?_).mono ?_)
    · exact H_l1.out.below (show Below w1.heap.size w1 _ by (repeat (first | with_reducible exact Below.refl _ _ | with_reducible exact Nat.le_refl _ | with_reducible assumption | with_reducible refine Below.drew ?_ | with_reducible refine below_drewN ?_ _ | with_reducible refine Below.alloc ?_ ?_ _ | with_reducible refine Below.setCell ?_ ?_ _ | with_reducible exact And.right (by assumption) | with_reducible refine Below.trans ?_ (Below.mono (by assumption) ?_) | with_reducible exact Below.size (And.right (by assumption)) | (focus omega) | (focus (simp; done)) | (focus (simp; omega)) | (focus (simp at *; omega)))))
    · exact H_t1.out.below (show Below w1.heap.size w1 _ by (repeat (first | with_reducible exact Below.refl _ _ | with_reducible exact Nat.le_refl _ | with_reducible assumption | with_reducible refine Below.drew ?_ | with_reducible refine below_drewN ?_ _ | with_reducible refine Below.alloc ?_ ?_ _ | with_reducible refine Below.setCell ?_ ?_ _ | with_reducible exact And.right (by assumption) | with_reducible refine Below.trans ?_ (Below.mono (by assumption) ?_) | with_reducible exact Below.size (And.right (by assumption)) | (focus omega) | (focus (simp; done)) | (focus (simp; omega)) | (focus (simp at *; omega)))))
    rintro e w2 ⟨X, cx, rfl, ho, b2⟩
    have c2 : Below w1.heap.size w1 w2 := Below.trans (by (repeat (first | with_reducible exact Below.refl _ _ | with_reducible exact Nat.le_refl _ | with_reducible assumption | with_reducible refine Below.drew ?_ | with_reducible refine below_drewN ?_ _ | with_reducible refine Below.alloc ?_ ?_ _ | with_reducible refine Below.setCell ?_ ?_ _ | with_reducible exact And.right (by assumption) | with_reducible refine Below.trans ?_ (Below.mono (by assumption) ?_) | with_reducible exact Below.size (And.right (by assumption)) | (focus omega) | (focus (simp; done)) | (focus (simp; omega)) | (focus (simp at *; omega))))) (b2.mono (by first | exact Nat.le_refl _ | omega | (simp; done) | (simp; omega)))
    have s2 := c2.size
    have bb2 := H_bb1.out.trans (c2.mono H_bb1.out.size)
    have t2 := H_t1.out.below c2
    have x2 := H_x1.out.below c2
    have l2 := H_l1.out.below c2
    have g2 := H_g1.out.below c2
    have H_b2 := Lib.hid b2; clear b2; have H_c2 := Lib.hid c2; clear c2; have H_bb2 := Lib.hid bb2; clear bb2; have H_t2 := Lib.hid t2; clear t2; have H_x2 := Lib.hid x2; clear x2; have H_l2 := Lib.hid l2; clear l2; have H_g2 := Lib.hid g2; clear g2
    clear g0 g1 g2 g3
    have z2 := H_hz.out w2 X ho.ints
    have o2 := ho.ints
    have H_ho := Lib.hid ho; clear ho; have H_z2 := Lib.hid z2; clear z2; have H_o2 := Lib.hid o2; clear o2
    go_wp2_with fail
    (with_reducible refine (H_q3.out _ X cx ?_ ?_).mono ?_)
    · exact H_z2.out.below (show Below w2.heap.size w2 _ by (repeat (first | with_reducible exact Below.refl _ _ | with_reducible exact Nat.le_refl _ | with_reducible assumption | with_reducible refine Below.drew ?_ | with_reducible refine below_drewN ?_ _ | with_reducible refine Below.alloc ?_ ?_ _ | with_reducible refine Below.setCell ?_ ?_ _ | with_reducible exact And.right (by assumption) | with_reducible refine Below.trans ?_ (Below.mono (by assumption) ?_) | with_reducible exact Below.size (And.right (by assumption)) | (focus omega) | (focus (simp; done)) | (focus (simp; omega)) | (focus (simp at *; omega)))))
    · exact H_t2.out.below (show Below w2.heap.size w2 _ by (repeat (first | with_reducible exact Below.refl _ _ | with_reducible exact Nat.le_refl _ | with_reducible assumption | with_reducible refine Below.drew ?_ | with_reducible refine below_drewN ?_ _ | with_reducible refine Below.alloc ?_ ?_ _ | with_reducible refine Below.setCell ?_ ?_ _ | with_reducible exact And.right (by assumption) | with_reducible refine Below.trans ?_ (Below.mono (by assumption) ?_) | with_reducible exact Below.size (And.right (by assumption)) | (focus omega) | (focus (simp; done)) | (focus (simp; omega)) | (focus (simp at *; omega)))))
    rintro e w3 ⟨rfl, b3⟩
    have c3 : Below w2.heap.size w2 w3 := Below.trans (by (repeat (first | with_reducible exact Below.refl _ _ | with_reducible exact Nat.le_refl _ | with_reducible assumption | with_reducible refine Below.drew ?_ | with_reducible refine below_drewN ?_ _ | with_reducible refine Below.alloc ?_ ?_ _ | with_reducible refine Below.setCell ?_ ?_ _ | with_reducible exact And.right (by assumption) | with_reducible refine Below.trans ?_ (Below.mono (by assumption) ?_) | with_reducible exact Below.size (And.right (by assumption)) | (focus omega) | (focus (simp; done)) | (focus (simp; omega)) | (focus (simp at *; omega))))) (b3.mono (by first | exact Nat.le_refl _ | omega | (simp; done) | (simp; omega)))
    have s3 := c3.size
    have bb3 := H_bb2.out.trans (c3.mono H_bb2.out.size)
    have t3 := H_t2.out.below c3
    have x3 := H_x2.out.below c3
    have l3 := H_l2.out.below c3
    have g3 := H_g2.out.below c3
    have o3 := H_o2.out.below c3
    have H_b3 := Lib.hid b3; clear b3; have H_c3 := Lib.hid c3; clear c3; have H_bb3 := Lib.hid bb3; clear bb3; have H_t3 := Lib.hid t3; clear t3; have H_x3 := Lib.hid x3; clear x3; have H_l3 := Lib.hid l3; clear l3; have H_g3 := Lib.hid g3; clear g3; have H_o3 := Lib.hid o3; clear o3
    have a3 : Blk w3 w2.heap.size #[.int .i64 s, .int .i64 c, .slice X N cx, .int .u64 U] := (blk_new rfl).below H_b3.out
    have H_a3 := Lib.hid a3; clear a3
    have a0 := (H_a3.out 0 _ rfl).at
    have a1 := (H_a3.out 1 _ rfl).at
    have a2 := (H_a3.out 2 _ rfl).at
    have a3 := (H_a3.out 3 _ rfl).at
    have la3 := (H_a3.out 0 _ rfl).lt
    go_wp2_with fail
    (with_reducible refine (H_q4.out _ X cx ?_ ?_).mono ?_)
    · exact H_o3.out.below (show Below w3.heap.size w3 _ by (repeat (first | with_reducible exact Below.refl _ _ | with_reducible exact Nat.le_refl _ | with_reducible assumption | with_reducible refine Below.drew ?_ | with_reducible refine below_drewN ?_ _ | with_reducible refine Below.alloc ?_ ?_ _ | with_reducible refine Below.setCell ?_ ?_ _ | with_reducible exact And.right (by assumption) | with_reducible refine Below.trans ?_ (Below.mono (by assumption) ?_) | with_reducible exact Below.size (And.right (by assumption)) | (focus omega) | (focus (simp; done)) | (focus (simp; omega)) | (focus (simp at *; omega)))))
    · exact H_l3.out.below (show Below w3.heap.size w3 _ by (repeat (first | with_reducible exact Below.refl _ _ | with_reducible exact Nat.le_refl _ | with_reducible assumption | with_reducible refine Below.drew ?_ | with_reducible refine below_drewN ?_ _ | with_reducible refine Below.alloc ?_ ?_ _ | with_reducible refine Below.setCell ?_ ?_ _ | with_reducible exact And.right (by assumption) | with_reducible refine Below.trans ?_ (Below.mono (by assumption) ?_) | with_reducible exact Below.size (And.right (by assumption)) | (focus omega) | (focus (simp; done)) | (focus (simp; omega)) | (focus (simp at *; omega)))))
    rintro e w4 ⟨rfl, b4⟩
    have c4 : Below w3.heap.size w3 w4 := Below.trans (by (repeat (first | with_reducible exact Below.refl _ _ | with_reducible exact Nat.le_refl _ | with_reducible assumption | with_reducible refine Below.drew ?_ | with_reducible refine below_drewN ?_ _ | with_reducible refine Below.alloc ?_ ?_ _ | with_reducible refine Below.setCell ?_ ?_ _ | with_reducible exact And.right (by assumption) | with_reducible refine Below.trans ?_ (Below.mono (by assumption) ?_) | with_reducible exact Below.size (And.right (by assumption)) | (focus omega) | (focus (simp; done)) | (focus (simp; omega)) | (focus (simp at *; omega))))) (b4.mono (by first | exact Nat.le_refl _ | omega | (simp; done) | (simp; omega)))
    have s4 := c4.size
    have bb4 := H_bb3.out.trans (c4.mono H_bb3.out.size)
    have t4 := H_t3.out.below c4
    have x4 := H_x3.out.below c4
    have g4 := H_g3.out.below c4
    have a4 := H_a3.out.below c4
    have H_b4 := Lib.hid b4; clear b4; have H_c4 := Lib.hid c4; clear c4; have H_bb4 := Lib.hid bb4; clear bb4; have H_t4 := Lib.hid t4; clear t4; have H_x4 := Lib.hid x4; clear x4; have H_g4 := Lib.hid g4; clear g4; have H_a4 := Lib.hid a4; clear a4
    clear a0 a1 a2 a3
    have a0 := (H_a4.out 0 _ rfl).at
    have z4 := H_x4.out.is m40
    have H_z4 := Lib.hid z4; clear z4
    have g0 := (H_g4.out 0 _ rfl).at
    have g1 := (H_g4.out 1 _ rfl).at
    have g2 := (H_g4.out 2 _ rfl).at
    have g3 := (H_g4.out 3 _ rfl).at
    have lg := (H_g4.out 0 _ rfl).lt
    cases hF2 : fldB x.s x.c x.l with
    | true =>
      have p2 := fun W (h : SlotIs W B m x) h2 => make_ok x.s x.c B q m x.l h.len W h.s h.c h.ints (by omega) h.fit h2 hF2
      have p3 := fun W (h : SlotIs W B m x) h2 => valid_at q h h2
      have p4 := fun W X cx (h0 : IntsAt W X .i64 x.l) (h : SlotIs W B m x) => rsame_at (Slt.made x.s x.c x.l) x X m cx h.len B m q h.len W (by omega) (by omega) h0 h.ints
      rw [ok_same x hF2] at p3
      have zz : (sameS (Slt.made x.s x.c x.l) x == sameS (Slt.made x.s x.c x.l) x) = true := by simp
      have len := H_z4.out.len
      unfold SlotErr at p2
      simp only [Slt.made] at p2 p3 p4 zz
      rw [len] at p2
      generalize sameS _ x = R at *
      generalize sumS x.s x.c x.l = V at *
      have H_p2 := Lib.hid p2; clear p2; have H_p3 := Lib.hid p3; clear p3; have H_p4 := Lib.hid p4; clear p4; have H_hF2 := Lib.hid hF2; clear hF2; have H_len := Lib.hid len; clear len
      go_wp2_with fail
      (with_reducible refine (H_p2.out _ ?_ ?_).mono ?_)
      · exact H_z4.out.below (show Below w4.heap.size w4 _ by (repeat (first | with_reducible exact Below.refl _ _ | with_reducible exact Nat.le_refl _ | with_reducible assumption | with_reducible refine Below.drew ?_ | with_reducible refine below_drewN ?_ _ | with_reducible refine Below.alloc ?_ ?_ _ | with_reducible refine Below.setCell ?_ ?_ _ | with_reducible exact And.right (by assumption) | with_reducible refine Below.trans ?_ (Below.mono (by assumption) ?_) | with_reducible exact Below.size (And.right (by assumption)) | (focus omega) | (focus (simp; done)) | (focus (simp; omega)) | (focus (simp at *; omega)))))
      · exact H_t4.out.below (show Below w4.heap.size w4 _ by (repeat (first | with_reducible exact Below.refl _ _ | with_reducible exact Nat.le_refl _ | with_reducible assumption | with_reducible refine Below.drew ?_ | with_reducible refine below_drewN ?_ _ | with_reducible refine Below.alloc ?_ ?_ _ | with_reducible refine Below.setCell ?_ ?_ _ | with_reducible exact And.right (by assumption) | with_reducible refine Below.trans ?_ (Below.mono (by assumption) ?_) | with_reducible exact Below.size (And.right (by assumption)) | (focus omega) | (focus (simp; done)) | (focus (simp; omega)) | (focus (simp at *; omega)))))
      rintro e w5 ⟨Y, cy, rfl, hy, b5⟩
      have c5 : Below w4.heap.size w4 w5 := Below.trans (by (repeat (first | with_reducible exact Below.refl _ _ | with_reducible exact Nat.le_refl _ | with_reducible assumption | with_reducible refine Below.drew ?_ | with_reducible refine below_drewN ?_ _ | with_reducible refine Below.alloc ?_ ?_ _ | with_reducible refine Below.setCell ?_ ?_ _ | with_reducible exact And.right (by assumption) | with_reducible refine Below.trans ?_ (Below.mono (by assumption) ?_) | with_reducible exact Below.size (And.right (by assumption)) | (focus omega) | (focus (simp; done)) | (focus (simp; omega)) | (focus (simp at *; omega))))) (b5.mono (by first | exact Nat.le_refl _ | omega | (simp; done) | (simp; omega)))
      have s5 := c5.size
      have bb5 := H_bb4.out.trans (c5.mono H_bb4.out.size)
      have t5 := H_t4.out.below c5
      have z5 := H_z4.out.below c5
      have g5 := H_g4.out.below c5
      have H_b5 := Lib.hid b5; clear b5; have H_c5 := Lib.hid c5; clear c5; have H_bb5 := Lib.hid bb5; clear bb5; have H_t5 := Lib.hid t5; clear t5; have H_z5 := Lib.hid z5; clear z5; have H_g5 := Lib.hid g5; clear g5
      clear g0 g1 g2 g3
      have H_hy := Lib.hid hy; clear hy
      have g0 := (H_g5.out 0 _ rfl).at
      have g1 := (H_g5.out 1 _ rfl).at
      have g2 := (H_g5.out 2 _ rfl).at
      have g3 := (H_g5.out 3 _ rfl).at
      have lg2 := (H_g5.out 0 _ rfl).lt
      go_wp2_with fail
      (with_reducible refine (H_p3.out _ ?_ ?_).mono ?_)
      · exact H_z5.out.below (show Below w5.heap.size w5 _ by (repeat (first | with_reducible exact Below.refl _ _ | with_reducible exact Nat.le_refl _ | with_reducible assumption | with_reducible refine Below.drew ?_ | with_reducible refine below_drewN ?_ _ | with_reducible refine Below.alloc ?_ ?_ _ | with_reducible refine Below.setCell ?_ ?_ _ | with_reducible exact And.right (by assumption) | with_reducible refine Below.trans ?_ (Below.mono (by assumption) ?_) | with_reducible exact Below.size (And.right (by assumption)) | (focus omega) | (focus (simp; done)) | (focus (simp; omega)) | (focus (simp at *; omega)))))
      · exact H_t5.out.below (show Below w5.heap.size w5 _ by (repeat (first | with_reducible exact Below.refl _ _ | with_reducible exact Nat.le_refl _ | with_reducible assumption | with_reducible refine Below.drew ?_ | with_reducible refine below_drewN ?_ _ | with_reducible refine Below.alloc ?_ ?_ _ | with_reducible refine Below.setCell ?_ ?_ _ | with_reducible exact And.right (by assumption) | with_reducible refine Below.trans ?_ (Below.mono (by assumption) ?_) | with_reducible exact Below.size (And.right (by assumption)) | (focus omega) | (focus (simp; done)) | (focus (simp; omega)) | (focus (simp at *; omega)))))
      rintro e w6 ⟨rfl, b6⟩
      have c6 : Below w5.heap.size w5 w6 := Below.trans (by (repeat (first | with_reducible exact Below.refl _ _ | with_reducible exact Nat.le_refl _ | with_reducible assumption | with_reducible refine Below.drew ?_ | with_reducible refine below_drewN ?_ _ | with_reducible refine Below.alloc ?_ ?_ _ | with_reducible refine Below.setCell ?_ ?_ _ | with_reducible exact And.right (by assumption) | with_reducible refine Below.trans ?_ (Below.mono (by assumption) ?_) | with_reducible exact Below.size (And.right (by assumption)) | (focus omega) | (focus (simp; done)) | (focus (simp; omega)) | (focus (simp at *; omega))))) (b6.mono (by first | exact Nat.le_refl _ | omega | (simp; done) | (simp; omega)))
      have s6 := c6.size
      have bb6 := H_bb5.out.trans (c6.mono H_bb5.out.size)
      have t6 := H_t5.out.below c6
      have z6 := H_z5.out.below c6
      have g6 := H_g5.out.below c6
      have H_b6 := Lib.hid b6; clear b6; have H_c6 := Lib.hid c6; clear c6; have H_bb6 := Lib.hid bb6; clear bb6; have H_t6 := Lib.hid t6; clear t6; have H_z6 := Lib.hid z6; clear z6; have H_g6 := Lib.hid g6; clear g6
      clear g0 g1 g2 g3
      have a6 : Blk w6 w5.heap.size #[.int .i64 x.s, .int .i64 x.c, .slice Y m cy, .int .u64 V] := (blk_new rfl).below H_b6.out
      have y6 := H_hy.out.ints.below H_c6.out
      have H_a6 := Lib.hid a6; clear a6; have H_y6 := Lib.hid y6; clear y6
      have a0 := (H_a6.out 0 _ rfl).at
      have a1 := (H_a6.out 1 _ rfl).at
      have a2 := (H_a6.out 2 _ rfl).at
      have a3 := (H_a6.out 3 _ rfl).at
      have g0 := (H_g6.out 0 _ rfl).at
      have g1 := (H_g6.out 1 _ rfl).at
      have g2 := (H_g6.out 2 _ rfl).at
      have g3 := (H_g6.out 3 _ rfl).at
      have lg3 := (H_g6.out 0 _ rfl).lt
      have la3 := (H_a6.out 0 _ rfl).lt
      go_wp2_with fail
      (with_reducible refine (H_p4.out _ Y cy ?_ ?_).mono ?_)
      · exact H_y6.out.below (show Below w6.heap.size w6 _ by (repeat (first | with_reducible exact Below.refl _ _ | with_reducible exact Nat.le_refl _ | with_reducible assumption | with_reducible refine Below.drew ?_ | with_reducible refine below_drewN ?_ _ | with_reducible refine Below.alloc ?_ ?_ _ | with_reducible refine Below.setCell ?_ ?_ _ | with_reducible exact And.right (by assumption) | with_reducible refine Below.trans ?_ (Below.mono (by assumption) ?_) | with_reducible exact Below.size (And.right (by assumption)) | (focus omega) | (focus (simp; done)) | (focus (simp; omega)) | (focus (simp at *; omega)))))
      · exact H_z6.out.below (show Below w6.heap.size w6 _ by (repeat (first | with_reducible exact Below.refl _ _ | with_reducible exact Nat.le_refl _ | with_reducible assumption | with_reducible refine Below.drew ?_ | with_reducible refine below_drewN ?_ _ | with_reducible refine Below.alloc ?_ ?_ _ | with_reducible refine Below.setCell ?_ ?_ _ | with_reducible exact And.right (by assumption) | with_reducible refine Below.trans ?_ (Below.mono (by assumption) ?_) | with_reducible exact Below.size (And.right (by assumption)) | (focus omega) | (focus (simp; done)) | (focus (simp; omega)) | (focus (simp at *; omega)))))
      rintro e w7 ⟨rfl, b7⟩
      have c7 : Below w6.heap.size w6 w7 := Below.trans (by (repeat (first | with_reducible exact Below.refl _ _ | with_reducible exact Nat.le_refl _ | with_reducible assumption | with_reducible refine Below.drew ?_ | with_reducible refine below_drewN ?_ _ | with_reducible refine Below.alloc ?_ ?_ _ | with_reducible refine Below.setCell ?_ ?_ _ | with_reducible exact And.right (by assumption) | with_reducible refine Below.trans ?_ (Below.mono (by assumption) ?_) | with_reducible exact Below.size (And.right (by assumption)) | (focus omega) | (focus (simp; done)) | (focus (simp; omega)) | (focus (simp at *; omega))))) (b7.mono (by first | exact Nat.le_refl _ | omega | (simp; done) | (simp; omega)))
      have s7 := c7.size
      have bb7 := H_bb6.out.trans (c7.mono H_bb6.out.size)
      have t7 := H_t6.out.below c7
      have H_b7 := Lib.hid b7; clear b7; have H_c7 := Lib.hid c7; clear c7; have H_bb7 := Lib.hid bb7; clear bb7; have H_t7 := Lib.hid t7; clear t7
      go_wp2_with fail
      go_ret
      exact ⟨rfl, H_bw.out.trans (H_bb7.out.mono H_bw.out.size)⟩
    | false =>
      have p2 := fun W (h : SlotIs W B m x) h2 => make_bad x.s x.c B q m x.l h.len W h.s h.c h.ints (by omega) h.fit h2 hF2
      have p3 := fun W (h : SlotIs W B m x) h2 => valid_at q h h2
      rw [not_ok hF2] at p3
      unfold SlotErr at p2
      simp only [Slt.zero, List.length_nil] at p2
      have H_p2 := Lib.hid p2; clear p2; have H_p3 := Lib.hid p3; clear p3; have H_hF2 := Lib.hid hF2; clear hF2
      go_wp2_with fail
      (with_reducible refine (H_p2.out _ ?_ ?_).mono ?_)
      · exact H_z4.out.below (show Below w4.heap.size w4 _ by (repeat (first | with_reducible exact Below.refl _ _ | with_reducible exact Nat.le_refl _ | with_reducible assumption | with_reducible refine Below.drew ?_ | with_reducible refine below_drewN ?_ _ | with_reducible refine Below.alloc ?_ ?_ _ | with_reducible refine Below.setCell ?_ ?_ _ | with_reducible exact And.right (by assumption) | with_reducible refine Below.trans ?_ (Below.mono (by assumption) ?_) | with_reducible exact Below.size (And.right (by assumption)) | (focus omega) | (focus (simp; done)) | (focus (simp; omega)) | (focus (simp at *; omega)))))
      · exact H_t4.out.below (show Below w4.heap.size w4 _ by (repeat (first | with_reducible exact Below.refl _ _ | with_reducible exact Nat.le_refl _ | with_reducible assumption | with_reducible refine Below.drew ?_ | with_reducible refine below_drewN ?_ _ | with_reducible refine Below.alloc ?_ ?_ _ | with_reducible refine Below.setCell ?_ ?_ _ | with_reducible exact And.right (by assumption) | with_reducible refine Below.trans ?_ (Below.mono (by assumption) ?_) | with_reducible exact Below.size (And.right (by assumption)) | (focus omega) | (focus (simp; done)) | (focus (simp; omega)) | (focus (simp at *; omega)))))
      rintro e w5 ⟨Y, cy, rfl, hy, b5⟩
      have c5 : Below w4.heap.size w4 w5 := Below.trans (by (repeat (first | with_reducible exact Below.refl _ _ | with_reducible exact Nat.le_refl _ | with_reducible assumption | with_reducible refine Below.drew ?_ | with_reducible refine below_drewN ?_ _ | with_reducible refine Below.alloc ?_ ?_ _ | with_reducible refine Below.setCell ?_ ?_ _ | with_reducible exact And.right (by assumption) | with_reducible refine Below.trans ?_ (Below.mono (by assumption) ?_) | with_reducible exact Below.size (And.right (by assumption)) | (focus omega) | (focus (simp; done)) | (focus (simp; omega)) | (focus (simp at *; omega))))) (b5.mono (by first | exact Nat.le_refl _ | omega | (simp; done) | (simp; omega)))
      have s5 := c5.size
      have bb5 := H_bb4.out.trans (c5.mono H_bb4.out.size)
      have t5 := H_t4.out.below c5
      have z5 := H_z4.out.below c5
      have g5 := H_g4.out.below c5
      have H_b5 := Lib.hid b5; clear b5; have H_c5 := Lib.hid c5; clear c5; have H_bb5 := Lib.hid bb5; clear bb5; have H_t5 := Lib.hid t5; clear t5; have H_z5 := Lib.hid z5; clear z5; have H_g5 := Lib.hid g5; clear g5
      clear g0 g1 g2 g3
      have H_hy := Lib.hid hy; clear hy
      have g0 := (H_g5.out 0 _ rfl).at
      have g1 := (H_g5.out 1 _ rfl).at
      have g2 := (H_g5.out 2 _ rfl).at
      have g3 := (H_g5.out 3 _ rfl).at
      have lg2 := (H_g5.out 0 _ rfl).lt
      go_wp2_with fail
      (with_reducible refine (H_p3.out _ ?_ ?_).mono ?_)
      · exact H_z5.out.below (show Below w5.heap.size w5 _ by (repeat (first | with_reducible exact Below.refl _ _ | with_reducible exact Nat.le_refl _ | with_reducible assumption | with_reducible refine Below.drew ?_ | with_reducible refine below_drewN ?_ _ | with_reducible refine Below.alloc ?_ ?_ _ | with_reducible refine Below.setCell ?_ ?_ _ | with_reducible exact And.right (by assumption) | with_reducible refine Below.trans ?_ (Below.mono (by assumption) ?_) | with_reducible exact Below.size (And.right (by assumption)) | (focus omega) | (focus (simp; done)) | (focus (simp; omega)) | (focus (simp at *; omega)))))
      · exact H_t5.out.below (show Below w5.heap.size w5 _ by (repeat (first | with_reducible exact Below.refl _ _ | with_reducible exact Nat.le_refl _ | with_reducible assumption | with_reducible refine Below.drew ?_ | with_reducible refine below_drewN ?_ _ | with_reducible refine Below.alloc ?_ ?_ _ | with_reducible refine Below.setCell ?_ ?_ _ | with_reducible exact And.right (by assumption) | with_reducible refine Below.trans ?_ (Below.mono (by assumption) ?_) | with_reducible exact Below.size (And.right (by assumption)) | (focus omega) | (focus (simp; done)) | (focus (simp; omega)) | (focus (simp at *; omega)))))
      rintro e w6 ⟨rfl, b6⟩
      have c6 : Below w5.heap.size w5 w6 := Below.trans (by (repeat (first | with_reducible exact Below.refl _ _ | with_reducible exact Nat.le_refl _ | with_reducible assumption | with_reducible refine Below.drew ?_ | with_reducible refine below_drewN ?_ _ | with_reducible refine Below.alloc ?_ ?_ _ | with_reducible refine Below.setCell ?_ ?_ _ | with_reducible exact And.right (by assumption) | with_reducible refine Below.trans ?_ (Below.mono (by assumption) ?_) | with_reducible exact Below.size (And.right (by assumption)) | (focus omega) | (focus (simp; done)) | (focus (simp; omega)) | (focus (simp at *; omega))))) (b6.mono (by first | exact Nat.le_refl _ | omega | (simp; done) | (simp; omega)))
      have s6 := c6.size
      have bb6 := H_bb5.out.trans (c6.mono H_bb5.out.size)
      have t6 := H_t5.out.below c6
      have z6 := H_z5.out.below c6
      have g6 := H_g5.out.below c6
      have H_b6 := Lib.hid b6; clear b6; have H_c6 := Lib.hid c6; clear c6; have H_bb6 := Lib.hid bb6; clear bb6; have H_t6 := Lib.hid t6; clear t6; have H_z6 := Lib.hid z6; clear z6; have H_g6 := Lib.hid g6; clear g6
      go_wp2_with fail
      go_ret
      exact ⟨rfl, H_bw.out.trans (H_bb6.out.mono H_bw.out.size)⟩
  | false =>
    have q2 := fun W (h : IntsAt W A .i64 l) h2 => make_bad s c A cp N l H_hN.out W H_hs.out H_hc.out h (by omega) H_hf.out h2 hF
    unfold SlotErr at q2
    simp only [Slt.zero, List.length_nil] at q2
    have H_q2 := Lib.hid q2; clear q2; have H_hF := Lib.hid hF; clear hF
    go_wp2_with fail
    (with_reducible refine (H_q2.out _ ?_ ?_).mono ?_)
    · exact H_l1.out.below (show Below w1.heap.size w1 _ by (repeat (first | with_reducible exact Below.refl _ _ | with_reducible exact Nat.le_refl _ | with_reducible assumption | with_reducible refine Below.drew ?_ | with_reducible refine below_drewN ?_ _ | with_reducible refine Below.alloc ?_ ?_ _ | with_reducible refine Below.setCell ?_ ?_ _ | with_reducible exact And.right (by assumption) | with_reducible refine Below.trans ?_ (Below.mono (by assumption) ?_) | with_reducible exact Below.size (And.right (by assumption)) | (focus omega) | (focus (simp; done)) | (focus (simp; omega)) | (focus (simp at *; omega)))))
    · exact H_t1.out.below (show Below w1.heap.size w1 _ by (repeat (first | with_reducible exact Below.refl _ _ | with_reducible exact Nat.le_refl _ | with_reducible assumption | with_reducible refine Below.drew ?_ | with_reducible refine below_drewN ?_ _ | with_reducible refine Below.alloc ?_ ?_ _ | with_reducible refine Below.setCell ?_ ?_ _ | with_reducible exact And.right (by assumption) | with_reducible refine Below.trans ?_ (Below.mono (by assumption) ?_) | with_reducible exact Below.size (And.right (by assumption)) | (focus omega) | (focus (simp; done)) | (focus (simp; omega)) | (focus (simp at *; omega)))))
    rintro e w2 ⟨X, cx, rfl, ho, b2⟩
    have c2 : Below w1.heap.size w1 w2 := Below.trans (by (repeat (first | with_reducible exact Below.refl _ _ | with_reducible exact Nat.le_refl _ | with_reducible assumption | with_reducible refine Below.drew ?_ | with_reducible refine below_drewN ?_ _ | with_reducible refine Below.alloc ?_ ?_ _ | with_reducible refine Below.setCell ?_ ?_ _ | with_reducible exact And.right (by assumption) | with_reducible refine Below.trans ?_ (Below.mono (by assumption) ?_) | with_reducible exact Below.size (And.right (by assumption)) | (focus omega) | (focus (simp; done)) | (focus (simp; omega)) | (focus (simp at *; omega))))) (b2.mono (by first | exact Nat.le_refl _ | omega | (simp; done) | (simp; omega)))
    have s2 := c2.size
    have bb2 := H_bb1.out.trans (c2.mono H_bb1.out.size)
    have t2 := H_t1.out.below c2
    have x2 := H_x1.out.below c2
    have g2 := H_g1.out.below c2
    have H_b2 := Lib.hid b2; clear b2; have H_c2 := Lib.hid c2; clear c2; have H_bb2 := Lib.hid bb2; clear bb2; have H_t2 := Lib.hid t2; clear t2; have H_x2 := Lib.hid x2; clear x2; have H_g2 := Lib.hid g2; clear g2
    clear g0 g1 g2 g3
    have z2 := H_x2.out.is m40
    have H_ho := Lib.hid ho; clear ho; have H_z2 := Lib.hid z2; clear z2
    have g0 := (H_g2.out 0 _ rfl).at
    have g1 := (H_g2.out 1 _ rfl).at
    have g2 := (H_g2.out 2 _ rfl).at
    have g3 := (H_g2.out 3 _ rfl).at
    have lg := (H_g2.out 0 _ rfl).lt
    cases hF2 : fldB x.s x.c x.l with
    | true =>
      have p2 := fun W (h : SlotIs W B m x) h2 => make_ok x.s x.c B q m x.l h.len W h.s h.c h.ints (by omega) h.fit h2 hF2
      have p3 := fun W (h : SlotIs W B m x) h2 => valid_at q h h2
      have p4 := fun W X cx (h0 : IntsAt W X .i64 x.l) (h : SlotIs W B m x) => rsame_at (Slt.made x.s x.c x.l) x X m cx h.len B m q h.len W (by omega) (by omega) h0 h.ints
      rw [ok_same x hF2] at p3
      have zz : (sameS (Slt.made x.s x.c x.l) x == sameS (Slt.made x.s x.c x.l) x) = true := by simp
      have len := H_z2.out.len
      unfold SlotErr at p2
      simp only [Slt.made] at p2 p3 p4 zz
      rw [len] at p2
      generalize sameS _ x = R at *
      generalize sumS x.s x.c x.l = V at *
      have H_p2 := Lib.hid p2; clear p2; have H_p3 := Lib.hid p3; clear p3; have H_p4 := Lib.hid p4; clear p4; have H_hF2 := Lib.hid hF2; clear hF2; have H_len := Lib.hid len; clear len
      go_wp2_with fail
      (with_reducible refine (H_p2.out _ ?_ ?_).mono ?_)
      · exact H_z2.out.below (show Below w2.heap.size w2 _ by (repeat (first | with_reducible exact Below.refl _ _ | with_reducible exact Nat.le_refl _ | with_reducible assumption | with_reducible refine Below.drew ?_ | with_reducible refine below_drewN ?_ _ | with_reducible refine Below.alloc ?_ ?_ _ | with_reducible refine Below.setCell ?_ ?_ _ | with_reducible exact And.right (by assumption) | with_reducible refine Below.trans ?_ (Below.mono (by assumption) ?_) | with_reducible exact Below.size (And.right (by assumption)) | (focus omega) | (focus (simp; done)) | (focus (simp; omega)) | (focus (simp at *; omega)))))
      · exact H_t2.out.below (show Below w2.heap.size w2 _ by (repeat (first | with_reducible exact Below.refl _ _ | with_reducible exact Nat.le_refl _ | with_reducible assumption | with_reducible refine Below.drew ?_ | with_reducible refine below_drewN ?_ _ | with_reducible refine Below.alloc ?_ ?_ _ | with_reducible refine Below.setCell ?_ ?_ _ | with_reducible exact And.right (by assumption) | with_reducible refine Below.trans ?_ (Below.mono (by assumption) ?_) | with_reducible exact Below.size (And.right (by assumption)) | (focus omega) | (focus (simp; done)) | (focus (simp; omega)) | (focus (simp at *; omega)))))
      rintro e w3 ⟨Y, cy, rfl, hy, b3⟩
      have c3 : Below w2.heap.size w2 w3 := Below.trans (by (repeat (first | with_reducible exact Below.refl _ _ | with_reducible exact Nat.le_refl _ | with_reducible assumption | with_reducible refine Below.drew ?_ | with_reducible refine below_drewN ?_ _ | with_reducible refine Below.alloc ?_ ?_ _ | with_reducible refine Below.setCell ?_ ?_ _ | with_reducible exact And.right (by assumption) | with_reducible refine Below.trans ?_ (Below.mono (by assumption) ?_) | with_reducible exact Below.size (And.right (by assumption)) | (focus omega) | (focus (simp; done)) | (focus (simp; omega)) | (focus (simp at *; omega))))) (b3.mono (by first | exact Nat.le_refl _ | omega | (simp; done) | (simp; omega)))
      have s3 := c3.size
      have bb3 := H_bb2.out.trans (c3.mono H_bb2.out.size)
      have t3 := H_t2.out.below c3
      have z3 := H_z2.out.below c3
      have g3 := H_g2.out.below c3
      have H_b3 := Lib.hid b3; clear b3; have H_c3 := Lib.hid c3; clear c3; have H_bb3 := Lib.hid bb3; clear bb3; have H_t3 := Lib.hid t3; clear t3; have H_z3 := Lib.hid z3; clear z3; have H_g3 := Lib.hid g3; clear g3
      clear g0 g1 g2 g3
      have H_hy := Lib.hid hy; clear hy
      have g0 := (H_g3.out 0 _ rfl).at
      have g1 := (H_g3.out 1 _ rfl).at
      have g2 := (H_g3.out 2 _ rfl).at
      have g3 := (H_g3.out 3 _ rfl).at
      have lg2 := (H_g3.out 0 _ rfl).lt
      go_wp2_with fail
      (with_reducible refine (H_p3.out _ ?_ ?_).mono ?_)
      · exact H_z3.out.below (show Below w3.heap.size w3 _ by (repeat (first | with_reducible exact Below.refl _ _ | with_reducible exact Nat.le_refl _ | with_reducible assumption | with_reducible refine Below.drew ?_ | with_reducible refine below_drewN ?_ _ | with_reducible refine Below.alloc ?_ ?_ _ | with_reducible refine Below.setCell ?_ ?_ _ | with_reducible exact And.right (by assumption) | with_reducible refine Below.trans ?_ (Below.mono (by assumption) ?_) | with_reducible exact Below.size (And.right (by assumption)) | (focus omega) | (focus (simp; done)) | (focus (simp; omega)) | (focus (simp at *; omega)))))
      · exact H_t3.out.below (show Below w3.heap.size w3 _ by (repeat (first | with_reducible exact Below.refl _ _ | with_reducible exact Nat.le_refl _ | with_reducible assumption | with_reducible refine Below.drew ?_ | with_reducible refine below_drewN ?_ _ | with_reducible refine Below.alloc ?_ ?_ _ | with_reducible refine Below.setCell ?_ ?_ _ | with_reducible exact And.right (by assumption) | with_reducible refine Below.trans ?_ (Below.mono (by assumption) ?_) | with_reducible exact Below.size (And.right (by assumption)) | (focus omega) | (focus (simp; done)) | (focus (simp; omega)) | (focus (simp at *; omega)))))
      rintro e w4 ⟨rfl, b4⟩
      have c4 : Below w3.heap.size w3 w4 := Below.trans (by (repeat (first | with_reducible exact Below.refl _ _ | with_reducible exact Nat.le_refl _ | with_reducible assumption | with_reducible refine Below.drew ?_ | with_reducible refine below_drewN ?_ _ | with_reducible refine Below.alloc ?_ ?_ _ | with_reducible refine Below.setCell ?_ ?_ _ | with_reducible exact And.right (by assumption) | with_reducible refine Below.trans ?_ (Below.mono (by assumption) ?_) | with_reducible exact Below.size (And.right (by assumption)) | (focus omega) | (focus (simp; done)) | (focus (simp; omega)) | (focus (simp at *; omega))))) (b4.mono (by first | exact Nat.le_refl _ | omega | (simp; done) | (simp; omega)))
      have s4 := c4.size
      have bb4 := H_bb3.out.trans (c4.mono H_bb3.out.size)
      have t4 := H_t3.out.below c4
      have z4 := H_z3.out.below c4
      have g4 := H_g3.out.below c4
      have H_b4 := Lib.hid b4; clear b4; have H_c4 := Lib.hid c4; clear c4; have H_bb4 := Lib.hid bb4; clear bb4; have H_t4 := Lib.hid t4; clear t4; have H_z4 := Lib.hid z4; clear z4; have H_g4 := Lib.hid g4; clear g4
      clear g0 g1 g2 g3
      have a4 : Blk w4 w3.heap.size #[.int .i64 x.s, .int .i64 x.c, .slice Y m cy, .int .u64 V] := (blk_new rfl).below H_b4.out
      have y4 := H_hy.out.ints.below H_c4.out
      have H_a4 := Lib.hid a4; clear a4; have H_y4 := Lib.hid y4; clear y4
      have a0 := (H_a4.out 0 _ rfl).at
      have a1 := (H_a4.out 1 _ rfl).at
      have a2 := (H_a4.out 2 _ rfl).at
      have a3 := (H_a4.out 3 _ rfl).at
      have g0 := (H_g4.out 0 _ rfl).at
      have g1 := (H_g4.out 1 _ rfl).at
      have g2 := (H_g4.out 2 _ rfl).at
      have g3 := (H_g4.out 3 _ rfl).at
      have lg3 := (H_g4.out 0 _ rfl).lt
      have la3 := (H_a4.out 0 _ rfl).lt
      go_wp2_with fail
      (with_reducible refine (H_p4.out _ Y cy ?_ ?_).mono ?_)
      · exact H_y4.out.below (show Below w4.heap.size w4 _ by (repeat (first | with_reducible exact Below.refl _ _ | with_reducible exact Nat.le_refl _ | with_reducible assumption | with_reducible refine Below.drew ?_ | with_reducible refine below_drewN ?_ _ | with_reducible refine Below.alloc ?_ ?_ _ | with_reducible refine Below.setCell ?_ ?_ _ | with_reducible exact And.right (by assumption) | with_reducible refine Below.trans ?_ (Below.mono (by assumption) ?_) | with_reducible exact Below.size (And.right (by assumption)) | (focus omega) | (focus (simp; done)) | (focus (simp; omega)) | (focus (simp at *; omega)))))
      · exact H_z4.out.below (show Below w4.heap.size w4 _ by (repeat (first | with_reducible exact Below.refl _ _ | with_reducible exact Nat.le_refl _ | with_reducible assumption | with_reducible refine Below.drew ?_ | with_reducible refine below_drewN ?_ _ | with_reducible refine Below.alloc ?_ ?_ _ | with_reducible refine Below.setCell ?_ ?_ _ | with_reducible exact And.right (by assumption) | with_reducible refine Below.trans ?_ (Below.mono (by assumption) ?_) | with_reducible exact Below.size (And.right (by assumption)) | (focus omega) | (focus (simp; done)) | (focus (simp; omega)) | (focus (simp at *; omega)))))
      rintro e w5 ⟨rfl, b5⟩
      have c5 : Below w4.heap.size w4 w5 := Below.trans (by (repeat (first | with_reducible exact Below.refl _ _ | with_reducible exact Nat.le_refl _ | with_reducible assumption | with_reducible refine Below.drew ?_ | with_reducible refine below_drewN ?_ _ | with_reducible refine Below.alloc ?_ ?_ _ | with_reducible refine Below.setCell ?_ ?_ _ | with_reducible exact And.right (by assumption) | with_reducible refine Below.trans ?_ (Below.mono (by assumption) ?_) | with_reducible exact Below.size (And.right (by assumption)) | (focus omega) | (focus (simp; done)) | (focus (simp; omega)) | (focus (simp at *; omega))))) (b5.mono (by first | exact Nat.le_refl _ | omega | (simp; done) | (simp; omega)))
      have s5 := c5.size
      have bb5 := H_bb4.out.trans (c5.mono H_bb4.out.size)
      have t5 := H_t4.out.below c5
      have H_b5 := Lib.hid b5; clear b5; have H_c5 := Lib.hid c5; clear c5; have H_bb5 := Lib.hid bb5; clear bb5; have H_t5 := Lib.hid t5; clear t5
      go_wp2_with fail
      go_ret
      exact ⟨rfl, H_bw.out.trans (H_bb5.out.mono H_bw.out.size)⟩
    | false =>
      have p2 := fun W (h : SlotIs W B m x) h2 => make_bad x.s x.c B q m x.l h.len W h.s h.c h.ints (by omega) h.fit h2 hF2
      have p3 := fun W (h : SlotIs W B m x) h2 => valid_at q h h2
      rw [not_ok hF2] at p3
      unfold SlotErr at p2
      simp only [Slt.zero, List.length_nil] at p2
      have H_p2 := Lib.hid p2; clear p2; have H_p3 := Lib.hid p3; clear p3; have H_hF2 := Lib.hid hF2; clear hF2
      go_wp2_with fail
      (with_reducible refine (H_p2.out _ ?_ ?_).mono ?_)
      · exact H_z2.out.below (show Below w2.heap.size w2 _ by (repeat (first | with_reducible exact Below.refl _ _ | with_reducible exact Nat.le_refl _ | with_reducible assumption | with_reducible refine Below.drew ?_ | with_reducible refine below_drewN ?_ _ | with_reducible refine Below.alloc ?_ ?_ _ | with_reducible refine Below.setCell ?_ ?_ _ | with_reducible exact And.right (by assumption) | with_reducible refine Below.trans ?_ (Below.mono (by assumption) ?_) | with_reducible exact Below.size (And.right (by assumption)) | (focus omega) | (focus (simp; done)) | (focus (simp; omega)) | (focus (simp at *; omega)))))
      · exact H_t2.out.below (show Below w2.heap.size w2 _ by (repeat (first | with_reducible exact Below.refl _ _ | with_reducible exact Nat.le_refl _ | with_reducible assumption | with_reducible refine Below.drew ?_ | with_reducible refine below_drewN ?_ _ | with_reducible refine Below.alloc ?_ ?_ _ | with_reducible refine Below.setCell ?_ ?_ _ | with_reducible exact And.right (by assumption) | with_reducible refine Below.trans ?_ (Below.mono (by assumption) ?_) | with_reducible exact Below.size (And.right (by assumption)) | (focus omega) | (focus (simp; done)) | (focus (simp; omega)) | (focus (simp at *; omega)))))
      rintro e w3 ⟨Y, cy, rfl, hy, b3⟩
      have c3 : Below w2.heap.size w2 w3 := Below.trans (by (repeat (first | with_reducible exact Below.refl _ _ | with_reducible exact Nat.le_refl _ | with_reducible assumption | with_reducible refine Below.drew ?_ | with_reducible refine below_drewN ?_ _ | with_reducible refine Below.alloc ?_ ?_ _ | with_reducible refine Below.setCell ?_ ?_ _ | with_reducible exact And.right (by assumption) | with_reducible refine Below.trans ?_ (Below.mono (by assumption) ?_) | with_reducible exact Below.size (And.right (by assumption)) | (focus omega) | (focus (simp; done)) | (focus (simp; omega)) | (focus (simp at *; omega))))) (b3.mono (by first | exact Nat.le_refl _ | omega | (simp; done) | (simp; omega)))
      have s3 := c3.size
      have bb3 := H_bb2.out.trans (c3.mono H_bb2.out.size)
      have t3 := H_t2.out.below c3
      have z3 := H_z2.out.below c3
      have g3 := H_g2.out.below c3
      have H_b3 := Lib.hid b3; clear b3; have H_c3 := Lib.hid c3; clear c3; have H_bb3 := Lib.hid bb3; clear bb3; have H_t3 := Lib.hid t3; clear t3; have H_z3 := Lib.hid z3; clear z3; have H_g3 := Lib.hid g3; clear g3
      clear g0 g1 g2 g3
      have H_hy := Lib.hid hy; clear hy
      have g0 := (H_g3.out 0 _ rfl).at
      have g1 := (H_g3.out 1 _ rfl).at
      have g2 := (H_g3.out 2 _ rfl).at
      have g3 := (H_g3.out 3 _ rfl).at
      have lg2 := (H_g3.out 0 _ rfl).lt
      go_wp2_with fail
      (with_reducible refine (H_p3.out _ ?_ ?_).mono ?_)
      · exact H_z3.out.below (show Below w3.heap.size w3 _ by (repeat (first | with_reducible exact Below.refl _ _ | with_reducible exact Nat.le_refl _ | with_reducible assumption | with_reducible refine Below.drew ?_ | with_reducible refine below_drewN ?_ _ | with_reducible refine Below.alloc ?_ ?_ _ | with_reducible refine Below.setCell ?_ ?_ _ | with_reducible exact And.right (by assumption) | with_reducible refine Below.trans ?_ (Below.mono (by assumption) ?_) | with_reducible exact Below.size (And.right (by assumption)) | (focus omega) | (focus (simp; done)) | (focus (simp; omega)) | (focus (simp at *; omega)))))
      · exact H_t3.out.below (show Below w3.heap.size w3 _ by (repeat (first | with_reducible exact Below.refl _ _ | with_reducible exact Nat.le_refl _ | with_reducible assumption | with_reducible refine Below.drew ?_ | with_reducible refine below_drewN ?_ _ | with_reducible refine Below.alloc ?_ ?_ _ | with_reducible refine Below.setCell ?_ ?_ _ | with_reducible exact And.right (by assumption) | with_reducible refine Below.trans ?_ (Below.mono (by assumption) ?_) | with_reducible exact Below.size (And.right (by assumption)) | (focus omega) | (focus (simp; done)) | (focus (simp; omega)) | (focus (simp at *; omega)))))
      rintro e w4 ⟨rfl, b4⟩
      have c4 : Below w3.heap.size w3 w4 := Below.trans (by (repeat (first | with_reducible exact Below.refl _ _ | with_reducible exact Nat.le_refl _ | with_reducible assumption | with_reducible refine Below.drew ?_ | with_reducible refine below_drewN ?_ _ | with_reducible refine Below.alloc ?_ ?_ _ | with_reducible refine Below.setCell ?_ ?_ _ | with_reducible exact And.right (by assumption) | with_reducible refine Below.trans ?_ (Below.mono (by assumption) ?_) | with_reducible exact Below.size (And.right (by assumption)) | (focus omega) | (focus (simp; done)) | (focus (simp; omega)) | (focus (simp at *; omega))))) (b4.mono (by first | exact Nat.le_refl _ | omega | (simp; done) | (simp; omega)))
      have s4 := c4.size
      have bb4 := H_bb3.out.trans (c4.mono H_bb3.out.size)
      have t4 := H_t3.out.below c4
      have z4 := H_z3.out.below c4
      have g4 := H_g3.out.below c4
      have H_b4 := Lib.hid b4; clear b4; have H_c4 := Lib.hid c4; clear c4; have H_bb4 := Lib.hid bb4; clear bb4; have H_t4 := Lib.hid t4; clear t4; have H_z4 := Lib.hid z4; clear z4; have H_g4 := Lib.hid g4; clear g4
      go_wp2_with fail
      go_ret
      exact ⟨rfl, H_bw.out.trans (H_bb4.out.mono H_bw.out.size)⟩
end Go.Proofs.YtncfilbpgomncaaDoor

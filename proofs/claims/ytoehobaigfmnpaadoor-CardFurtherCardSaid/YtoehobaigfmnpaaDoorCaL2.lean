/- The walk of CardFurther. -/
import Derived.Test.YtoehobaigfmnpaaDoorCaM
import Derived.Deep.CutRange
namespace Go.Proofs.YtoehobaigfmnpaaDoor
set_option linter.unusedSimpArgs false
set_option linter.unusedVariables false
set_option maxRecDepth 100000
open Go.RowKit Go.Maps

theorem grown_from {v w w' : World} {r : Option Nat} (h : v.grownBy w' r) (e1 : v.os = w.os) (e2 : v.tape = w.tape) (e3 : v.output = w.output) (e4 : v.heap = w.heap) : w.grownBy w' r :=
  ⟨h.os.trans e1, h.tape.trans e2, h.output.trans e3, by rw [← e4]; exact h.size, fun k hk hne => by rw [← e4] at hk ⊢; exact h.block k hk hne⟩
theorem Cards.kept {w w' : World} {b off : Nat} {l : List Crd} {row : Option Nat} (h : Cards w (some ⟨b, off, none⟩) l) (hg : w.grownBy w' row) (hne : some b ≠ row) : Cards w' (some ⟨b, off, none⟩) l := fun i z hz => by
  obtain ⟨b', off', cs, e, hlt, hl, hc, ha⟩ := h i z hz
  injection e with e
  injection e with e1 e2
  subst e1 e2
  refine ⟨b, off, cs, rfl, Nat.lt_of_lt_of_le hlt hg.size, hl, fun j hj => ?_, ha⟩
  rw [World.cell?_of_block (hg.block b hlt hne)]; exact hc j hj
theorem newL_more {door : Int} {l : List Crd} {c : Crd} (ho : ofB door c = true) (h : ∀ o r, newL door l = o :: r → o.n < c.n) : newL door (l ++ [c]) = [c] := by
  rw [newL_snoc]
  unfold nst
  rw [if_neg (by simp [ho])]
  cases hp : newL door l with
  | nil => rfl
  | cons o r => simp only; rw [if_pos (h o r hp)]
theorem newL_less {door : Int} {l : List Crd} {c : Crd} (ho : ofB door c = false) : newL door (l ++ [c]) = newL door l := by rw [newL_snoc]; unfold nst; rw [if_pos ho]
theorem newE_snoc {door : Int} {l : List Crd} {c : Crd} (hl : l.length ≤ 60) (hc : cvB c = true) : newE door (l ++ [c]) = newE door l := by
  have h1 := @newE_iff door (l ++ [c])
  have h2 := @newE_iff door l
  have h3 : allV (l ++ [c]) = allV l := by rw [allV_app]; simp [allV, hc]
  rw [h3, List.length_append, List.length_singleton] at h1
  rcases newE_01 door l with h | h <;> rcases newE_01 door (l ++ [c]) with k | k
  · rw [h, k]
  · obtain ⟨a, b, d⟩ := h2.1 h
    have := h1.2 ⟨by omega, b, d⟩
    omega
  · obtain ⟨a, b, d⟩ := h1.1 k
    have := h2.2 ⟨by omega, b, d⟩
    omega
  · rw [h, k]
theorem allV_mem {l : List Crd} (h : allV l = true) {c : Crd} (hc : c ∈ l) : cvB c = true := List.all_eq_true.1 h c hc
/-- the further card's place -/
def Fur (w3 wx : World) (n : Int) (door : Int) : Prop := Blk wx w3.heap.size #[.int .i64 9, .int .i64 1, .int .i64 door, .int .i64 n, .int .i64 100, .int .i64 900, .int .i64 0, .int .i64 0, .int .i64 0] ∧ Below w3.heap.size w3 wx
set_option maxHeartbeats 8000000 in
theorem cardFurther_walk (A : Option Addr) (cp : Nat) (l : List Crd) (door other more : Int) (w0 : World) (hl : Cards w0 A l) (hlc : l.length ≤ cp) (hcm : cp ≤ maxLen) (hd : (Lit.int .i64 door).wf = true) (ho : (Lit.int .i64 other).wf = true) (hm : (Lit.int .i64 more).wf = true) (ht : Tab w0) :
    Calls Tryd.prog 4 #[.slice A l.length cp, .int .i64 door, .int .i64 other, .int .i64 more] w0 fun e w' => e = .returned (.bool true) ∧ Below w0.heap.size w0 w' := by
  unfold maxLen at hcm
  have bb0 := Below.refl w0.heap.size w0
  have t0 := ht
  have l0 := hl
  have q1 := head35_any w0 ht
  have hlf := hl.fit
  generalize hN : l.length = N at *
  have tm1 : -999 ≤ more.tmod 1000 := by have h1 := Int.lt_tmod_of_pos more (b := 1000) (by omega); omega
  have tm2 : more.tmod 1000 ≤ 999 := by have h1 := Int.tmod_lt_of_pos more (b := 1000) (by omega); omega
  have H_hl := Lib.hid hl; clear hl; have H_ht := Lib.hid ht; clear ht; have H_bb0 := Lib.hid bb0; clear bb0; have H_t0 := Lib.hid t0; clear t0; have H_l0 := Lib.hid l0; clear l0; have H_q1 := Lib.hid q1; clear q1; have H_hN := Lib.hid hN; clear hN; have H_hd := Lib.hid hd; clear hd; have H_ho := Lib.hid ho; clear ho; have H_hm := Lib.hid hm; clear hm; have H_hlf := Lib.hid hlf; clear hlf
  go_enter Tryd.func4, Tryd.ntmps4
  go_wp2_with fail
  (with_reducible refine (H_q1.out).mono ?_)
  rintro e w1 ⟨rfl, b1⟩
  have c1 : Below w0.heap.size w0 w1 := Below.trans (by (repeat (first | with_reducible exact Below.refl _ _ | with_reducible exact Nat.le_refl _ | with_reducible assumption | with_reducible refine Below.drew ?_ | with_reducible refine below_drewN ?_ _ | with_reducible refine Below.alloc ?_ ?_ _ | with_reducible refine Below.setCell ?_ ?_ _ | with_reducible exact And.right (by assumption) | with_reducible refine Below.trans ?_ (Below.mono (by assumption) ?_) | with_reducible exact Below.size (And.right (by assumption)) | (focus omega) | (focus (simp; done)) | (focus (simp; omega)) | (focus (simp at *; omega))))) (b1.mono (by first | exact Nat.le_refl _ | omega | (simp; done) | (simp; omega)))
  have s1 := c1.size
  have bb1 := H_bb0.out.trans (c1.mono H_bb0.out.size)
  have t1 := H_t0.out.below c1
  have l1 := H_l0.out.below c1
  have H_b1 := Lib.hid b1; clear b1; have H_c1 := Lib.hid c1; clear c1; have H_bb1 := Lib.hid bb1; clear bb1; have H_t1 := Lib.hid t1; clear t1; have H_l1 := Lib.hid l1; clear l1
  by_cases n60 : N ≤ 60
  rotate_left
  · have d1 : decide ((60 : Int) < (N : Int)) = true := decide_eq_true (by omega)
    have d2 : (60 : Int) < (N : Int) := by omega
    go_wp2_with fail
    go_ret
    exact ⟨rfl, H_bb1.out⟩
  have d1 : decide ((60 : Int) < (N : Int)) = false := decide_eq_false (by omega)
  have d2 : ¬ (60 : Int) < (N : Int) := by omega
  rcases newE_01 door l with hE | hE
  rotate_left
  · have q2 := fun W (h : Cards W A l) => cnewest_no A cp N l H_hN.out (by omega) door W h hE
    unfold CardsErr at q2
    simp only [List.length_nil] at q2
    have H_q2 := Lib.hid q2; clear q2; have H_hE := Lib.hid hE; clear hE
    go_wp2_with fail
    (with_reducible refine (H_q2.out _ ?_).mono ?_)
    · exact H_l1.out.below (show Below w1.heap.size w1 _ by (repeat (first | with_reducible exact Below.refl _ _ | with_reducible exact Nat.le_refl _ | with_reducible assumption | with_reducible refine Below.drew ?_ | with_reducible refine below_drewN ?_ _ | with_reducible refine Below.alloc ?_ ?_ _ | with_reducible refine Below.setCell ?_ ?_ _ | with_reducible exact And.right (by assumption) | with_reducible refine Below.trans ?_ (Below.mono (by assumption) ?_) | with_reducible exact Below.size (And.right (by assumption)) | (focus omega) | (focus (simp; done)) | (focus (simp; omega)) | (focus (simp at *; omega)))))
    rintro e w2 ⟨A2, p2, rfl, _, b2⟩
    have c2 : Below w1.heap.size w1 w2 := Below.trans (by (repeat (first | with_reducible exact Below.refl _ _ | with_reducible exact Nat.le_refl _ | with_reducible assumption | with_reducible refine Below.drew ?_ | with_reducible refine below_drewN ?_ _ | with_reducible refine Below.alloc ?_ ?_ _ | with_reducible refine Below.setCell ?_ ?_ _ | with_reducible exact And.right (by assumption) | with_reducible refine Below.trans ?_ (Below.mono (by assumption) ?_) | with_reducible exact Below.size (And.right (by assumption)) | (focus omega) | (focus (simp; done)) | (focus (simp; omega)) | (focus (simp at *; omega))))) (b2.mono (by first | exact Nat.le_refl _ | omega | (simp; done) | (simp; omega)))
    have s2 := c2.size
    have bb2 := H_bb1.out.trans (c2.mono H_bb1.out.size)
    have H_b2 := Lib.hid b2; clear b2; have H_c2 := Lib.hid c2; clear c2; have H_bb2 := Lib.hid bb2; clear bb2
    go_wp2_with fail
    go_ret
    exact ⟨rfl, H_bb2.out⟩
  have q2 := fun W (h : Cards W A l) => cnewest_ok A cp N l H_hN.out door W h hE
  obtain ⟨_, hV, hd0, hd1⟩ := newE_iff.1 hE
  have hpv : ∀ c ∈ newL door l, cvB c = true ∧ ofB door c = true := fun c hc => ⟨allV_mem hV (newL_mem hc).1, (newL_mem hc).2⟩
  have hpl := newL_len door l
  rw [H_hN.out] at hpl
  have hmore := fun c (h : ofB door c = true) => @newL_more door l c h
  unfold CardsErr at q2
  generalize newL door l = p at *
  generalize hP : p.length = P at *
  have H_q2 := Lib.hid q2; clear q2; have H_hE := Lib.hid hE; clear hE; have H_hV := Lib.hid hV; clear hV; have H_hP := Lib.hid hP; clear hP; have H_hpv := Lib.hid hpv; clear hpv; have H_hmore := Lib.hid hmore; clear hmore
  go_wp2_with fail
  (with_reducible refine (H_q2.out _ ?_).mono ?_)
  · exact H_l1.out.below (show Below w1.heap.size w1 _ by (repeat (first | with_reducible exact Below.refl _ _ | with_reducible exact Nat.le_refl _ | with_reducible assumption | with_reducible refine Below.drew ?_ | with_reducible refine below_drewN ?_ _ | with_reducible refine Below.alloc ?_ ?_ _ | with_reducible refine Below.setCell ?_ ?_ _ | with_reducible exact And.right (by assumption) | with_reducible refine Below.trans ?_ (Below.mono (by assumption) ?_) | with_reducible exact Below.size (And.right (by assumption)) | (focus omega) | (focus (simp; done)) | (focus (simp; omega)) | (focus (simp at *; omega)))))
  rintro e w2 ⟨A2, p2, rfl, o2, b2⟩
  have c2 : Below w1.heap.size w1 w2 := Below.trans (by (repeat (first | with_reducible exact Below.refl _ _ | with_reducible exact Nat.le_refl _ | with_reducible assumption | with_reducible refine Below.drew ?_ | with_reducible refine below_drewN ?_ _ | with_reducible refine Below.alloc ?_ ?_ _ | with_reducible refine Below.setCell ?_ ?_ _ | with_reducible exact And.right (by assumption) | with_reducible refine Below.trans ?_ (Below.mono (by assumption) ?_) | with_reducible exact Below.size (And.right (by assumption)) | (focus omega) | (focus (simp; done)) | (focus (simp; omega)) | (focus (simp at *; omega))))) (b2.mono (by first | exact Nat.le_refl _ | omega | (simp; done) | (simp; omega)))
  have s2 := c2.size
  have bb2 := H_bb1.out.trans (c2.mono H_bb1.out.size)
  have l2 := H_l1.out.below c2
  have t2 := H_t1.out.below c2
  have H_b2 := Lib.hid b2; clear b2; have H_c2 := Lib.hid c2; clear c2; have H_bb2 := Lib.hid bb2; clear bb2; have H_l2 := Lib.hid l2; clear l2; have H_t2 := Lib.hid t2; clear t2
  have p2c := o2.cards (fun c hc => cfit_of (H_hpv.out c hc).1)
  have H_o2 := Lib.hid o2; clear o2; have H_p2c := Lib.hid p2c; clear p2c
  go_wp2_with fail
  (with_reducible refine (lguest_any 9 door 1 _).mono ?_)
  rintro e w3 ⟨rfl, b3⟩
  have c3 : Below w2.heap.size w2 w3 := Below.trans (by (repeat (first | with_reducible exact Below.refl _ _ | with_reducible exact Nat.le_refl _ | with_reducible assumption | with_reducible refine Below.drew ?_ | with_reducible refine below_drewN ?_ _ | with_reducible refine Below.alloc ?_ ?_ _ | with_reducible refine Below.setCell ?_ ?_ _ | with_reducible exact And.right (by assumption) | with_reducible refine Below.trans ?_ (Below.mono (by assumption) ?_) | with_reducible exact Below.size (And.right (by assumption)) | (focus omega) | (focus (simp; done)) | (focus (simp; omega)) | (focus (simp at *; omega))))) (b3.mono (by first | exact Nat.le_refl _ | omega | (simp; done) | (simp; omega)))
  have s3 := c3.size
  have bb3 := H_bb2.out.trans (c3.mono H_bb2.out.size)
  have l3 := H_l2.out.below c3
  have t3 := H_t2.out.below c3
  have H_b3 := Lib.hid b3; clear b3; have H_c3 := Lib.hid c3; clear c3; have H_bb3 := Lib.hid bb3; clear bb3; have H_l3 := Lib.hid l3; clear l3; have H_t3 := Lib.hid t3; clear t3
  have p3c := H_p2c.out.below H_c3.out
  have H_p3c := Lib.hid p3c; clear p3c
  have cont : ∃ n : Int, 1 ≤ n ∧ n ≤ 2000001000 ∧ (∀ o r, p = o :: r → o.n < n) ∧ ((p = [] → n = 1) ∧ ∀ o r, p = o :: r → n = o.n + 1 + more.tmod 1000 % 1000) := by
    cases p with
    | nil => exact ⟨1, by omega, by omega, fun o r h => by simp at h, fun _ => rfl, fun o r h => by simp at h⟩
    | cons o r =>
      have hk := (cvB_iff.1 (H_hpv.out o (by simp)).1).2
      have ho := (H_hpv.out o (by simp)).2
      simp only [ofB, decide_eq_true_eq] at ho
      have hn : 1 ≤ o.n ∧ o.n ≤ 1000000000 := by unfold kindP at hk; omega
      refine ⟨o.n + 1 + more.tmod 1000 % 1000, by omega, by omega, fun o' r' h => by injection h with h1 _; rw [← h1]; omega, fun h => by simp at h, fun o' r' h => by injection h with h1 _; rw [h1]⟩
  obtain ⟨n, hn1, hn2, hnlt, hnil, hcons⟩ := cont
  go_upto_if 38 with (fail)
  go_cut [38] from 39 to 49 (fun c38 wx => Fur w3 wx n door)
  case first =>
    cases p with
    | nil =>
      have hn := hnil rfl
      subst hn
      have hP0 : P = 0 := by rw [← H_hP.out]; rfl
      have dP : decide ((0 : Int) < (P : Int)) = false := decide_eq_false (by omega)
      have nP : ¬ (0 : Int) < (P : Int) := by omega
      have fu : Fur w3 (w3.alloc (.cells #[.int .i64 9, .int .i64 1, .int .i64 door, .int .i64 1, .int .i64 100, .int .i64 900, .int .i64 0, .int .i64 0, .int .i64 0] 31)) 1 door := ⟨blk_new rfl, (Below.refl _ _).alloc (Nat.le_refl _) _⟩
      have H_hP0 := Lib.hid hP0; clear hP0; have H_fu := Lib.hid fu; clear fu
      clear hnlt hnil hcons
      go_wp2_with fail
      go_meet
      case rel => exact H_fu.out
    | cons o r =>
      have hn := hcons o r rfl
      have hP0 : 0 < P := by rw [← H_hP.out, List.length_cons]; omega
      have dP : decide ((0 : Int) < (P : Int)) = true := decide_eq_true (by omega)
      have gP : (0 : Int) < (P : Int) := by omega
      have hk := (cvB_iff.1 (H_hpv.out o (by simp)).1).2
      have ho := (H_hpv.out o (by simp)).2
      simp only [ofB, decide_eq_true_eq] at ho
      have hon : 1 ≤ o.n ∧ o.n ≤ 1000000000 := by unfold kindP at hk; omega
      have hon1 := hon.1; have hon2 := hon.2
      obtain ⟨g, goff, rfl, hgl, _, _, _, _, y3, _⟩ := (H_p3c.out.below ((Below.refl _ _).alloc (Nat.le_refl _) (.cells #[.int .i64 9, .int .i64 1, .int .i64 door, .int .i64 1, .int .i64 100, .int .i64 900, .int .i64 0, .int .i64 0, .int .i64 0] 31))).at (i := 0) (c := o) rfl
      rw [Nat.zero_mul, Nat.add_zero] at y3
      have fu : Fur w3 (w3.alloc (.cells #[.int .i64 9, .int .i64 1, .int .i64 door, .int .i64 n, .int .i64 100, .int .i64 900, .int .i64 0, .int .i64 0, .int .i64 0] 31)) n door := ⟨blk_new rfl, (Below.refl _ _).alloc (Nat.le_refl _) _⟩
      rw [hn] at fu
      have H_hk := Lib.hid hk; clear hk; have H_ho := Lib.hid ho; clear ho; have H_hon := Lib.hid hon; clear hon; have H_fu := Lib.hid fu; clear fu; have H_hn := Lib.hid hn; clear hn
      clear hnlt hnil hcons
      go_wp2_with fail
      go_meet
      case rel => rw [H_hn.out]; exact H_fu.out
  case rest =>
    obtain ⟨kb, c4⟩ := hcut
    obtain ⟨w4, hw4⟩ : ∃ W, wc = W := ⟨_, rfl⟩
    rw [hw4] at kb c4 ⊢
    have k4 := kb
    have bb4 := H_bb3.out.trans (c4.mono H_bb3.out.size)
    have l4 := H_l3.out.below c4
    have t4 := H_t3.out.below c4
    have fit : CFit (gst 9 door n) := gst_fit (by omega) (by omega) (by omega)
    have q5 := fun W => cvalid_any (gst 9 door n) fit W
    have ofd : ofB door (gst 9 door n) = true := by simp [ofB, gst]
    have hone := H_hmore.out (gst 9 door n) ofd (fun o r h => hnlt o r h)
    clear hnlt hnil hcons kb
    cases hv : cvB (gst 9 door n) with
    | false =>
      rw [hv] at q5
      simp only [gst, Crd.cells] at q5
      have H_q5 := Lib.hid q5; clear q5; have H_k4 := Lib.hid k4; clear k4; have H_bb4 := Lib.hid bb4; clear bb4; have H_l4 := Lib.hid l4; clear l4; have H_t4 := Lib.hid t4; clear t4; have H_c4 := Lib.hid c4; clear c4; have H_hw4 := Lib.hid hw4; clear hw4; have H_fit := Lib.hid fit; clear fit; have H_ofd := Lib.hid ofd; clear ofd; have H_hone := Lib.hid hone; clear hone; have H_hv := Lib.hid hv; clear hv
      have y0 := (H_k4.out 0 _ rfl).at
      have y1 := (H_k4.out 1 _ rfl).at
      have y2 := (H_k4.out 2 _ rfl).at
      have y3 := (H_k4.out 3 _ rfl).at
      have y4 := (H_k4.out 4 _ rfl).at
      have y5 := (H_k4.out 5 _ rfl).at
      have y6 := (H_k4.out 6 _ rfl).at
      have y7 := (H_k4.out 7 _ rfl).at
      have y8 := (H_k4.out 8 _ rfl).at
      go_wp2_with fail
      (with_reducible refine (H_q5.out _).mono ?_)
      rintro e w5 ⟨rfl, b5⟩
      have c5 : Below w4.heap.size w4 w5 := Below.trans (by (repeat (first | with_reducible exact Below.refl _ _ | with_reducible exact Nat.le_refl _ | with_reducible assumption | with_reducible refine Below.drew ?_ | with_reducible refine below_drewN ?_ _ | with_reducible refine Below.alloc ?_ ?_ _ | with_reducible refine Below.setCell ?_ ?_ _ | with_reducible exact And.right (by assumption) | with_reducible refine Below.trans ?_ (Below.mono (by assumption) ?_) | with_reducible exact Below.size (And.right (by assumption)) | (focus omega) | (focus (simp; done)) | (focus (simp; omega)) | (focus (simp at *; omega))))) (b5.mono (by first | exact Nat.le_refl _ | omega | (simp; done) | (simp; omega)))
      have s5 := c5.size
      have bb5 := H_bb4.out.trans (c5.mono H_bb4.out.size)
      have H_b5 := Lib.hid b5; clear b5; have H_c5 := Lib.hid c5; clear c5; have H_bb5 := Lib.hid bb5; clear bb5
      go_wp2_with fail
      go_ret
      exact ⟨rfl, H_bb5.out⟩
    | true =>
      have hnm : n ≤ 1000000000 := by have := (cvB_iff.1 hv).2; unfold kindP gst at this; simp only at this; omega
      have f1 : ∀ c ∈ [gst 9 door n], CFit c := fun c hc => by rw [List.mem_singleton] at hc; rw [hc]; exact fit
      have fall : ∀ c ∈ l ++ [gst 9 door n], CFit c := fun c hc => by
        rcases List.mem_append.1 hc with h | h
        · exact H_hlf.out c h
        · exact f1 c h
      have hlen : (l ++ [gst 9 door n]).length = N + 1 := by rw [List.length_append, H_hN.out]; rfl
      have q6 := fun W X c (h : Cards W X (l ++ [gst 9 door n])) => cnewest_any X c (N + 1) _ hlen (by omega) door W h
      have q7 := fun W (h : Cards W A l) => cnewest_any A cp N l H_hN.out (by omega) other W h
      have q8 := fun W X c (h : Cards W X (l ++ [gst 9 door n])) => cnewest_any X c (N + 1) _ hlen (by omega) other W h
      have e1 : newE door (l ++ [gst 9 door n]) = 0 := by rw [newE_snoc (by rw [H_hN.out]; exact n60) hv]; exact H_hE.out
      have e2 : newE other (l ++ [gst 9 door n]) = newE other l := newE_snoc (by rw [H_hN.out]; exact n60) hv
      have r1 : newR door (l ++ [gst 9 door n]) = [gst 9 door n] := by rw [newR, if_pos e1, hone]
      have r2 : door ≠ other → newR other (l ++ [gst 9 door n]) = newR other l := fun h => by
        unfold newR
        rw [e2]
        have : ofB other (gst 9 door n) = false := by simp [ofB, gst, h]
        rw [newL_less this]
      rw [e1, r1] at q6
      rw [e2] at q8
      have sf := newR_fit (door := other) fall
      have rf := newR_fit (door := other) H_hlf.out
      have sl := newR_len other (l ++ [gst 9 door n])
      have rl := newR_len other l
      rw [hlen] at sl
      rw [H_hN.out] at rl
      have own1 := fun (W : World) (b : Nat) (hb : W.heap.size = b) => (ownC_lit (base := W.heap.size) [gst 9 door n] (Nat.le_refl _) (by simp) (vs := (gst 9 door n).cells.toArray) (by simp) hb).cards f1
      have same1 := fun W X Y c d (h1 : Cards W X [gst 9 door n]) (h2 : Cards W Y [gst 9 door n]) => rcsame_any X Y 1 1 c d _ _ rfl rfl (by omega) (by omega) W h1 h2
      rw [csB_iff.2 rfl] at same1
      rw [hv] at q5
      unfold CardsErr at q6 q7 q8
      generalize newR other (l ++ [gst 9 door n]) = s at *
      generalize newR other l = r at *
      generalize newE other l = G at *
      generalize hR : r.length = R at *
      generalize hS : s.length = S at *
      have same2 : door ≠ other → ∀ W X Y c d, Cards W X r → Cards W Y s → Calls Tryd.prog 16 #[.slice X R c, .slice Y S d] W fun e w' => e = .returned (.bool true) ∧ Below W.heap.size W w' := fun h W X Y c d h1 h2 => by
        have := rcsame_any X Y R S c d r s hR hS (by omega) (by omega) W h1 h2
        rw [csB_iff.2 (r2 h).symm] at this
        exact this
      simp only [List.length_singleton] at q6
      simp only [gst, Crd.cells] at q5 own1
      have H_q5 := Lib.hid q5; clear q5; have H_q6 := Lib.hid q6; clear q6; have H_q7 := Lib.hid q7; clear q7; have H_q8 := Lib.hid q8; clear q8; have H_k4 := Lib.hid k4; clear k4; have H_bb4 := Lib.hid bb4; clear bb4; have H_l4 := Lib.hid l4; clear l4; have H_t4 := Lib.hid t4; clear t4; have H_c4 := Lib.hid c4; clear c4; have H_hw4 := Lib.hid hw4; clear hw4; have H_fit := Lib.hid fit; clear fit; have H_ofd := Lib.hid ofd; clear ofd; have H_hone := Lib.hid hone; clear hone; have H_hv := Lib.hid hv; clear hv; have H_f1 := Lib.hid f1; clear f1; have H_fall := Lib.hid fall; clear fall; have H_hlen := Lib.hid hlen; clear hlen; have H_e1 := Lib.hid e1; clear e1; have H_e2 := Lib.hid e2; clear e2; have H_r1 := Lib.hid r1; clear r1; have H_r2 := Lib.hid r2; clear r2; have H_sf := Lib.hid sf; clear sf; have H_rf := Lib.hid rf; clear rf; have H_sl := Lib.hid sl; clear sl; have H_rl := Lib.hid rl; clear rl; have H_own1 := Lib.hid own1; clear own1; have H_same1 := Lib.hid same1; clear same1; have H_same2 := Lib.hid same2; clear same2; have H_hR := Lib.hid hR; clear hR; have H_hS := Lib.hid hS; clear hS
      have y0 := (H_k4.out 0 _ rfl).at
      have y1 := (H_k4.out 1 _ rfl).at
      have y2 := (H_k4.out 2 _ rfl).at
      have y3 := (H_k4.out 3 _ rfl).at
      have y4 := (H_k4.out 4 _ rfl).at
      have y5 := (H_k4.out 5 _ rfl).at
      have y6 := (H_k4.out 6 _ rfl).at
      have y7 := (H_k4.out 7 _ rfl).at
      have y8 := (H_k4.out 8 _ rfl).at
      go_wp2_with fail
      (with_reducible refine (H_q5.out _).mono ?_)
      rintro e w5 ⟨rfl, b5⟩
      have c5 : Below w4.heap.size w4 w5 := Below.trans (by (repeat (first | with_reducible exact Below.refl _ _ | with_reducible exact Nat.le_refl _ | with_reducible assumption | with_reducible refine Below.drew ?_ | with_reducible refine below_drewN ?_ _ | with_reducible refine Below.alloc ?_ ?_ _ | with_reducible refine Below.setCell ?_ ?_ _ | with_reducible exact And.right (by assumption) | with_reducible refine Below.trans ?_ (Below.mono (by assumption) ?_) | with_reducible exact Below.size (And.right (by assumption)) | (focus omega) | (focus (simp; done)) | (focus (simp; omega)) | (focus (simp at *; omega))))) (b5.mono (by first | exact Nat.le_refl _ | omega | (simp; done) | (simp; omega)))
      have s5 := c5.size
      have bb5 := H_bb4.out.trans (c5.mono H_bb4.out.size)
      have k5 := H_k4.out.below c5
      have l5 := H_l4.out.below c5
      have H_b5 := Lib.hid b5; clear b5; have H_c5 := Lib.hid c5; clear c5; have H_bb5 := Lib.hid bb5; clear bb5; have H_k5 := Lib.hid k5; clear k5; have H_l5 := Lib.hid l5; clear l5
      clear y0 y1 y2 y3 y4 y5 y6 y7 y8
      have y0 := (H_k5.out 0 _ rfl).at
      have y1 := (H_k5.out 1 _ rfl).at
      have y2 := (H_k5.out 2 _ rfl).at
      have y3 := (H_k5.out 3 _ rfl).at
      have y4 := (H_k5.out 4 _ rfl).at
      have y5 := (H_k5.out 5 _ rfl).at
      have y6 := (H_k5.out 6 _ rfl).at
      have y7 := (H_k5.out 7 _ rfl).at
      have y8 := (H_k5.out 8 _ rfl).at
      have lk := (H_k5.out 0 _ rfl).lt
      go_upto_region 12 with (fail)
      go_cut [13] from 54 to 59 (fun c13 wx => ∃ (A8 : Option Addr) (p8 : Nat), c13 = .slice A8 (N + 1) p8 ∧ Cards wx A8 (l ++ [gst 9 door n]) ∧ Below w5.heap.size w5 wx)
      case first =>
        go_region_held3 (fun W => (∀ b o, b < w5.heap.size → W.cell? ⟨b, o, none⟩ = w5.cell? ⟨b, o, none⟩) ∧ Below w5.heap.size w5 W) (first | (refine ext_mk ?_; (repeat (first | with_reducible exact Below.refl _ _ | with_reducible exact Nat.le_refl _ | with_reducible assumption | with_reducible refine Below.drew ?_ | with_reducible refine below_drewN ?_ _ | with_reducible refine Below.alloc ?_ ?_ _ | with_reducible refine Below.setCell ?_ ?_ _ | with_reducible exact And.right (by assumption) | with_reducible refine Below.trans ?_ (Below.mono (by assumption) ?_) | with_reducible exact Below.size (And.right (by assumption)) | (focus omega) | (focus (simp; done)) | (focus (simp; omega)) | (focus (simp at *; omega)))))) (first | (refine step_app_c _ (by rfl) (.tmp 54) (.tmp 55) (by rfl) w5.heap.size (some ⟨w5.heap.size, 0, none⟩) 0 0 [] rfl (by rfl) (by exact ownC_nil (w := w5) (Nat.le_refl _) rfl) A cp N l H_hN.out (by rfl) (by exact H_l5.out.below (by (repeat (first | with_reducible exact Below.refl _ _ | with_reducible exact Nat.le_refl _ | with_reducible assumption | with_reducible refine Below.drew ?_ | with_reducible refine below_drewN ?_ _ | with_reducible refine Below.alloc ?_ ?_ _ | with_reducible refine Below.setCell ?_ ?_ _ | with_reducible exact And.right (by assumption) | with_reducible refine Below.trans ?_ (Below.mono (by assumption) ?_) | with_reducible exact Below.size (And.right (by assumption)) | (focus omega) | (focus (simp; done)) | (focus (simp; omega)) | (focus (simp at *; omega)))))) N (by omega) (by omega) (by first | omega | (simp; done) | (simp; omega)) ?_; intro A7 p7 w7 o7 g7; have b7 : Below w5.heap.size w5 w7 := OwnRows.grow (w0 := w5) (ownC_nil (w := w5) (Nat.le_refl _) rfl) (by (repeat (first | with_reducible exact Below.refl _ _ | with_reducible exact Nat.le_refl _ | with_reducible assumption | with_reducible refine Below.drew ?_ | with_reducible refine below_drewN ?_ _ | with_reducible refine Below.alloc ?_ ?_ _ | with_reducible refine Below.setCell ?_ ?_ _ | with_reducible exact And.right (by assumption) | with_reducible refine Below.trans ?_ (Below.mono (by assumption) ?_) | with_reducible exact Below.size (And.right (by assumption)) | (focus omega) | (focus (simp; done)) | (focus (simp; omega)) | (focus (simp at *; omega))))) (grown_from g7 rfl rfl rfl rfl); have tag : True := trivial; have gs7 := b7.size) | (refine step_app_c _ (by rfl) (.tmp 54) (.tmp 55) (by rfl) w5.heap.size (some ⟨w5.heap.size, 0, none⟩) 0 0 [] rfl (by rfl) (by exact (ownC_nil (w := w5) (Nat.le_refl _) rfl).alloc _) A cp N l H_hN.out (by rfl) (by exact H_l5.out.below (by (repeat (first | with_reducible exact Below.refl _ _ | with_reducible exact Nat.le_refl _ | with_reducible assumption | with_reducible refine Below.drew ?_ | with_reducible refine below_drewN ?_ _ | with_reducible refine Below.alloc ?_ ?_ _ | with_reducible refine Below.setCell ?_ ?_ _ | with_reducible exact And.right (by assumption) | with_reducible refine Below.trans ?_ (Below.mono (by assumption) ?_) | with_reducible exact Below.size (And.right (by assumption)) | (focus omega) | (focus (simp; done)) | (focus (simp; omega)) | (focus (simp at *; omega)))))) N (by omega) (by omega) (by first | omega | (simp; done) | (simp; omega)) ?_; intro A7 p7 w7 o7 g7; have b7 : Below w5.heap.size w5 w7 := OwnRows.grow (w0 := w5) ((ownC_nil (w := w5) (Nat.le_refl _) rfl).alloc _) (by (repeat (first | with_reducible exact Below.refl _ _ | with_reducible exact Nat.le_refl _ | with_reducible assumption | with_reducible refine Below.drew ?_ | with_reducible refine below_drewN ?_ _ | with_reducible refine Below.alloc ?_ ?_ _ | with_reducible refine Below.setCell ?_ ?_ _ | with_reducible exact And.right (by assumption) | with_reducible refine Below.trans ?_ (Below.mono (by assumption) ?_) | with_reducible exact Below.size (And.right (by assumption)) | (focus omega) | (focus (simp; done)) | (focus (simp; omega)) | (focus (simp at *; omega))))) (grown_from g7 rfl rfl rfl rfl); have kc : Cards w7 (some ⟨w5.heap.size + 1, 0, none⟩) [gst 9 door n] := Cards.kept (H_own1.out (w5.alloc (.cells #[] 31)) _ (by simp)) (grown_from g7 rfl rfl rfl rfl) (by simp [blockOf]); have gs7 := b7.size) | (refine step_app_c _ (by rfl) (.tmp 54) (.tmp 55) (by rfl) w5.heap.size (some ⟨w5.heap.size + 1, 0, none⟩) 0 0 [] rfl (by rfl) (by exact ownC_nil (w := w5.alloc (.cells #[.int .i64 9, .int .i64 1, .int .i64 door, .int .i64 n, .int .i64 100, .int .i64 900, .int .i64 0, .int .i64 0, .int .i64 0] 31)) (by simp) (by simp)) A cp N l H_hN.out (by rfl) (by exact H_l5.out.below (by (repeat (first | with_reducible exact Below.refl _ _ | with_reducible exact Nat.le_refl _ | with_reducible assumption | with_reducible refine Below.drew ?_ | with_reducible refine below_drewN ?_ _ | with_reducible refine Below.alloc ?_ ?_ _ | with_reducible refine Below.setCell ?_ ?_ _ | with_reducible exact And.right (by assumption) | with_reducible refine Below.trans ?_ (Below.mono (by assumption) ?_) | with_reducible exact Below.size (And.right (by assumption)) | (focus omega) | (focus (simp; done)) | (focus (simp; omega)) | (focus (simp at *; omega)))))) N (by omega) (by omega) (by first | omega | (simp; done) | (simp; omega)) ?_; intro A7 p7 w7 o7 g7; have b7 : Below w5.heap.size w5 w7 := OwnRows.grow (w0 := w5) (ownC_nil (w := w5.alloc (.cells #[.int .i64 9, .int .i64 1, .int .i64 door, .int .i64 n, .int .i64 100, .int .i64 900, .int .i64 0, .int .i64 0, .int .i64 0] 31)) (by simp) (by simp)) (by (repeat (first | with_reducible exact Below.refl _ _ | with_reducible exact Nat.le_refl _ | with_reducible assumption | with_reducible refine Below.drew ?_ | with_reducible refine below_drewN ?_ _ | with_reducible refine Below.alloc ?_ ?_ _ | with_reducible refine Below.setCell ?_ ?_ _ | with_reducible exact And.right (by assumption) | with_reducible refine Below.trans ?_ (Below.mono (by assumption) ?_) | with_reducible exact Below.size (And.right (by assumption)) | (focus omega) | (focus (simp; done)) | (focus (simp; omega)) | (focus (simp at *; omega))))) (grown_from g7 rfl rfl rfl rfl); have kc : Cards w7 (some ⟨w5.heap.size, 0, none⟩) [gst 9 door n] := Cards.kept ((H_own1.out w5 _ rfl).below ((Below.refl _ _).alloc (Nat.le_refl _) _)) (grown_from g7 rfl rfl rfl rfl) (by simp [blockOf]); have gs7 := b7.size) | (revert o7; intro o7; revert kc; intro kc; refine step_app_c _ (by rfl) (.tmp 56) (.tmp 58) (by rfl) w5.heap.size A7 p7 N l H_hN.out (by rfl) (by exact o7) _ 1 1 _ rfl (by rfl) (by exact kc) (N + 1) rfl (by omega) (by omega) ?_; intro A8 p8 w8 o8 g8; have b8 : Below w5.heap.size w5 w8 := OwnRows.grow (w0 := w5) o7 b7 (grown_from g8 rfl rfl rfl rfl); have cc8 := OwnC.cards o8 H_fall.out; clear o8 g8) | (revert o7; intro o7; revert tag; intro tag; refine step_app_c _ (by rfl) (.tmp 56) (.tmp 58) (by rfl) w5.heap.size A7 p7 N l H_hN.out (by rfl) (by exact OwnRows.alloc o7 _) (some ⟨w7.heap.size, 0, none⟩) 1 1 [gst 9 door n] rfl (by rfl) (by exact H_own1.out w7 _ rfl) (N + 1) rfl (by omega) (by first | omega | (simp; done) | (simp; omega)) ?_; intro A8 p8 w8 o8 g8; have b8 : Below w5.heap.size w5 w8 := OwnRows.grow (w0 := w5) (OwnRows.alloc o7 (.cells #[.int .i64 9, .int .i64 1, .int .i64 door, .int .i64 n, .int .i64 100, .int .i64 900, .int .i64 0, .int .i64 0, .int .i64 0] 31)) (b7.alloc b7.size _) (grown_from g8 rfl rfl rfl rfl); have cc8 := OwnC.cards o8 H_fall.out; clear o8 g8) | fail)
        all_goals
          go_wp2_with fail
          have H_cc8 := Lib.hid cc8; clear cc8; have H_b8 := Lib.hid b8; clear b8
          go_meet
          case rel => exact ⟨A8, p8, rfl, H_cc8.out, H_b8.out⟩
      case rest =>
        obtain ⟨A8, p8, rfl, cc8, c8⟩ := hcut
        obtain ⟨w8, hw8⟩ : ∃ W, wc = W := ⟨_, rfl⟩
        rw [hw8] at cc8 c8 ⊢
        have l8 := H_l5.out.below c8
        have k8 := H_k5.out.below c8
        have bb8 := H_bb5.out.trans (c8.mono H_bb5.out.size)
        clear y0 y1 y2 y3 y4 y5 y6 y7 y8
        have H_cc8 := Lib.hid cc8; clear cc8; have H_c8 := Lib.hid c8; clear c8; have H_l8 := Lib.hid l8; clear l8; have H_k8 := Lib.hid k8; clear k8; have H_bb8 := Lib.hid bb8; clear bb8; have H_hw8 := Lib.hid hw8; clear hw8
        go_wp2_with fail
        (with_reducible refine (H_q6.out _ _ _ ?_).mono ?_)
        · exact H_cc8.out
        rintro e w9 ⟨A9, p9, rfl, o9, b9⟩
        have c9 : Below w8.heap.size w8 w9 := Below.trans (by (repeat (first | with_reducible exact Below.refl _ _ | with_reducible exact Nat.le_refl _ | with_reducible assumption | with_reducible refine Below.drew ?_ | with_reducible refine below_drewN ?_ _ | with_reducible refine Below.alloc ?_ ?_ _ | with_reducible refine Below.setCell ?_ ?_ _ | with_reducible exact And.right (by assumption) | with_reducible refine Below.trans ?_ (Below.mono (by assumption) ?_) | with_reducible exact Below.size (And.right (by assumption)) | (focus omega) | (focus (simp; done)) | (focus (simp; omega)) | (focus (simp at *; omega))))) (b9.mono (by first | exact Nat.le_refl _ | omega | (simp; done) | (simp; omega)))
        have s9 := c9.size
        have bb9 := H_bb8.out.trans (c9.mono H_bb8.out.size)
        have l9 := H_l8.out.below c9
        have k9 := H_k8.out.below c9
        have cc9 := H_cc8.out.below c9
        have H_b9 := Lib.hid b9; clear b9; have H_c9 := Lib.hid c9; clear c9; have H_bb9 := Lib.hid bb9; clear bb9; have H_l9 := Lib.hid l9; clear l9; have H_k9 := Lib.hid k9; clear k9; have H_cc9 := Lib.hid cc9; clear cc9
        have q9c := o9.cards H_f1.out
        have H_o9 := Lib.hid o9; clear o9; have H_q9c := Lib.hid q9c; clear q9c
        go_wp2_with fail
        (with_reducible refine (H_q7.out _ ?_).mono ?_)
        · exact H_l9.out.below (show Below w9.heap.size w9 _ by (repeat (first | with_reducible exact Below.refl _ _ | with_reducible exact Nat.le_refl _ | with_reducible assumption | with_reducible refine Below.drew ?_ | with_reducible refine below_drewN ?_ _ | with_reducible refine Below.alloc ?_ ?_ _ | with_reducible refine Below.setCell ?_ ?_ _ | with_reducible exact And.right (by assumption) | with_reducible refine Below.trans ?_ (Below.mono (by assumption) ?_) | with_reducible exact Below.size (And.right (by assumption)) | (focus omega) | (focus (simp; done)) | (focus (simp; omega)) | (focus (simp at *; omega)))))
        rintro e w10 ⟨A10, p10, rfl, o10, b10⟩
        have c10 : Below w9.heap.size w9 w10 := Below.trans (by (repeat (first | with_reducible exact Below.refl _ _ | with_reducible exact Nat.le_refl _ | with_reducible assumption | with_reducible refine Below.drew ?_ | with_reducible refine below_drewN ?_ _ | with_reducible refine Below.alloc ?_ ?_ _ | with_reducible refine Below.setCell ?_ ?_ _ | with_reducible exact And.right (by assumption) | with_reducible refine Below.trans ?_ (Below.mono (by assumption) ?_) | with_reducible exact Below.size (And.right (by assumption)) | (focus omega) | (focus (simp; done)) | (focus (simp; omega)) | (focus (simp at *; omega))))) (b10.mono (by first | exact Nat.le_refl _ | omega | (simp; done) | (simp; omega)))
        have s10 := c10.size
        have bb10 := H_bb9.out.trans (c10.mono H_bb9.out.size)
        have k10 := H_k9.out.below c10
        have cc10 := H_cc9.out.below c10
        have H_b10 := Lib.hid b10; clear b10; have H_c10 := Lib.hid c10; clear c10; have H_bb10 := Lib.hid bb10; clear bb10; have H_k10 := Lib.hid k10; clear k10; have H_cc10 := Lib.hid cc10; clear cc10
        have q10c := H_q9c.out.below H_c10.out
        have r10 := o10.cards H_rf.out
        have H_o10 := Lib.hid o10; clear o10; have H_q10c := Lib.hid q10c; clear q10c; have H_r10 := Lib.hid r10; clear r10
        go_wp2_with fail
        (with_reducible refine (H_q8.out _ _ _ ?_).mono ?_)
        · exact H_cc10.out.below (show Below w10.heap.size w10 _ by (repeat (first | with_reducible exact Below.refl _ _ | with_reducible exact Nat.le_refl _ | with_reducible assumption | with_reducible refine Below.drew ?_ | with_reducible refine below_drewN ?_ _ | with_reducible refine Below.alloc ?_ ?_ _ | with_reducible refine Below.setCell ?_ ?_ _ | with_reducible exact And.right (by assumption) | with_reducible refine Below.trans ?_ (Below.mono (by assumption) ?_) | with_reducible exact Below.size (And.right (by assumption)) | (focus omega) | (focus (simp; done)) | (focus (simp; omega)) | (focus (simp at *; omega)))))
        rintro e w11 ⟨A11, p11, rfl, o11, b11⟩
        have c11 : Below w10.heap.size w10 w11 := Below.trans (by (repeat (first | with_reducible exact Below.refl _ _ | with_reducible exact Nat.le_refl _ | with_reducible assumption | with_reducible refine Below.drew ?_ | with_reducible refine below_drewN ?_ _ | with_reducible refine Below.alloc ?_ ?_ _ | with_reducible refine Below.setCell ?_ ?_ _ | with_reducible exact And.right (by assumption) | with_reducible refine Below.trans ?_ (Below.mono (by assumption) ?_) | with_reducible exact Below.size (And.right (by assumption)) | (focus omega) | (focus (simp; done)) | (focus (simp; omega)) | (focus (simp at *; omega))))) (b11.mono (by first | exact Nat.le_refl _ | omega | (simp; done) | (simp; omega)))
        have s11 := c11.size
        have bb11 := H_bb10.out.trans (c11.mono H_bb10.out.size)
        have k11 := H_k10.out.below c11
        have H_b11 := Lib.hid b11; clear b11; have H_c11 := Lib.hid c11; clear c11; have H_bb11 := Lib.hid bb11; clear bb11; have H_k11 := Lib.hid k11; clear k11
        have q11c := H_q10c.out.below H_c11.out
        have r11 := H_r10.out.below H_c11.out
        have s11 := o11.cards H_sf.out
        have H_o11 := Lib.hid o11; clear o11; have H_q11c := Lib.hid q11c; clear q11c; have H_r11 := Lib.hid r11; clear r11; have H_s11 := Lib.hid s11; clear s11
        have y0 := (H_k11.out 0 _ rfl).at
        have y1 := (H_k11.out 1 _ rfl).at
        have y2 := (H_k11.out 2 _ rfl).at
        have y3 := (H_k11.out 3 _ rfl).at
        have y4 := (H_k11.out 4 _ rfl).at
        have y5 := (H_k11.out 5 _ rfl).at
        have y6 := (H_k11.out 6 _ rfl).at
        have y7 := (H_k11.out 7 _ rfl).at
        have y8 := (H_k11.out 8 _ rfl).at
        by_cases hoo : other = door
        · have doo : (other == door) = true := by rw [hoo]; simp
          have H_hoo := Lib.hid hoo; clear hoo
          go_wp2_with fail
          (with_reducible refine (H_same1.out _ _ _ _ _ ?_ ?_).mono ?_)
          · exact H_q11c.out.below (show Below w11.heap.size w11 _ by (repeat (first | with_reducible exact Below.refl _ _ | with_reducible exact Nat.le_refl _ | with_reducible assumption | with_reducible refine Below.drew ?_ | with_reducible refine below_drewN ?_ _ | with_reducible refine Below.alloc ?_ ?_ _ | with_reducible refine Below.setCell ?_ ?_ _ | with_reducible exact And.right (by assumption) | with_reducible refine Below.trans ?_ (Below.mono (by assumption) ?_) | with_reducible exact Below.size (And.right (by assumption)) | (focus omega) | (focus (simp; done)) | (focus (simp; omega)) | (focus (simp at *; omega)))))
          · exact H_own1.out _ _ rfl
          rintro e w12 ⟨rfl, b12⟩
          have c12 : Below w11.heap.size w11 w12 := Below.trans (by (repeat (first | with_reducible exact Below.refl _ _ | with_reducible exact Nat.le_refl _ | with_reducible assumption | with_reducible refine Below.drew ?_ | with_reducible refine below_drewN ?_ _ | with_reducible refine Below.alloc ?_ ?_ _ | with_reducible refine Below.setCell ?_ ?_ _ | with_reducible exact And.right (by assumption) | with_reducible refine Below.trans ?_ (Below.mono (by assumption) ?_) | with_reducible exact Below.size (And.right (by assumption)) | (focus omega) | (focus (simp; done)) | (focus (simp; omega)) | (focus (simp at *; omega))))) (b12.mono (by first | exact Nat.le_refl _ | omega | (simp; done) | (simp; omega)))
          have s12 := c12.size
          have bb12 := H_bb11.out.trans (c12.mono H_bb11.out.size)
          have H_b12 := Lib.hid b12; clear b12; have H_c12 := Lib.hid c12; clear c12; have H_bb12 := Lib.hid bb12; clear bb12
          go_wp2_with fail
          go_ret
          exact ⟨ret_bool (by simp), H_bb12.out⟩
        · have doo : (other == door) = false := by rw [beq_eq_false_iff_ne]; exact hoo
          have sm := H_same2.out (fun h => hoo h.symm)
          have H_hoo := Lib.hid hoo; clear hoo; have H_sm := Lib.hid sm; clear sm
          go_wp2_with fail
          (with_reducible refine (H_same1.out _ _ _ _ _ ?_ ?_).mono ?_)
          · exact H_q11c.out.below (show Below w11.heap.size w11 _ by (repeat (first | with_reducible exact Below.refl _ _ | with_reducible exact Nat.le_refl _ | with_reducible assumption | with_reducible refine Below.drew ?_ | with_reducible refine below_drewN ?_ _ | with_reducible refine Below.alloc ?_ ?_ _ | with_reducible refine Below.setCell ?_ ?_ _ | with_reducible exact And.right (by assumption) | with_reducible refine Below.trans ?_ (Below.mono (by assumption) ?_) | with_reducible exact Below.size (And.right (by assumption)) | (focus omega) | (focus (simp; done)) | (focus (simp; omega)) | (focus (simp at *; omega)))))
          · exact H_own1.out _ _ rfl
          rintro e w12 ⟨rfl, b12⟩
          have c12 : Below w11.heap.size w11 w12 := Below.trans (by (repeat (first | with_reducible exact Below.refl _ _ | with_reducible exact Nat.le_refl _ | with_reducible assumption | with_reducible refine Below.drew ?_ | with_reducible refine below_drewN ?_ _ | with_reducible refine Below.alloc ?_ ?_ _ | with_reducible refine Below.setCell ?_ ?_ _ | with_reducible exact And.right (by assumption) | with_reducible refine Below.trans ?_ (Below.mono (by assumption) ?_) | with_reducible exact Below.size (And.right (by assumption)) | (focus omega) | (focus (simp; done)) | (focus (simp; omega)) | (focus (simp at *; omega))))) (b12.mono (by first | exact Nat.le_refl _ | omega | (simp; done) | (simp; omega)))
          have s12 := c12.size
          have bb12 := H_bb11.out.trans (c12.mono H_bb11.out.size)
          have r12 := H_r11.out.below c12
          have s12 := H_s11.out.below c12
          have H_b12 := Lib.hid b12; clear b12; have H_c12 := Lib.hid c12; clear c12; have H_bb12 := Lib.hid bb12; clear bb12; have H_r12 := Lib.hid r12; clear r12; have H_s12 := Lib.hid s12; clear s12
          go_wp2_with fail
          (with_reducible refine (H_sm.out _ _ _ _ _ ?_ ?_).mono ?_)
          · exact H_r12.out
          · exact H_s12.out
          rintro e w13 ⟨rfl, b13⟩
          have c13 : Below w12.heap.size w12 w13 := Below.trans (by (repeat (first | with_reducible exact Below.refl _ _ | with_reducible exact Nat.le_refl _ | with_reducible assumption | with_reducible refine Below.drew ?_ | with_reducible refine below_drewN ?_ _ | with_reducible refine Below.alloc ?_ ?_ _ | with_reducible refine Below.setCell ?_ ?_ _ | with_reducible exact And.right (by assumption) | with_reducible refine Below.trans ?_ (Below.mono (by assumption) ?_) | with_reducible exact Below.size (And.right (by assumption)) | (focus omega) | (focus (simp; done)) | (focus (simp; omega)) | (focus (simp at *; omega))))) (b13.mono (by first | exact Nat.le_refl _ | omega | (simp; done) | (simp; omega)))
          have s13 := c13.size
          have bb13 := H_bb12.out.trans (c13.mono H_bb12.out.size)
          have H_b13 := Lib.hid b13; clear b13; have H_c13 := Lib.hid c13; clear c13; have H_bb13 := Lib.hid bb13; clear bb13
          go_wp2_with fail
          go_ret
          exact ⟨ret_bool (by simp), H_bb13.out⟩
end Go.Proofs.YtoehobaigfmnpaaDoor

/- The walk of SlotOthers. -/
import Derived.Test.YtncfilbpgomncaaDoorSlM
namespace Go.Proofs.YtncfilbpgomncaaDoor
set_option linter.unusedSimpArgs false
set_option linter.unusedVariables false
set_option maxRecDepth 100000
open Go.RowKit

theorem xor64z {x b : Int} (hx : 0 ≤ x ∧ x ≤ 18446744073709551615) (hb : 0 ≤ b ∧ b ≤ 18446744073709551615) : 0 ≤ bits .xor .u64 x b ∧ bits .xor .u64 x b ≤ 18446744073709551615 ∧ (bits .xor .u64 x b = x ↔ b = 0) := by
  obtain ⟨x, rfl⟩ := Int.eq_ofNat_of_zero_le hx.1
  obtain ⟨b, rfl⟩ := Int.eq_ofNat_of_zero_le hb.1
  rw [u64_xor_nat x b (by omega) (by omega)]
  have h1 := xor_lt x b (by omega) (by omega)
  refine ⟨by omega, by omega, fun h => ?_, fun h => ?_⟩
  · have h2 : x ^^^ b = x ^^^ 0 := by rw [Nat.xor_zero]; omega
    rw [xor_right_inj h2]; rfl
  · have : b = 0 := by omega
    rw [this, Nat.xor_zero]
theorem sumS_turn0 (s c : Int) (l : List Int) (b : Int) (hs : 0 ≤ s) (hb : 0 ≤ b) : sumS (turnI s b) c l ≠ sumS s c l := fun h => next_turn 0 (s :: c :: l) 0 b (by simp) (by simpa using hs) hb h.symm
theorem sumS_turn1 (s c : Int) (l : List Int) (b : Int) (hc : 0 ≤ c) (hb : 0 ≤ b) : sumS s (turnI c b) l ≠ sumS s c l := fun h => next_turn 0 (s :: c :: l) 1 b (by simp) (by simpa using hc) hb h.symm
theorem sumS_turn2 (s c : Int) (l : List Int) (j : Nat) (b : Int) (hj : j < l.length) (hl : 0 ≤ l.getD j 0) (hb : 0 ≤ b) : sumS s c (l.set j (turnI (l.getD j 0) b)) ≠ sumS s c l := fun h =>
  next_turn 0 (s :: c :: l) (j + 2) b (by simpa using hj) (by simpa using hl) hb (by have h2 := h.symm; simp only [sumS] at h2; simpa using h2)
theorem vld_other {s c u : Int} {l : List Int} (h : sumS s c l ≠ u) : vldB s c l u = false := by
  have : (sumS s c l == u) = false := by rw [beq_eq_false_iff_ne]; exact h
  simp only [vldB, this, Bool.and_false]
theorem ris_in : ∀ {d : Int} {l : List Int}, 0 ≤ d → risB d l = true → ∀ x ∈ l, 1 ≤ x ∧ x ≤ 1000000
  | _, [], _, _, x, hx => by simp at hx
  | d, y :: r, hd, h, x, hx => by
    simp only [risB, Bool.and_eq_true, wB_iff] at h
    rcases List.mem_cons.1 hx with rfl | hx
    · omega
    · exact ris_in (by omega) h.2 x hx
theorem ris_at {l : List Int} (h : risB 0 l = true) {j : Nat} (hj : j < l.length) : 1 ≤ l.getD j 0 ∧ l.getD j 0 ≤ 1000000 := by
  have e : l.getD j 0 = l[j] := by simp [List.getD_eq_getElem?_getD, hj]
  rw [e]; exact ris_in (by omega) h _ (List.getElem_mem hj)
/-- the closure that turns a last digit -/
theorem turn_any (n b : Int) (g : Nat) (w : World) (hn : 0 ≤ n ∧ n ≤ 1000000000) (hb : 0 ≤ b ∧ b ≤ 255) (hg : w.cell? ⟨g, 0, none⟩ = some (.int .u8 b)) :
    Calls Tryd.prog 44 #[.int .i64 n, .pointer (some ⟨g, 0, none⟩)] w fun e w' => e = .returned (.int .i64 (turnI n b)) ∧ w = w' := by
  have n0 := hn.1; have n1 := hn.2; have b0 := hb.1; have b1 := hb.2
  have fin : turnI n b = n - n % 10 + (n % 10 + 1 + b % 9) % 10 := rfl
  have H_hn := Lib.hid hn; clear hn; have H_hb := Lib.hid hb; clear hb; have H_fin := Lib.hid fin; clear fin
  go_enter Tryd.func44, Tryd.ntmps44
  go_wp2
  go_ret
  exact ⟨ret_int (by rw [H_fin.out]), rfl⟩

set_option maxHeartbeats 8000000 in
theorem slotOthers_walk (s c : Int) (A : Option Addr) (cp : Nat) (l : List Int) (which by_ sum : Int) (w : World) (hsw : (Lit.int .i64 s).wf = true) (hcw : (Lit.int .i64 c).wf = true)
    (hl : IntsAt w A .i64 l) (hlc : l.length ≤ cp) (hcm : cp ≤ maxLen) (hlw : ∀ n ∈ l, (Lit.int .i64 n).wf = true) (hww : (Lit.int .u16 which).wf = true) (hbw : (Lit.int .u8 by_).wf = true) (hmw : (Lit.int .u64 sum).wf = true) (ht : Tab w) :
    Calls Tryd.prog 12 #[.int .i64 s, .int .i64 c, .slice A l.length cp, .int .u16 which, .int .u8 by_, .int .u64 sum] w fun e w' => e = .returned (.bool true) ∧ Below w.heap.size w w' := by
  obtain ⟨i0, hi, hz0, hz1, hz2⟩ := info_parts infoI64
  have hmf : ∀ (fn : Fn) (first cap : Array Value) (w : World), (Instr.makeFunc fn first cap).run Tryd.prog w = .ok (.func fn first cap) w := fun _ _ _ _ => rfl
  have hs := wf_i64 hsw
  have hc := wf_i64 hcw
  have hf := fit_wf hlw
  have hwh := wf_u16 hww
  have hby := wf_u8 hbw
  have hsm := wf_u64 hmw
  unfold maxLen at hcm
  generalize hN : l.length = N at *
  obtain ⟨w0, hw0⟩ : ∃ w0, w.alloc (.cells #[.int .u8 by_] 5) = w0 := ⟨_, rfl⟩
  have bw : Below w.heap.size w w0 := by rw [← hw0]; exact (Below.refl _ _).alloc (Nat.le_refl _) _
  have e0 : Blk w0 w.heap.size #[.int .u8 by_] := by rw [← hw0]; exact blk_new rfl
  have bb0 := Below.refl w0.heap.size w0
  have t0 := ht.below bw
  have l0 := hl.below bw
  have q1 := head36_any w0 t0
  have ws := hwh.1; have ws1 := hwh.2
  have sm0 := hsm.1; have sm1 := hsm.2
  have H_hsw := Lib.hid hsw; clear hsw; have H_hcw := Lib.hid hcw; clear hcw; have H_hl := Lib.hid hl; clear hl; have H_hlw := Lib.hid hlw; clear hlw; have H_hww := Lib.hid hww; clear hww; have H_hbw := Lib.hid hbw; clear hbw; have H_hmw := Lib.hid hmw; clear hmw; have H_ht := Lib.hid ht; clear ht; have H_hs := Lib.hid hs; clear hs; have H_hc := Lib.hid hc; clear hc; have H_hf := Lib.hid hf; clear hf; have H_hwh := Lib.hid hwh; clear hwh; have H_hby := Lib.hid hby; clear hby; have H_hsm := Lib.hid hsm; clear hsm; have H_bw := Lib.hid bw; clear bw; have H_e0 := Lib.hid e0; clear e0; have H_bb0 := Lib.hid bb0; clear bb0; have H_t0 := Lib.hid t0; clear t0; have H_l0 := Lib.hid l0; clear l0; have H_q1 := Lib.hid q1; clear q1; have H_hN := Lib.hid hN; clear hN; have H_hw0 := Lib.hid hw0; clear hw0; have H_hmf := Lib.hid hmf; clear hmf
  go_enter Tryd.func12, Tryd.ntmps12
  go_wp2_with fail
  rw [H_hw0.out]
  go_wp2_with fail
  (with_reducible refine (H_q1.out).mono ?_)
  rintro e w1 ⟨rfl, b1⟩
  have c1 : Below w0.heap.size w0 w1 := Below.trans (by (repeat (first | with_reducible exact Below.refl _ _ | with_reducible exact Nat.le_refl _ | with_reducible assumption | with_reducible refine Below.drew ?_ | with_reducible refine below_drewN ?_ _ | with_reducible refine Below.alloc ?_ ?_ _ | with_reducible refine Below.setCell ?_ ?_ _ | with_reducible exact And.right (by assumption) | with_reducible refine Below.trans ?_ (Below.mono (by assumption) ?_) | with_reducible exact Below.size (And.right (by assumption)) | (focus omega) | (focus (simp; done)) | (focus (simp; omega)) | (focus (simp at *; omega))))) (b1.mono (by first | exact Nat.le_refl _ | omega | (simp; done) | (simp; omega)))
  have s1 := c1.size
  have bb1 := H_bb0.out.trans (c1.mono H_bb0.out.size)
  have t1 := H_t0.out.below c1
  have l1 := H_l0.out.below c1
  have e1 := H_e0.out.below c1
  have H_b1 := Lib.hid b1; clear b1; have H_c1 := Lib.hid c1; clear c1; have H_bb1 := Lib.hid bb1; clear bb1; have H_t1 := Lib.hid t1; clear t1; have H_l1 := Lib.hid l1; clear l1; have H_e1 := Lib.hid e1; clear e1
  by_cases n40 : N ≤ 40
  rotate_left
  · have d1 : ¬ ((N : Int) ≤ 40) := by omega
    go_wp2_with fail
    go_ret
    exact ⟨rfl, H_bw.out.trans (H_bb1.out.mono H_bw.out.size)⟩
  have d1 : (N : Int) ≤ 40 := by omega
  cases hF : fldB s c l with
  | false =>
    have q2 := fun W (h : IntsAt W A .i64 l) h2 => make_bad s c A cp N l H_hN.out W H_hs.out H_hc.out h (by omega) H_hf.out h2 hF
    unfold SlotErr at q2
    simp only [Slt.zero, List.length_nil] at q2
    have H_q2 := Lib.hid q2; clear q2; have H_hF := Lib.hid hF; clear hF
    go_wp2_with fail
    (with_reducible refine (H_q2.out _ ?_ ?_).mono ?_)
    · exact H_l1.out.below (show Below w1.heap.size w1 _ by (repeat (first | with_reducible exact Below.refl _ _ | with_reducible exact Nat.le_refl _ | with_reducible assumption | with_reducible refine Below.drew ?_ | with_reducible refine below_drewN ?_ _ | with_reducible refine Below.alloc ?_ ?_ _ | with_reducible refine Below.setCell ?_ ?_ _ | with_reducible exact And.right (by assumption) | with_reducible refine Below.trans ?_ (Below.mono (by assumption) ?_) | with_reducible exact Below.size (And.right (by assumption)) | (focus omega) | (focus (simp; done)) | (focus (simp; omega)) | (focus (simp at *; omega)))))
    · exact H_t1.out.below (show Below w1.heap.size w1 _ by (repeat (first | with_reducible exact Below.refl _ _ | with_reducible exact Nat.le_refl _ | with_reducible assumption | with_reducible refine Below.drew ?_ | with_reducible refine below_drewN ?_ _ | with_reducible refine Below.alloc ?_ ?_ _ | with_reducible refine Below.setCell ?_ ?_ _ | with_reducible exact And.right (by assumption) | with_reducible refine Below.trans ?_ (Below.mono (by assumption) ?_) | with_reducible exact Below.size (And.right (by assumption)) | (focus omega) | (focus (simp; done)) | (focus (simp; omega)) | (focus (simp at *; omega)))))
    rintro e w2 ⟨X, cx, rfl, ho, b2⟩
    have c2 : Below w1.heap.size w1 w2 := Below.trans (by (repeat (first | with_reducible exact Below.refl _ _ | with_reducible exact Nat.le_refl _ | with_reducible assumption | with_reducible refine Below.drew ?_ | with_reducible refine below_drewN ?_ _ | with_reducible refine Below.alloc ?_ ?_ _ | with_reducible refine Below.setCell ?_ ?_ _ | with_reducible exact And.right (by assumption) | with_reducible refine Below.trans ?_ (Below.mono (by assumption) ?_) | with_reducible exact Below.size (And.right (by assumption)) | (focus omega) | (focus (simp; done)) | (focus (simp; omega)) | (focus (simp at *; omega))))) (b2.mono (by first | exact Nat.le_refl _ | omega | (simp; done) | (simp; omega)))
    have s2 := c2.size
    have bb2 := H_bb1.out.trans (c2.mono H_bb1.out.size)
    have t2 := H_t1.out.below c2
    have H_b2 := Lib.hid b2; clear b2; have H_c2 := Lib.hid c2; clear c2; have H_bb2 := Lib.hid bb2; clear bb2; have H_t2 := Lib.hid t2; clear t2
    go_wp2_with fail
    go_ret
    exact ⟨rfl, H_bw.out.trans ((H_bb2.out.alloc H_bb2.out.size _).mono H_bw.out.size)⟩
  | true =>
    have q2 := fun W (h : IntsAt W A .i64 l) h2 => make_ok s c A cp N l H_hN.out W H_hs.out H_hc.out h (by omega) H_hf.out h2 hF
    have hu := sumS_in s c l
    have hx := xor64z hu H_hsm.out
    have vo : vldB s c l (bits .xor .u64 (sumS s c l) sum) = (sum == 0) := by
      rw [Bool.eq_iff_iff, beq_iff_eq, ← hx.2.2, vldB, hF, Bool.true_and, beq_iff_eq]; exact eq_comm
    have q3 := fun W X cx (h : IntsAt W X .i64 l) h2 => valid_any s c (bits .xor .u64 (sumS s c l) sum) X cx N l H_hN.out W H_hs.out H_hc.out h (by omega) H_hf.out h2
    rw [vo] at q3
    have hF2 := fldB_iff.1 hF
    have st0 := fun b hb => vld_other (sumS_turn0 s c l b hF2.1.1.1 hb)
    have st1 := fun b hb => vld_other (sumS_turn1 s c l b hF2.1.2.1.1 hb)
    have st2 := fun j b hj hb => vld_other (sumS_turn2 s c l j b hj (by have := ris_at hF2.2 hj; omega) hb)
    unfold SlotErr at q2
    simp only [Slt.made] at q2
    rw [H_hN.out] at q2
    generalize hUU : sumS s c l = U at *
    generalize hXX : bits .xor .u64 U sum = XU at *
    have hz : (( sum == 0) == (sum == 0)) = true := by simp
    have hnn : ((N : Int) != (N : Int)) = false := by simp
    have H_q2 := Lib.hid q2; clear q2; have H_q3 := Lib.hid q3; clear q3; have H_hF := Lib.hid hF; clear hF; have H_hu := Lib.hid hu; clear hu; have H_hx := Lib.hid hx; clear hx; have H_vo := Lib.hid vo; clear vo; have H_hF2 := Lib.hid hF2; clear hF2; have H_st0 := Lib.hid st0; clear st0; have H_st1 := Lib.hid st1; clear st1; have H_st2 := Lib.hid st2; clear st2; have H_hUU := Lib.hid hUU; clear hUU
    go_wp2_with fail
    (with_reducible refine (H_q2.out _ ?_ ?_).mono ?_)
    · exact H_l1.out.below (show Below w1.heap.size w1 _ by (repeat (first | with_reducible exact Below.refl _ _ | with_reducible exact Nat.le_refl _ | with_reducible assumption | with_reducible refine Below.drew ?_ | with_reducible refine below_drewN ?_ _ | with_reducible refine Below.alloc ?_ ?_ _ | with_reducible refine Below.setCell ?_ ?_ _ | with_reducible exact And.right (by assumption) | with_reducible refine Below.trans ?_ (Below.mono (by assumption) ?_) | with_reducible exact Below.size (And.right (by assumption)) | (focus omega) | (focus (simp; done)) | (focus (simp; omega)) | (focus (simp at *; omega)))))
    · exact H_t1.out.below (show Below w1.heap.size w1 _ by (repeat (first | with_reducible exact Below.refl _ _ | with_reducible exact Nat.le_refl _ | with_reducible assumption | with_reducible refine Below.drew ?_ | with_reducible refine below_drewN ?_ _ | with_reducible refine Below.alloc ?_ ?_ _ | with_reducible refine Below.setCell ?_ ?_ _ | with_reducible exact And.right (by assumption) | with_reducible refine Below.trans ?_ (Below.mono (by assumption) ?_) | with_reducible exact Below.size (And.right (by assumption)) | (focus omega) | (focus (simp; done)) | (focus (simp; omega)) | (focus (simp at *; omega)))))
    rintro e w2 ⟨X, cx, rfl, ho, b2⟩
    have c2 : Below w1.heap.size w1 w2 := Below.trans (by (repeat (first | with_reducible exact Below.refl _ _ | with_reducible exact Nat.le_refl _ | with_reducible assumption | with_reducible refine Below.drew ?_ | with_reducible refine below_drewN ?_ _ | with_reducible refine Below.alloc ?_ ?_ _ | with_reducible refine Below.setCell ?_ ?_ _ | with_reducible exact And.right (by assumption) | with_reducible refine Below.trans ?_ (Below.mono (by assumption) ?_) | with_reducible exact Below.size (And.right (by assumption)) | (focus omega) | (focus (simp; done)) | (focus (simp; omega)) | (focus (simp at *; omega))))) (b2.mono (by first | exact Nat.le_refl _ | omega | (simp; done) | (simp; omega)))
    have s2 := c2.size
    have bb2 := H_bb1.out.trans (c2.mono H_bb1.out.size)
    have t2 := H_t1.out.below c2
    have e2 := H_e1.out.below c2
    have l2 := H_l1.out.below c2
    have H_b2 := Lib.hid b2; clear b2; have H_c2 := Lib.hid c2; clear c2; have H_bb2 := Lib.hid bb2; clear bb2; have H_t2 := Lib.hid t2; clear t2; have H_e2 := Lib.hid e2; clear e2; have H_l2 := Lib.hid l2; clear l2
    have o2 := ho.ints
    have H_ho := Lib.hid ho; clear ho; have H_o2 := Lib.hid o2; clear o2
    go_wp2_with fail
    (with_reducible refine (H_q3.out _ X cx ?_ ?_).mono ?_)
    · exact H_o2.out.below (show Below w2.heap.size w2 _ by (repeat (first | with_reducible exact Below.refl _ _ | with_reducible exact Nat.le_refl _ | with_reducible assumption | with_reducible refine Below.drew ?_ | with_reducible refine below_drewN ?_ _ | with_reducible refine Below.alloc ?_ ?_ _ | with_reducible refine Below.setCell ?_ ?_ _ | with_reducible exact And.right (by assumption) | with_reducible refine Below.trans ?_ (Below.mono (by assumption) ?_) | with_reducible exact Below.size (And.right (by assumption)) | (focus omega) | (focus (simp; done)) | (focus (simp; omega)) | (focus (simp at *; omega)))))
    · exact H_t2.out.below (show Below w2.heap.size w2 _ by (repeat (first | with_reducible exact Below.refl _ _ | with_reducible exact Nat.le_refl _ | with_reducible assumption | with_reducible refine Below.drew ?_ | with_reducible refine below_drewN ?_ _ | with_reducible refine Below.alloc ?_ ?_ _ | with_reducible refine Below.setCell ?_ ?_ _ | with_reducible exact And.right (by assumption) | with_reducible refine Below.trans ?_ (Below.mono (by assumption) ?_) | with_reducible exact Below.size (And.right (by assumption)) | (focus omega) | (focus (simp; done)) | (focus (simp; omega)) | (focus (simp at *; omega)))))
    rintro e w3 ⟨rfl, b3⟩
    have c3 : Below w2.heap.size w2 w3 := Below.trans (by (repeat (first | with_reducible exact Below.refl _ _ | with_reducible exact Nat.le_refl _ | with_reducible assumption | with_reducible refine Below.drew ?_ | with_reducible refine below_drewN ?_ _ | with_reducible refine Below.alloc ?_ ?_ _ | with_reducible refine Below.setCell ?_ ?_ _ | with_reducible exact And.right (by assumption) | with_reducible refine Below.trans ?_ (Below.mono (by assumption) ?_) | with_reducible exact Below.size (And.right (by assumption)) | (focus omega) | (focus (simp; done)) | (focus (simp; omega)) | (focus (simp at *; omega))))) (b3.mono (by first | exact Nat.le_refl _ | omega | (simp; done) | (simp; omega)))
    have s3 := c3.size
    have bb3 := H_bb2.out.trans (c3.mono H_bb2.out.size)
    have t3 := H_t2.out.below c3
    have e3 := H_e2.out.below c3
    have o3 := H_o2.out.below c3
    have H_b3 := Lib.hid b3; clear b3; have H_c3 := Lib.hid c3; clear c3; have H_bb3 := Lib.hid bb3; clear bb3; have H_t3 := Lib.hid t3; clear t3; have H_e3 := Lib.hid e3; clear e3; have H_o3 := Lib.hid o3; clear o3
    clear hXX hz
    have a3 : Blk w3 w2.heap.size #[.int .i64 s, .int .i64 c, .slice X N cx, .int .u64 U] := ((blk_new rfl).alloc _).below H_b3.out
    have v3 : Blk w3 (w2.heap.size + 1) #[.int .i64 s, .int .i64 c, .slice X N cx, .int .u64 XU] := (blk_new (by simp)).below H_b3.out
    have la := (a3 0 _ rfl).lt
    have lv := (v3 0 _ rfl).lt
    have H_a3 := Lib.hid a3; clear a3; have H_v3 := Lib.hid v3; clear v3
    have a0 := (H_a3.out 0 _ rfl).at
    have a1 := (H_a3.out 1 _ rfl).at
    have a2 := (H_a3.out 2 _ rfl).at
    have a3 := (H_a3.out 3 _ rfl).at
    have v0 := (H_v3.out 0 _ rfl).at
    have v1 := (H_v3.out 1 _ rfl).at
    have v2 := (H_v3.out 2 _ rfl).at
    have v3 := (H_v3.out 3 _ rfl).at
    have f0 := (H_v3.out 0 _ rfl).free; have f1 := (H_v3.out 1 _ rfl).free; have f2 := (H_v3.out 2 _ rfl).free; have f3 := (H_v3.out 3 _ rfl).free
    have hmf := H_hmf.out
    have hne1 : w2.heap.size ≠ w2.heap.size + 1 := by omega
    have hne2 : w2.heap.size + 1 ≠ w2.heap.size := by omega
    go_upto_region 14 with (fail)
    clear f0 f1 f2 f3 hmf
    clear a0 a1 a2 a3
    clear v0 v1 v2 v3
    obtain ⟨w4, hw4⟩ : ∃ W, (((w3.setCell ⟨w2.heap.size + 1, 0, none⟩ (.int .i64 s)).setCell ⟨w2.heap.size + 1, 1, none⟩ (.int .i64 c)).setCell ⟨w2.heap.size + 1, 2, none⟩ (.slice X N cx)).setCell ⟨w2.heap.size + 1, 3, none⟩ (.int .u64 U) = W := ⟨_, rfl⟩
    rw [hw4]
    have c4 : Below w2.heap.size w2 w4 := by rw [← hw4]; exact below_set4 H_c3.out (Nat.le_succ _) _ _ _ _ _ _ _ _
    have sz4 : w4.heap.size = w3.heap.size := by rw [← hw4]; simp
    have a4 : Blk w4 w2.heap.size #[.int .i64 s, .int .i64 c, .slice X N cx, .int .u64 U] := by rw [← hw4]; exact (((H_a3.out.far hne2 _).far hne2 _).far hne2 _).far hne2 _
    have v4 : Blk w4 (w2.heap.size + 1) #[.int .i64 s, .int .i64 c, .slice X N cx, .int .u64 U] := by rw [← hw4]; exact (((H_v3.out.set 0 (.int .i64 s) (by simp)).set 1 (.int .i64 c) (by simp)).set 2 (.slice X N cx) (by simp)).set 3 (.int .u64 U) (by simp)
    have o4 := H_o2.out.below c4
    have la4 := (a4 0 _ rfl).lt
    have lv4 := (v4 0 _ rfl).lt
    have H_hw4 := Lib.hid hw4; clear hw4; have H_c4 := Lib.hid c4; clear c4; have H_a4 := Lib.hid a4; clear a4; have H_v4 := Lib.hid v4; clear v4; have H_o4 := Lib.hid o4; clear o4; have H_sz4 := Lib.hid sz4; clear sz4
    have a0 := (H_a4.out 0 _ rfl).at
    have a1 := (H_a4.out 1 _ rfl).at
    have a2 := (H_a4.out 2 _ rfl).at
    have a3 := (H_a4.out 3 _ rfl).at
    go_wp2_with (at_builtin; refine wp_app_at _ rfl (.tmp 56) (.tmp 58) _ rfl w4.heap.size 3 i0 _ 8 Tryd.underlying24 hi hz0 hz1 hz2 rfl .i64 (some ⟨w4.heap.size, 0, none⟩) 0 0 [] rfl rfl (own_lit ([] : List Int) (Nat.le_refl _) (by simp) _ rfl) X cx N l H_hN.out rfl (H_o4.out.alloc _) ?_ ?_ ?_ ?_)
    all_goals try omega
    all_goals try (simp; done)
    intro A2 c2 w5 ho5 hg5 hB5
    have b5 : Below w4.heap.size w4 w5 := (own_lit (k := .i64) (E := 3) ([] : List Int) (Nat.le_refl _) (by simp) _ rfl).grow ((Below.refl _ _).alloc (Nat.le_refl _) _) hg5
    clear a0 a1 a2 a3
    have c5 : Below w2.heap.size w2 w5 := H_c4.out.trans (b5.mono H_c4.out.size)
    have a5 := H_a4.out.below b5
    have v5 := H_v4.out.below b5
    have lv5 := (v5 0 _ rfl).lt
    have v2 := (v5 2 _ rfl).at; have f2 := (v5 2 _ rfl).free
    have H_b5 := Lib.hid b5; clear b5; have H_c5 := Lib.hid c5; clear c5; have H_a5 := Lib.hid a5; clear a5; have H_v5 := Lib.hid v5; clear v5; have H_ho5 := Lib.hid ho5; clear ho5; have H_hg5 := Lib.hid hg5; clear hg5; have H_hB5 := Lib.hid hB5; clear hB5
    go_upto_region 15 with (fail)
    clear v2 f2
    obtain ⟨w6, hw6⟩ : ∃ W, w5.setCell ⟨w2.heap.size + 1, 2, none⟩ (.slice A2 N c2) = W := ⟨_, rfl⟩
    rw [hw6]
    have c6 : Below w2.heap.size w2 w6 := by rw [← hw6]; exact below_set H_c5.out (Nat.le_succ _) _ _
    have a6 : Blk w6 w2.heap.size #[.int .i64 s, .int .i64 c, .slice X N cx, .int .u64 U] := by rw [← hw6]; exact H_a5.out.far hne2 _
    have v6 : Blk w6 (w2.heap.size + 1) #[.int .i64 s, .int .i64 c, .slice A2 N c2, .int .u64 U] := by rw [← hw6]; exact H_v5.out.set 2 (.slice A2 N c2) (by simp)
    have h6 : OwnInts w6 w4.heap.size 3 .i64 A2 c2 l := by rw [← hw6]; exact H_ho5.out.set (by simpa using lv4) _
    have o6 := H_o2.out.below c6
    have t6 := H_t2.out.below c6
    have e6 := H_e2.out.below c6
    have bb6 := H_bb2.out.trans (c6.mono H_bb2.out.size)
    have la6 := (a6 0 _ rfl).lt
    have lv6 := (v6 0 _ rfl).lt
    have H_hw6 := Lib.hid hw6; clear hw6; have H_c6 := Lib.hid c6; clear c6; have H_a6 := Lib.hid a6; clear a6; have H_v6 := Lib.hid v6; clear v6; have H_h6 := Lib.hid h6; clear h6; have H_o6 := Lib.hid o6; clear o6; have H_t6 := Lib.hid t6; clear t6; have H_e6 := Lib.hid e6; clear e6; have H_bb6 := Lib.hid bb6; clear bb6
    have a0 := (H_a6.out 0 _ rfl).at
    have a1 := (H_a6.out 1 _ rfl).at
    have a2 := (H_a6.out 2 _ rfl).at
    have a3 := (H_a6.out 3 _ rfl).at
    have e00 := (H_e6.out 0 _ rfl).at
    have f0 := (H_v6.out 0 _ rfl).free; have f1 := (H_v6.out 1 _ rfl).free
    have v0 := (H_v6.out 0 _ rfl).at
    have v1 := (H_v6.out 1 _ rfl).at
    have v2 := (H_v6.out 2 _ rfl).at
    have v3 := (H_v6.out 3 _ rfl).at
    have nn0 : (0 : Int) ≤ (N : Int) := by omega
    have hK : which % (2 + (N : Int)) = 0 ∨ which % (2 + (N : Int)) = 1 ∨ ∃ j : Nat, j < N ∧ which % (2 + (N : Int)) = (j : Int) + 2 := by
      have k0 := Int.emod_nonneg which (b := 2 + (N : Int)) (by omega)
      have k1 := Int.emod_lt_of_pos which (b := 2 + (N : Int)) (by omega)
      rcases (by omega : which % (2 + (N : Int)) = 0 ∨ which % (2 + (N : Int)) = 1 ∨ 2 ≤ which % (2 + (N : Int))) with h | h | h
      · exact .inl h
      · exact .inr (.inl h)
      · exact .inr (.inr ⟨(which % (2 + (N : Int)) - 2).toNat, by omega, by omega⟩)
    have hs2 := H_hF2.out.1.1
    have hc2 := H_hF2.out.1.2.1
    have hby := H_hby.out
    rcases hK with hK | hK | ⟨j, hj, hK⟩
    · have r1 := fun W g (hg : W.cell? ⟨g, 0, none⟩ = some (.int .u8 by_)) => turn_any s by_ g W hs2 hby hg
      have q4 := fun W (h : IntsAt W A2 .i64 l) h2 => valid_any (turnI s by_) c U A2 c2 N l H_hN.out W (by have := turn_in (b := by_) hs2.1 (by omega) hby.1; omega) H_hc.out h (by omega) H_hf.out h2
      rw [H_st0.out by_ hby.1] at q4
      generalize turnI s by_ = TT at *
      have H_r1 := Lib.hid r1; clear r1; have H_q4 := Lib.hid q4; clear q4; have H_hs2 := Lib.hid hs2; clear hs2; have H_hc2 := Lib.hid hc2; clear hc2; have H_hby := Lib.hid hby; clear hby
      go_wp2_with fail
      refine (H_r1.out _ _ e00).mono ?_
      rintro e w_ ⟨rfl, rfl⟩
      go_upto_region 22 with (fail)
      clear f0 f1 e00 hK
      clear a0 a1 a2 a3
      clear v0 v1 v2 v3
      obtain ⟨w7, hw7⟩ : ∃ W, w6.setCell ⟨w2.heap.size + 1, 0, none⟩ (.int .i64 TT) = W := ⟨_, rfl⟩
      rw [hw7]
      have c7 : Below w2.heap.size w2 w7 := by rw [← hw7]; exact below_set H_c6.out (Nat.le_succ _) _ _
      have v7 : Blk w7 (w2.heap.size + 1) #[.int .i64 TT, .int .i64 c, .slice A2 N c2, .int .u64 U] := by rw [← hw7]; exact H_v6.out.set 0 (.int .i64 TT) (by simp)
      have h7 : OwnInts w7 w4.heap.size 3 .i64 A2 c2 l := by rw [← hw7]; exact H_h6.out.set (by simpa using lv4) _
      have t7 := H_t2.out.below c7
      have bb7 := H_bb2.out.trans (c7.mono H_bb2.out.size)
      have H_hw7 := Lib.hid hw7; clear hw7; have H_c7 := Lib.hid c7; clear c7; have H_v7 := Lib.hid v7; clear v7; have H_h7 := Lib.hid h7; clear h7; have H_t7 := Lib.hid t7; clear t7; have H_bb7 := Lib.hid bb7; clear bb7
      have v0 := (H_v7.out 0 _ rfl).at
      have v1 := (H_v7.out 1 _ rfl).at
      have v2 := (H_v7.out 2 _ rfl).at
      have v3 := (H_v7.out 3 _ rfl).at
      go_wp2_with fail
      (with_reducible refine (H_q4.out _ ?_ ?_).mono ?_)
      · exact H_h7.out.ints
      · exact H_t7.out
      rintro e w8 ⟨rfl, b8⟩
      have c8 : Below w7.heap.size w7 w8 := Below.trans (by (repeat (first | with_reducible exact Below.refl _ _ | with_reducible exact Nat.le_refl _ | with_reducible assumption | with_reducible refine Below.drew ?_ | with_reducible refine below_drewN ?_ _ | with_reducible refine Below.alloc ?_ ?_ _ | with_reducible refine Below.setCell ?_ ?_ _ | with_reducible exact And.right (by assumption) | with_reducible refine Below.trans ?_ (Below.mono (by assumption) ?_) | with_reducible exact Below.size (And.right (by assumption)) | (focus omega) | (focus (simp; done)) | (focus (simp; omega)) | (focus (simp at *; omega))))) (b8.mono (by first | exact Nat.le_refl _ | omega | (simp; done) | (simp; omega)))
      have s8 := c8.size
      have bb8 := H_bb7.out.trans (c8.mono H_bb7.out.size)
      have t8 := H_t7.out.below c8
      have H_b8 := Lib.hid b8; clear b8; have H_c8 := Lib.hid c8; clear c8; have H_bb8 := Lib.hid bb8; clear bb8; have H_t8 := Lib.hid t8; clear t8
      go_wp2_with fail
      go_ret
      exact ⟨rfl, H_bw.out.trans (H_bb8.out.mono H_bw.out.size)⟩
    · have r1 := fun W g (hg : W.cell? ⟨g, 0, none⟩ = some (.int .u8 by_)) => turn_any c by_ g W hc2 hby hg
      have q4 := fun W (h : IntsAt W A2 .i64 l) h2 => valid_any s (turnI c by_) U A2 c2 N l H_hN.out W H_hs.out (by have := turn_in (b := by_) hc2.1 (by omega) hby.1; omega) h (by omega) H_hf.out h2
      rw [H_st1.out by_ hby.1] at q4
      generalize turnI c by_ = TT at *
      have H_r1 := Lib.hid r1; clear r1; have H_q4 := Lib.hid q4; clear q4; have H_hs2 := Lib.hid hs2; clear hs2; have H_hc2 := Lib.hid hc2; clear hc2; have H_hby := Lib.hid hby; clear hby
      go_wp2_with fail
      refine (H_r1.out _ _ e00).mono ?_
      rintro e w_ ⟨rfl, rfl⟩
      go_upto_region 22 with (fail)
      clear f0 f1 e00 hK
      clear a0 a1 a2 a3
      clear v0 v1 v2 v3
      obtain ⟨w7, hw7⟩ : ∃ W, w6.setCell ⟨w2.heap.size + 1, 1, none⟩ (.int .i64 TT) = W := ⟨_, rfl⟩
      rw [hw7]
      have c7 : Below w2.heap.size w2 w7 := by rw [← hw7]; exact below_set H_c6.out (Nat.le_succ _) _ _
      have v7 : Blk w7 (w2.heap.size + 1) #[.int .i64 s, .int .i64 TT, .slice A2 N c2, .int .u64 U] := by rw [← hw7]; exact H_v6.out.set 1 (.int .i64 TT) (by simp)
      have h7 : OwnInts w7 w4.heap.size 3 .i64 A2 c2 l := by rw [← hw7]; exact H_h6.out.set (by simpa using lv4) _
      have t7 := H_t2.out.below c7
      have bb7 := H_bb2.out.trans (c7.mono H_bb2.out.size)
      have H_hw7 := Lib.hid hw7; clear hw7; have H_c7 := Lib.hid c7; clear c7; have H_v7 := Lib.hid v7; clear v7; have H_h7 := Lib.hid h7; clear h7; have H_t7 := Lib.hid t7; clear t7; have H_bb7 := Lib.hid bb7; clear bb7
      have v0 := (H_v7.out 0 _ rfl).at
      have v1 := (H_v7.out 1 _ rfl).at
      have v2 := (H_v7.out 2 _ rfl).at
      have v3 := (H_v7.out 3 _ rfl).at
      go_wp2_with fail
      (with_reducible refine (H_q4.out _ ?_ ?_).mono ?_)
      · exact H_h7.out.ints
      · exact H_t7.out
      rintro e w8 ⟨rfl, b8⟩
      have c8 : Below w7.heap.size w7 w8 := Below.trans (by (repeat (first | with_reducible exact Below.refl _ _ | with_reducible exact Nat.le_refl _ | with_reducible assumption | with_reducible refine Below.drew ?_ | with_reducible refine below_drewN ?_ _ | with_reducible refine Below.alloc ?_ ?_ _ | with_reducible refine Below.setCell ?_ ?_ _ | with_reducible exact And.right (by assumption) | with_reducible refine Below.trans ?_ (Below.mono (by assumption) ?_) | with_reducible exact Below.size (And.right (by assumption)) | (focus omega) | (focus (simp; done)) | (focus (simp; omega)) | (focus (simp at *; omega))))) (b8.mono (by first | exact Nat.le_refl _ | omega | (simp; done) | (simp; omega)))
      have s8 := c8.size
      have bb8 := H_bb7.out.trans (c8.mono H_bb7.out.size)
      have t8 := H_t7.out.below c8
      have H_b8 := Lib.hid b8; clear b8; have H_c8 := Lib.hid c8; clear c8; have H_bb8 := Lib.hid bb8; clear bb8; have H_t8 := Lib.hid t8; clear t8
      go_wp2_with fail
      go_ret
      exact ⟨rfl, H_bw.out.trans (H_bb8.out.mono H_bw.out.size)⟩
    · have hjl : j < l.length := by rw [H_hN.out]; exact hj
      have hY := ris_at H_hF2.out.2 hjl
      obtain ⟨g, hA2, hg0, hg1, hgf⟩ := OwnInts.block H_h6.out (by omega)
      subst hA2
      obtain ⟨bx, off, hX, hbx, _⟩ := H_o2.out j hjl
      subst hX
      have i6 := H_h6.out.ints
      obtain ⟨g', off', hg', _, hgc⟩ := i6 j hjl
      obtain ⟨bx', off2, hb', _, hxc⟩ := H_o6.out j hjl
      injection hg' with hg'
      injection hg' with hg1' hg2'
      injection hb' with hb'
      injection hb' with hb1' hb2'
      subst hg1' hg2' hb1' hb2'
      have sz6 := H_c6.out.size
      have sz46 := H_sz4.out
      have r1 := fun W g (hg : W.cell? ⟨g, 0, none⟩ = some (.int .u8 by_)) => turn_any (l.getD j 0) by_ g W (by omega) hby hg
      have hTT := turn_in (b := by_) (show 0 ≤ l.getD j 0 by omega) (by omega) hby.1
      have hvf := H_st2.out j by_ hjl hby.1
      have set7 := fun W (h : IntsAt W (some ⟨g, 0, none⟩) .i64 l) => h.set_at hjl (turnI (l.getD j 0) by_)
      have q4 := fun W (h : IntsAt W (some ⟨g, 0, none⟩) .i64 (l.set j (turnI (l.getD j 0) by_))) h2 => valid_any s c U (some ⟨g, 0, none⟩) c2 N (l.set j (turnI (l.getD j 0) by_)) (by rw [List.length_set]; exact H_hN.out) W H_hs.out H_hc.out h (by omega) (fun x hx => by
        rcases List.mem_or_eq_of_mem_set hx with h | h
        · exact H_hf.out x h
        · rw [h]; omega) h2
      rw [hvf] at q4
      generalize turnI (l.getD j 0) by_ = TT at *
      generalize l.getD j 0 = Y at *
      have n1 : g ≠ w2.heap.size + 1 := by omega
      have n2 : w2.heap.size + 1 ≠ g := by omega
      have n3 : g ≠ w2.heap.size := by omega
      have n4 : w2.heap.size ≠ g := by omega
      have n5 : g ≠ bx := by omega
      have n6 : bx ≠ g := by omega
      have j0 : (0 : Int) ≤ (j : Int) := by omega
      have j1 : (j : Int) < (N : Int) := by omega
      have z1 : IntKind.i64.wrap ((j : Int) + 2 - 2) = (j : Int) := by rw [IntWalk.i64_in _ (by omega)]; omega
      have z2 : IntKind.i64.wrap (j : Int) = (j : Int) := IntWalk.i64_in _ (by omega)
      have gfj := hgf j
      rw [Nat.zero_add] at hgc
      have H_r1 := Lib.hid r1; clear r1; have H_hs2 := Lib.hid hs2; clear hs2; have H_hc2 := Lib.hid hc2; clear hc2; have H_hby := Lib.hid hby; clear hby; have H_hTT := Lib.hid hTT; clear hTT; have H_hvf := Lib.hid hvf; clear hvf; have H_q4 := Lib.hid q4; clear q4; have H_set7 := Lib.hid set7; clear set7; have H_hY := Lib.hid hY; clear hY; have H_hgf := Lib.hid hgf; clear hgf; have H_i6 := Lib.hid i6; clear i6; have H_hg0 := Lib.hid hg0; clear hg0; have H_hg1 := Lib.hid hg1; clear hg1; have H_z1 := Lib.hid z1; clear z1; have H_z2 := Lib.hid z2; clear z2
      go_upto_region 17 with (fail)
      have z1 := H_z1.out
      have z2 := H_z2.out
      refine wp_region_held_drew (S := (fun W => W.cell? ⟨w2.heap.size + 1, 2, none⟩ = some (.slice (some ⟨g, 0, none⟩) N c2) ∧ W.cell? ⟨w2.heap.size, 2, none⟩ = some (.slice (some ⟨bx, off, none⟩) N cx) ∧ W.cell? ⟨bx, off + j, none⟩ = some (.int .i64 Y))) (by kernel_rfl) ?_ (fun hHeld => ?_)
      · (try dsimp only); go_keep
      refine take_at (i := 0) (some 69) rfl rfl (by kernel_rfl) (fun _ _ _ h => h) (by rfl) (v := ?_) ?_ (by assumption) ?_
      rotate_left
      · intro W hSw; (try dsimp only at hSw); go_simp; (try with_reducible rfl)
      (try simp only [Act.put, List.setIfInBounds_toArray, List.set_cons_zero, List.set_cons_succ])
      refine take_at (i := 1) (some 70) rfl rfl (by kernel_rfl) (fun _ _ _ h => h) (by rfl) (v := ?_) ?_ (by assumption) ?_
      rotate_left
      · intro W hSw; (try dsimp only at hSw); go_simp; (try with_reducible rfl)
      (try simp only [Act.put, List.setIfInBounds_toArray, List.set_cons_zero, List.set_cons_succ])
      refine take_at (i := 2) (some 71) rfl rfl (by kernel_rfl) (fun _ _ _ h => h) (by rfl) (v := ?_) ?_ (by assumption) ?_
      rotate_left
      · intro W hSw; (try dsimp only at hSw); go_simp; (try with_reducible rfl)
      (try simp only [Act.put, List.setIfInBounds_toArray, List.set_cons_zero, List.set_cons_succ])
      refine take_at (i := 3) (some 72) rfl rfl (by kernel_rfl) (fun _ _ _ h => h) (by rfl) (v := ?_) ?_ (by assumption) ?_
      rotate_left
      · intro W hSw; (try dsimp only at hSw); go_simp; (try with_reducible rfl)
      (try simp only [Act.put, List.setIfInBounds_toArray, List.set_cons_zero, List.set_cons_succ])
      refine take_at (i := 4) (some 73) rfl rfl (by kernel_rfl) (fun _ _ _ h => h) (by rfl) (v := ?_) ?_ (by assumption) ?_
      rotate_left
      · intro W hSw; (try dsimp only at hSw); go_simp; (try with_reducible rfl)
      (try simp only [Act.put, List.setIfInBounds_toArray, List.set_cons_zero, List.set_cons_succ])
      refine take_at (i := 5) (some 74) rfl rfl (by kernel_rfl) (fun _ _ _ h => h) (by rfl) (v := ?_) ?_ (by assumption) ?_
      rotate_left
      · intro W hSw; (try dsimp only at hSw); go_simp; (try with_reducible rfl)
      (try simp only [Act.put, List.setIfInBounds_toArray, List.set_cons_zero, List.set_cons_succ])
      refine take_at (i := 6) (some 75) rfl rfl (by kernel_rfl) (fun _ _ _ h => h) (by rfl) (v := ?_) ?_ (by assumption) ?_
      rotate_left
      · intro W hSw; (try dsimp only at hSw); go_simp; (try with_reducible rfl)
      (try simp only [Act.put, List.setIfInBounds_toArray, List.set_cons_zero, List.set_cons_succ])
      refine take_at (i := 7) (some 76) rfl rfl (by kernel_rfl) (fun _ _ _ h => h) (by rfl) (v := ?_) ?_ (by assumption) ?_
      rotate_left
      · intro W hSw; (try dsimp only at hSw); go_simp; (try with_reducible rfl)
      (try simp only [Act.put, List.setIfInBounds_toArray, List.set_cons_zero, List.set_cons_succ])
      refine take_at (i := 8) (some 77) rfl rfl (by kernel_rfl) (fun _ _ _ h => h) (by rfl) (v := ?_) ?_ (by assumption) ?_
      rotate_left
      · intro W hSw; (try dsimp only at hSw); go_simp; (try with_reducible rfl)
      (try simp only [Act.put, List.setIfInBounds_toArray, List.set_cons_zero, List.set_cons_succ])
      refine take_at (i := 9) (some 78) rfl rfl (by kernel_rfl) (fun _ _ _ h => h) (by rfl) (v := ?_) ?_ (by assumption) ?_
      rotate_left
      · intro W hSw; (try dsimp only at hSw); go_simp; (try with_reducible rfl)
      (try simp only [Act.put, List.setIfInBounds_toArray, List.set_cons_zero, List.set_cons_succ])
      refine take_at (i := 10) (some 79) rfl rfl (by kernel_rfl) (fun _ _ _ h => h) (by rfl) (v := ?_) ?_ (by assumption) ?_
      rotate_left
      · intro W hSw; (try dsimp only at hSw); go_simp; (try with_reducible rfl)
      (try simp only [Act.put, List.setIfInBounds_toArray, List.set_cons_zero, List.set_cons_succ])
      refine wpAnyH_ready (rs := [11]) (by kernel_rfl) (by simp) ?_
      refine AllReadyH.cons rfl (fun K hK => ?_) AllReadyH.nil
      go_simp
      (go_at_call 44; refine (H_r1.out w6.drew w.heap.size e00).mono ?_; rintro e w_ ⟨rfl, rfl⟩)
      refine hK.out _ _ ?_ (fun hHeld => ?_)
      · (try dsimp only); go_keep
      clear hK K
      (try simp only [Act.put, List.setIfInBounds_toArray, List.set_cons_zero, List.set_cons_succ])
      refine take_at (i := 12) (some 81) rfl rfl (by kernel_rfl) (fun _ _ _ h => h) (by rfl) (v := ?_) ?_ (by assumption) ?_
      rotate_left
      · intro W hSw; (try dsimp only at hSw); go_simp; (try with_reducible rfl)
      (try simp only [Act.put, List.setIfInBounds_toArray, List.set_cons_zero, List.set_cons_succ])
      refine wpAnyH_ready (rs := [13]) (by kernel_rfl) (by simp) ?_
      refine AllReadyH.cons rfl (fun K hK => ?_) AllReadyH.nil
      go_simp
      refine hK.out _ _ ?_ (fun hHeld => ?_)
      · (try dsimp only); go_keep
      clear hK K
      (try simp only [Act.put, List.setIfInBounds_toArray, List.set_cons_zero, List.set_cons_succ])
      refine wpAnyH_done (by kernel_rfl) ?_ _
      clear f0 f1 e00 hK z1 z2 hgc hxc gfj
      clear a0 a1 a2 a3
      clear v0 v1 v2 v3
      go_upto_region 22 with (fail)
      obtain ⟨w7, hw7⟩ : ∃ W, (w6.setCell ⟨g, j, none⟩ (.int .i64 TT)).drew = W := ⟨_, rfl⟩
      rw [hw7]
      have c7 : Below w2.heap.size w2 w7 := by rw [← hw7]; exact (below_set H_c6.out (by have := H_hg0.out; omega) _ _).drew
      have v7 : Blk w7 (w2.heap.size + 1) #[.int .i64 s, .int .i64 c, .slice (some ⟨g, 0, none⟩) N c2, .int .u64 U] := by rw [← hw7]; exact H_v6.out.far n1 _
      have h7 : IntsAt w7 (some ⟨g, 0, none⟩) .i64 (l.set j TT) := by rw [← hw7]; have := H_set7.out w6 H_i6.out; rw [Nat.zero_add] at this; exact this
      have t7 := H_t2.out.below c7
      have bb7 := H_bb2.out.trans (c7.mono H_bb2.out.size)
      have H_hw7 := Lib.hid hw7; clear hw7; have H_c7 := Lib.hid c7; clear c7; have H_v7 := Lib.hid v7; clear v7; have H_h7 := Lib.hid h7; clear h7; have H_t7 := Lib.hid t7; clear t7; have H_bb7 := Lib.hid bb7; clear bb7
      have v0 := (H_v7.out 0 _ rfl).at
      have v1 := (H_v7.out 1 _ rfl).at
      have v2 := (H_v7.out 2 _ rfl).at
      have v3 := (H_v7.out 3 _ rfl).at
      go_wp2_with fail
      (with_reducible refine (H_q4.out _ ?_ ?_).mono ?_)
      · exact H_h7.out
      · exact H_t7.out
      rintro e w8 ⟨rfl, b8⟩
      have c8 : Below w7.heap.size w7 w8 := Below.trans (by (repeat (first | with_reducible exact Below.refl _ _ | with_reducible exact Nat.le_refl _ | with_reducible assumption | with_reducible refine Below.drew ?_ | with_reducible refine below_drewN ?_ _ | with_reducible refine Below.alloc ?_ ?_ _ | with_reducible refine Below.setCell ?_ ?_ _ | with_reducible exact And.right (by assumption) | with_reducible refine Below.trans ?_ (Below.mono (by assumption) ?_) | with_reducible exact Below.size (And.right (by assumption)) | (focus omega) | (focus (simp; done)) | (focus (simp; omega)) | (focus (simp at *; omega))))) (b8.mono (by first | exact Nat.le_refl _ | omega | (simp; done) | (simp; omega)))
      have s8 := c8.size
      have bb8 := H_bb7.out.trans (c8.mono H_bb7.out.size)
      have t8 := H_t7.out.below c8
      have H_b8 := Lib.hid b8; clear b8; have H_c8 := Lib.hid c8; clear c8; have H_bb8 := Lib.hid bb8; clear bb8; have H_t8 := Lib.hid t8; clear t8
      go_wp2_with fail
      go_ret
      exact ⟨rfl, H_bw.out.trans (H_bb8.out.mono H_bw.out.size)⟩
end Go.Proofs.YtncfilbpgomncaaDoor

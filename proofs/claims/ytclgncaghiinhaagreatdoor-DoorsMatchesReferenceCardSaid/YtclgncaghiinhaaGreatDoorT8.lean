/- Contracts of the reference of slot: sum, fields, Valid. -/
import Derived.Test.YtclgncaghiinhaaGreatDoorT6
set_option linter.unusedSimpArgs false
set_option linter.unusedVariables false
set_option maxRecDepth 100000
namespace Go.Proofs.YtclgncaghiinhaaGreatDoor
open Go.RowKit
set_option maxHeartbeats 2000000 in
theorem rsum_any (s c u : Int) (A : Option Addr) (cap n : Nat) (l : List Int) (hln : l.length = n) (w : World) (hs : -9223372036854775808 ≤ s ∧ s ≤ 9223372036854775807) (hc : -9223372036854775808 ≤ c ∧ c ≤ 9223372036854775807) (hl : IntsAt w A .i64 l) (hn : n ≤ 100000) (hf : Fit l) :
  Calls Tryz.prog 92 #[.agg #[.int .i64 s, .int .i64 c, .slice A n cap, .int .u64 u]] w fun e w' => e = .returned (.int .u64 (sumS s c l)) ∧ Below w.heap.size w w' := by
 obtain ⟨i0, hi, hz0, hz1, hz2⟩ := info_parts infoI64
 have q1 := fun W X x (h1 : IntsAt W X .i64 ([s, c] ++ l)) => refNext_val 0 X x (2 + n) (s :: c :: l) (by simp [hln]; omega) (sumS s c l) rfl W (by omega) h1 (by omega) (fit_two' hs hc hf)
 generalize sumS s c l = U at *
 obtain ⟨w1, hw1⟩ : ∃ w1, w.alloc (.cells #[.int .i64 s, .int .i64 c, .slice A n cap, .int .u64 u] 45) = w1 := ⟨_, rfl⟩
 have b1 : Below w.heap.size w w1 := by rw [← hw1]; exact (Below.refl _ _).alloc (Nat.le_refl _) _
 have s1 : w1.heap.size = w.heap.size + 1 := by rw [← hw1]; simp
 have l1 := hl.below b1
 have ⟨Hq1, Hhl, Hhf, Hhln, Hhs, Hhc, Hb1, Hl1⟩ := hid8 q1 hl hf hln hs hc b1 l1; clear q1 hl hf hln hs hc b1 l1; have ⟨Hhw1, Hs1⟩ := hid2 hw1 s1; clear hw1 s1
 go_enter Tryz.func92, Tryz.ntmps92
 go_wp2_with (at_builtin; rw [Hhw1.out]; refine wp_app_at _ rfl (.tmp 9) (.tmp 11) _ rfl w1.heap.size 3 i0 _ 8 Tryz.underlying42 hi hz0 hz1 hz2 rfl .i64 (some ⟨w.heap.size + 1, 0, none⟩) 2 2 [s, c] rfl rfl (own_lit [s, c] (Nat.le_refl _) (by simp) _ Hs1.out) A cap n l Hhln.out rfl (Hl1.out.alloc _) ?_ ?_ ?_ ?_)
 ·omega
 ·omega
 ·simp
 intro A2 c2 w2 ho2 hg2 hB2
 have b2 : Below w1.heap.size w1 w2 := (own_lit (k := .i64) [s, c] (Nat.le_refl _) (by simp) _ Hs1.out).grow ((Below.refl _ _).alloc (Nat.le_refl _) _) hg2
 have p2 := Hq1.out w2 A2 c2 ho2.ints
 have ⟨Hb2, Hho2, Hhg2, HhB2, Hp2⟩ := hid5 b2 ho2 hg2 hB2 p2; clear b2 ho2 hg2 hB2 p2
 go_wp2_with fail
 refine Hp2.out.mono ?_
 rintro e w3 ⟨rfl, b3⟩
 have bb3 := Hb1.out.trans ((Hb2.out.trans (b3.mono Hb2.out.size)).mono (by rw [Hs1.out]; omega))
 have ⟨Hb3, Hbb3⟩ := hid2 b3 bb3; clear b3 bb3
 go_wp2_with fail
 go_ret
 exact ⟨rfl, Hbb3.out⟩
theorem fld_no {s c : Int} {l : List Int} {n : Nat} (hln : l.length = n) (h : ¬ (0 ≤ s ∧ s ≤ 1000000000 ∧ 0 ≤ c ∧ c ≤ 1000000000 ∧ n ≤ 500)) : fldB s c l = false := by
 rw [Bool.eq_false_iff]
 intro h2
 simp only [fldB, Bool.and_eq_true, cntB, wB_iff, len5B, decide_eq_true_eq] at h2
 exact h ⟨h2.1.1.1.1, h2.1.1.1.2, h2.1.1.2.1, h2.1.1.2.2, by omega⟩
theorem fld_yes {s c : Int} {l : List Int} {n : Nat} (hln : l.length = n) (h : 0 ≤ s ∧ s ≤ 1000000000 ∧ 0 ≤ c ∧ c ≤ 1000000000 ∧ n ≤ 500) : fldB s c l = risB 0 l := by
 have h1 : cntB s = true := wB_iff.2 ⟨h.1, h.2.1⟩
 have h2 : cntB c = true := wB_iff.2 ⟨h.2.2.1, h.2.2.2.1⟩
 have h3 : len5B l.length = true := by simp only [len5B, decide_eq_true_eq]; omega
 rw [fldB, h1, h2, h3, Bool.true_and, Bool.true_and, Bool.true_and]
set_option maxHeartbeats 4000000 in
theorem rfields_no (s c u : Int) (A : Option Addr) (cap n : Nat) (l : List Int) (hln : l.length = n) (w : World) (hn : n ≤ 100000) (h : ¬ (0 ≤ s ∧ s ≤ 1000000000 ∧ 0 ≤ c ∧ c ≤ 1000000000 ∧ n ≤ 500)) :
  Calls Tryz.prog 111 #[.agg #[.int .i64 s, .int .i64 c, .slice A n cap, .int .u64 u]] w fun e w' => e = .returned (.bool (fldB s c l)) ∧ Below w.heap.size w w' := by
 rw [fld_no hln h]
 by_cases a0 : 0 ≤ s
 rotate_left
 ·have d0 : decide (s < 0) = true := decide_eq_true (by omega)
  clear h
  go_enter Tryz.func111, Tryz.ntmps111
  go_wp2_with fail
  go_ret
  exact ⟨rfl, belt⟩
 have d0 : decide (s < 0) = false := decide_eq_false (by omega)
 by_cases a1 : s ≤ 1000000000
 rotate_left
 ·have d1 : decide (1000000000 < s) = true := decide_eq_true (by omega)
  clear h
  go_enter Tryz.func111, Tryz.ntmps111
  go_wp2_with fail
  go_ret
  exact ⟨rfl, belt⟩
 have d1 : decide (1000000000 < s) = false := decide_eq_false (by omega)
 by_cases a2 : 0 ≤ c
 rotate_left
 ·have d2 : decide (c < 0) = true := decide_eq_true (by omega)
  clear h
  go_enter Tryz.func111, Tryz.ntmps111
  go_wp2_with fail
  go_ret
  exact ⟨rfl, belt⟩
 have d2 : decide (c < 0) = false := decide_eq_false (by omega)
 by_cases a3 : c ≤ 1000000000
 rotate_left
 ·have d3 : decide (1000000000 < c) = true := decide_eq_true (by omega)
  clear h
  go_enter Tryz.func111, Tryz.ntmps111
  go_wp2_with fail
  go_ret
  exact ⟨rfl, belt⟩
 have d3 : decide (1000000000 < c) = false := decide_eq_false (by omega)
 by_cases a4 : n ≤ 500
 rotate_left
 ·have d4 : decide ((500 : Int) < (n : Int)) = true := decide_eq_true (by omega)
  clear h
  go_enter Tryz.func111, Tryz.ntmps111
  go_wp2_with fail
  go_ret
  exact ⟨rfl, belt⟩
 have d4 : decide ((500 : Int) < (n : Int)) = false := decide_eq_false (by omega)
 omega
set_option maxHeartbeats 8000000 in
theorem rfields_yes (s c u : Int) (A : Option Addr) (cap n : Nat) (l : List Int) (hln : l.length = n) (w : World) (hl : IntsAt w A .i64 l) (h : 0 ≤ s ∧ s ≤ 1000000000 ∧ 0 ≤ c ∧ c ≤ 1000000000 ∧ n ≤ 500) :
    Calls Tryz.prog 111 #[.agg #[.int .i64 s, .int .i64 c, .slice A n cap, .int .u64 u]] w fun e w' => e = .returned (.bool (fldB s c l)) ∧ Below w.heap.size w w' := by
  rw [fld_yes hln h]
  obtain ⟨a0, a1, a2, a3, a4⟩ := h
  have d0 : decide (s < 0) = false := decide_eq_false (by omega)
  have d1 : decide (1000000000 < s) = false := decide_eq_false (by omega)
  have d2 : decide (c < 0) = false := decide_eq_false (by omega)
  have d3 : decide (1000000000 < c) = false := decide_eq_false (by omega)
  have d4 : decide ((500 : Int) < (n : Int)) = false := decide_eq_false (by omega)
  generalize hR : risB 0 l = R
  have h0 : R = risB 0 (l.drop 0) := by rw [List.drop_zero]; exact hR.symm
  have bw : Below w.heap.size w (w.alloc (.cells #[.int .i64 s, .int .i64 c, .slice A n cap, .int .u64 u] 45)) := (Below.refl _ _).alloc (Nat.le_refl _) _
  have l1 := hl.below bw
  have ⟨Hhl, Hhln, HhR, Hh0, Hbw, Hl1⟩ := hid6 hl hln hR h0 bw l1; clear hl hln hR h0 bw l1
  go_enter Tryz.func111, Tryz.ntmps111
  go_wp2_with fail
  clear d0 d1 d2 d3 d4
  obtain ⟨w1, hw1⟩ : ∃ w1, w.alloc (.cells #[.int .i64 s, .int .i64 c, .slice A n cap, .int .u64 u] 45) = w1 := ⟨_, rfl⟩
  have k2 : Cel w1 w.heap.size 2 (.slice A n cap) := by rw [← hw1]; exact cel_new rfl rfl
  have bw := Hbw.out
  have l1 := Hl1.out
  clear Hbw Hl1
  rw [hw1] at bw l1 ⊢
  have c2 := k2.at
  have sz := k2.lt
  have ⟨Hbw, Hl1, Hk2, Hhw1⟩ := hid4 bw l1 k2 hw1; clear bw l1 k2 hw1
  go_loopw [3] (fun i wr => ∃ (k : Nat) (d : Int), k ≤ n ∧ i = .int .i64 k ∧ 0 ≤ d ∧ d ≤ 1000000 ∧ ((k = 0 ∧ d = 0) ∨ (0 < k ∧ d = l.getD (k - 1) 0)) ∧ R = risB d (l.drop k) ∧ Below w1.heap.size w1 wr) (fun i _ => n - (intOf i).toNat)
  case atStart => exact ⟨0, 0, by omega, rfl, by omega, by omega, .inl ⟨rfl, rfl⟩, Hh0.out, Below.refl _ _⟩
  case round =>
    obtain ⟨k, d, hk, rfl, d0, d1, hd, hRk, hb⟩ := hrel
    have c2 := (Hk2.out.below hb).at
    by_cases hlt : k < n
    · have g1 : (k : Int) < (n : Int) := by omega
      have g0 : (0 : Int) ≤ (k : Int) := by omega
      obtain ⟨b, off, rfl, hbl, hc⟩ := (Hl1.out.below hb) k (by rw [Hhln.out]; exact hlt)
      rw [ris_drop (by rw [Hhln.out]; exact hlt)] at hRk
      have hw := @wB_iff (l.getD k 0) (d + 1) 1000000
      have hwn := @wB_no (l.getD k 0) (d + 1) 1000000
      have hprev : ∀ j, k = j + 1 → wr.cell? ⟨b, off + j, none⟩ = some (.int .i64 d) := fun j hj => by
        obtain ⟨b', off', e, _, hc'⟩ := (Hl1.out.below hb) j (by rw [Hhln.out]; omega)
        injection e with e
        injection e with e1 e2
        subst e1 e2 hj
        rcases hd with ⟨hd, _⟩ | ⟨_, hd⟩
        · omega
        · rw [hc', hd]; rfl
      generalize hX : l.getD k 0 = x at *
      have ⟨HhRk, Hhw, Hhwn, Hhprev, Hhd, Hhb, HhX⟩ := hid7 hRk hw hwn hprev hd hb hX; clear hRk hw hwn hprev hd hb hX
      by_cases x1 : x < 1
      · have e1 : decide (x < 1) = true := decide_eq_true x1
        have hF : R = false := by rw [HhRk.out, Hhwn.out.2 (by omega)]; rfl
        have HhF := Lib.hid hF; clear hF
        go_wp2_with fail
        go_quiet (fail)
        go_wp2_with fail
        go_ret
        exact ⟨ret_bool HhF.out.symm, below_drewN (Hbw.out.trans (Hhb.out.mono Hbw.out.size)) _⟩
      have e1 : decide (x < 1) = false := decide_eq_false x1
      by_cases x2 : 1000000 < x
      · have e2 : decide (1000000 < x) = true := decide_eq_true x2
        have hF : R = false := by rw [HhRk.out, Hhwn.out.2 (by omega)]; rfl
        have HhF := Lib.hid hF; clear hF
        go_wp2_with fail
        go_quiet (fail)
        go_wp2_with fail
        go_ret
        exact ⟨ret_bool HhF.out.symm, below_drewN (Hbw.out.trans (Hhb.out.mono Hbw.out.size)) _⟩
      have e2 : decide (1000000 < x) = false := decide_eq_false x2
      rcases k with _ | j
      · have hRn : R = risB x (l.drop (0 + 1)) := by
          rw [HhRk.out, Hhw.out.2 (by have := Hhd.out; simp at this; omega), Bool.true_and]
        simp only [Nat.add_zero] at hc
        rw [Int.natCast_zero] at *
        have HhRn := Lib.hid hRn; clear hRn
        go_wp2_with fail
        go_quiet (fail)
        go_wp2_with fail
        go_roundw
        case rel => exact ⟨0 + 1, x, by omega, by go_num, by omega, by omega, .inr ⟨by omega, HhX.out.symm⟩, HhRn.out, below_drewN Hhb.out _⟩
        case measure => simp [intOf]; omega
      have hp := Hhprev.out j rfl
      have g2 : (0 : Int) < (j : Int) + 1 := by omega
      have g3 : (j : Int) < (n : Int) := by omega
      by_cases x3 : x ≤ d
      · have e3 : decide (x ≤ d) = true := decide_eq_true x3
        have hF : R = false := by rw [HhRk.out, Hhwn.out.2 (by omega)]; rfl
        have HhF := Lib.hid hF; clear hF
        go_wp2_with fail
        go_quiet (fail)
        go_wp2_with fail
        go_ret
        exact ⟨ret_bool HhF.out.symm, below_drewN (Hbw.out.trans (Hhb.out.mono Hbw.out.size)) _⟩
      · have e3 : decide (x ≤ d) = false := decide_eq_false x3
        have hRn : R = risB x (l.drop (j + 1 + 1)) := by rw [HhRk.out, Hhw.out.2 (by omega), Bool.true_and]
        have HhRn := Lib.hid hRn; clear hRn
        go_wp2_with fail
        go_quiet (fail)
        go_wp2_with fail
        go_roundw
        case rel => exact ⟨j + 1 + 1, x, by omega, by go_num, by omega, by omega, .inr ⟨by omega, HhX.out.symm⟩, HhRn.out, below_drewN Hhb.out _⟩
        case measure => simp [intOf]; omega
    · have g1 : ¬ (k : Int) < (n : Int) := by omega
      rw [ris_end (by rw [Hhln.out]; omega)] at hRk
      have ⟨HhRk, Hhb, Hhd⟩ := hid3 hRk hb hd; clear hRk hb hd
      go_wp2_with fail
      go_ret
      exact ⟨ret_bool HhRk.out.symm, Hbw.out.trans (Hhb.out.mono Hbw.out.size)⟩
theorem beq_comm_int (a b : Int) : (a == b) = (b == a) := by rw [Bool.eq_iff_iff, beq_iff_eq, beq_iff_eq]; exact eq_comm
theorem rfields_any (s c u : Int) (A : Option Addr) (cap n : Nat) (l : List Int) (hln : l.length = n) (w : World) (hl : IntsAt w A .i64 l) (hn : n ≤ 100000) :
  Calls Tryz.prog 111 #[.agg #[.int .i64 s, .int .i64 c, .slice A n cap, .int .u64 u]] w fun e w' => e = .returned (.bool (fldB s c l)) ∧ Below w.heap.size w w' := by
 by_cases h : 0 ≤ s ∧ s ≤ 1000000000 ∧ 0 ≤ c ∧ c ≤ 1000000000 ∧ n ≤ 500
 ·exact rfields_yes s c u A cap n l hln w hl h
 ·exact rfields_no s c u A cap n l hln w hn h
set_option maxHeartbeats 4000000 in
theorem rvalid_any (s c u : Int) (A : Option Addr) (cap n : Nat) (l : List Int) (hln : l.length = n) (w : World) (hs : -9223372036854775808 ≤ s ∧ s ≤ 9223372036854775807) (hc : -9223372036854775808 ≤ c ∧ c ≤ 9223372036854775807) (hl : IntsAt w A .i64 l) (hn : n ≤ 100000) (hf : Fit l) :
  Calls Tryz.prog 107 #[.agg #[.int .i64 s, .int .i64 c, .slice A n cap, .int .u64 u]] w fun e w' => e = .returned (.bool (vldB s c l u)) ∧ Below w.heap.size w w' := by
 obtain ⟨w1, hw1⟩ : ∃ w1, w.alloc (.cells #[.int .i64 s, .int .i64 c, .slice A n cap, .int .u64 u] 45) = w1 := ⟨_, rfl⟩
 have b1 : Below w.heap.size w w1 := by rw [← hw1]; exact (Below.refl _ _).alloc (Nat.le_refl _) _
 have k0 : Cel w1 w.heap.size 0 (.int .i64 s) := by rw [← hw1]; exact cel_new rfl rfl
 have k1 : Cel w1 w.heap.size 1 (.int .i64 c) := by rw [← hw1]; exact cel_new rfl rfl
 have k2 : Cel w1 w.heap.size 2 (.slice A n cap) := by rw [← hw1]; exact cel_new rfl rfl
 have k3 : Cel w1 w.heap.size 3 (.int .u64 u) := by rw [← hw1]; exact cel_new rfl rfl
 have l1 := hl.below b1
 have q1 := fun W (h : IntsAt W A .i64 l) => rfields_any s c u A cap n l hln W h hn
 have q2 := fun W (h : IntsAt W A .i64 l) => rsum_any s c u A cap n l hln W hs hc h hn hf
 have fin : vldB s c l u = (fldB s c l && (u == sumS s c l)) := by rw [beq_comm_int]; rfl
 generalize sumS s c l = U at *
 generalize fldB s c l = F at *
 generalize hE : (u == U) = E at *
 rw [fin]
 have c0 := k0.at; have c1 := k1.at; have c2 := k2.at; have c3 := k3.at
 have sz := k0.lt
 have ⟨Hhs, Hhc, Hhl, Hhln, Hhf, Hhw1, Hb1, Hk0⟩ := hid8 hs hc hl hln hf hw1 b1 k0; clear hs hc hl hln hf hw1 b1 k0; have ⟨Hk1, Hk2, Hk3, Hl1, Hq1, Hq2, Hfin, HhE⟩ := hid8 k1 k2 k3 l1 q1 q2 fin hE; clear k1 k2 k3 l1 q1 q2 fin hE
 go_enter Tryz.func107, Tryz.ntmps107
 go_wp2_with fail
 rw [Hhw1.out]
 cases F with
 | false =>
  refine wp_region_held_drew (S := (fun W => (∀ b o, b < w1.heap.size → W.cell? ⟨b, o, none⟩ = w1.cell? ⟨b, o, none⟩) ∧ Below w1.heap.size w1 W)) (by kernel_rfl) ?_ (fun hHeld => ?_)
  ·(try dsimp only); (first | (refine ext_mk ?_; exact belt))
  refine tq 0 (some 3) ?_
  (try simp only [apz])
  refine wpAnyH_ready (rs := [1]) (by kernel_rfl) (by simp) ?_
  refine AllReadyH.cons rfl (fun K hK => ?_) AllReadyH.nil
  go_simp
  (go_at_call 111; (with_reducible refine (Hq1.out _ ?_).mono ?_); (focus (exact Hl1.out.below (And.right (by assumption : _ ∧ Below w1.heap.size w1 _)))); rintro e w2 ⟨rfl, hbw2⟩; have gw2 := Below.trans (And.right (by assumption : _ ∧ Below w1.heap.size w1 _)) (hbw2.mono (Below.size (And.right (by assumption : _ ∧ Below w1.heap.size w1 _)))); have gsw2 := gw2.size; have hcf := bcell hbw2; have hcw2 := hcf.1; have hfw2 := hcf.2; have hsw2 := hbw2.size; (try simp only [World.size_alloc, World.heap_drewN, heap_drew] at hsw2); clear hbw2 hcf; (try have hzw2 : w1.heap.size < w2.heap.size := by omega))
  refine hK.out _ _ ?_ (fun hHeld => ?_)
  ·(try dsimp only); (first | (refine ext_mk ?_; exact belt))
  clear hK K
  (try simp only [apz])
  refine tq 2 (some 5) ?_
  (try simp only [apz])
  refine skip_at (i := 3) (some 6) rfl rfl (by kernel_rfl) (fun _ _ _ h => h) (by rfl) (by assumption) ?_
  (try simp only [apz])
  refine skip_at (i := 4) (some 7) rfl rfl (by kernel_rfl) (fun _ _ _ h => h) (by rfl) (by assumption) ?_
  (try simp only [apz])
  refine skip_at (i := 5) (some 8) rfl rfl (by kernel_rfl) (fun _ _ _ h => h) (by rfl) (by assumption) ?_
  (try simp only [apz])
  refine skip_at (i := 6) (some 9) rfl rfl (by kernel_rfl) (fun _ _ _ h => h) (by rfl) (by assumption) ?_
  (try simp only [apz])
  refine skip_at (i := 7) (some 10) rfl rfl (by kernel_rfl) (fun _ _ _ h => h) (by rfl) (by assumption) ?_
  (try simp only [apz])
  refine tq 8 (some 11) ?_
  (try simp only [apz])
  refine tq 9 (some 2) ?_
  (try simp only [apz])
  refine wpAnyH_done (by kernel_rfl) ?_ _
  go_wp2_with fail
  go_ret
  exact ⟨rfl, heldEnd Hb1.out (by assumption)⟩
 | true =>
  have hE := HhE.out
  refine wp_region_held_drew (S := (fun W => (∀ b o, b < w1.heap.size → W.cell? ⟨b, o, none⟩ = w1.cell? ⟨b, o, none⟩) ∧ Below w1.heap.size w1 W)) (by kernel_rfl) ?_ (fun hHeld => ?_)
  ·(try dsimp only); (first | (refine ext_mk ?_; exact belt))
  refine tq 0 (some 3) ?_
  (try simp only [apz])
  refine wpAnyH_ready (rs := [1]) (by kernel_rfl) (by simp) ?_
  refine AllReadyH.cons rfl (fun K hK => ?_) AllReadyH.nil
  go_simp
  (first | (go_at_call 111; (with_reducible refine (Hq1.out _ ?_).mono ?_); (focus (exact Hl1.out.below (And.right (by assumption : _ ∧ Below w1.heap.size w1 _)))); rintro e w2 ⟨rfl, hbw2⟩; have gw2 := Below.trans (And.right (by assumption : _ ∧ Below w1.heap.size w1 _)) (hbw2.mono (Below.size (And.right (by assumption : _ ∧ Below w1.heap.size w1 _)))); have gsw2 := gw2.size; have hcf := bcell hbw2; have hcw2 := hcf.1; have hfw2 := hcf.2; have hsw2 := hbw2.size; (try simp only [World.size_alloc, World.heap_drewN, heap_drew] at hsw2); clear hbw2 hcf; (try have hzw2 : w1.heap.size < w2.heap.size := by omega)) | (go_at_call 92; (with_reducible refine (Hq2.out _ ?_).mono ?_); (focus (exact Hl1.out.below (And.right (by assumption : _ ∧ Below w1.heap.size w1 _)))); rintro e w3 ⟨rfl, hbw3⟩; have gw3 := Below.trans (And.right (by assumption : _ ∧ Below w1.heap.size w1 _)) (hbw3.mono (Below.size (And.right (by assumption : _ ∧ Below w1.heap.size w1 _)))); have gsw3 := gw3.size; have hcf := bcell hbw3; have hcw3 := hcf.1; have hfw3 := hcf.2; have hsw3 := hbw3.size; (try simp only [World.size_alloc, World.heap_drewN, heap_drew] at hsw3); clear hbw3 hcf; (try have hzw3 : w1.heap.size < w3.heap.size := by omega)))
  refine hK.out _ _ ?_ (fun hHeld => ?_)
  ·(try dsimp only); (first | (refine ext_mk ?_; exact belt))
  clear hK K
  (try simp only [apz])
  refine tq 2 (some 5) ?_
  (try simp only [apz])
  refine tq 3 (some 6) ?_
  (try simp only [apz])
  refine tq 4 (some 7) ?_
  (try simp only [apz])
  refine tq 5 (some 8) ?_
  (try simp only [apz])
  refine wpAnyH_ready (rs := [6]) (by kernel_rfl) (by simp) ?_
  refine AllReadyH.cons rfl (fun K hK => ?_) AllReadyH.nil
  go_simp
  (first | (go_at_call 111; (with_reducible refine (Hq1.out _ ?_).mono ?_); (focus (exact Hl1.out.below (And.right (by assumption : _ ∧ Below w1.heap.size w1 _)))); rintro e w2 ⟨rfl, hbw2⟩; have gw2 := Below.trans (And.right (by assumption : _ ∧ Below w1.heap.size w1 _)) (hbw2.mono (Below.size (And.right (by assumption : _ ∧ Below w1.heap.size w1 _)))); have gsw2 := gw2.size; have hcf := bcell hbw2; have hcw2 := hcf.1; have hfw2 := hcf.2; have hsw2 := hbw2.size; (try simp only [World.size_alloc, World.heap_drewN, heap_drew] at hsw2); clear hbw2 hcf; (try have hzw2 : w1.heap.size < w2.heap.size := by omega)) | (go_at_call 92; (with_reducible refine (Hq2.out _ ?_).mono ?_); (focus (exact Hl1.out.below (And.right (by assumption : _ ∧ Below w1.heap.size w1 _)))); rintro e w3 ⟨rfl, hbw3⟩; have gw3 := Below.trans (And.right (by assumption : _ ∧ Below w1.heap.size w1 _)) (hbw3.mono (Below.size (And.right (by assumption : _ ∧ Below w1.heap.size w1 _)))); have gsw3 := gw3.size; have hcf := bcell hbw3; have hcw3 := hcf.1; have hfw3 := hcf.2; have hsw3 := hbw3.size; (try simp only [World.size_alloc, World.heap_drewN, heap_drew] at hsw3); clear hbw3 hcf; (try have hzw3 : w1.heap.size < w3.heap.size := by omega)))
  refine hK.out _ _ ?_ (fun hHeld => ?_)
  ·(try dsimp only); (first | (refine ext_mk ?_; exact belt))
  clear hK K
  (try simp only [apz])
  refine tq 7 (some 10) ?_
  (try simp only [apz])
  refine tq 8 (some 11) ?_
  (try simp only [apz])
  refine tq 9 (some 2) ?_
  (try simp only [apz])
  refine wpAnyH_done (by kernel_rfl) ?_ _
  go_wp2_with fail
  go_ret
  exact ⟨rfl, heldEnd Hb1.out (by assumption)⟩
end Go.Proofs.YtclgncaghiinhaaGreatDoor

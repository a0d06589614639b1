/- Package journal: isSigned, Check. -/
import Derived.Test.YtmbmejclnagffaaDoorM34
set_option linter.unusedSimpArgs false
set_option linter.unusedVariables false
set_option maxRecDepth 100000
namespace Go.Proofs.YtmbmejclnagffaaDoor
open Go.RowKit
theorem say_fit {h : Hd} (hf : HFit h) : Fit (sayI h) := fun x hx => by
  have h1 := hf.p
  have h2 := hf.n
  have h3 := hf.c
  simp only [sayI, List.mem_cons, List.not_mem_nil, or_false] at hx
  rcases hx with rfl | rfl | rfl | rfl <;> omega
theorem ver_err {p e s : Int} {l : List Int} (h : verV p e s l = true) : errV (okB p e s) = 0 := by
  have : okB p e s = true := by rw [verV, Bool.and_eq_true] at h; exact h.1
  rw [this]; rfl
set_option maxRecDepth 100000 in
set_option maxHeartbeats 16000000 in
theorem jsigned_any (A : Option Addr) (cp n : Nat) (ms : List Msg) (h : Hd) (party pub : Int) (hln : ms.length = n) (hn : n ≤ 9223372036854775807) (hf : HFit h) (hp : -9223372036854775808 ≤ party ∧ party ≤ 9223372036854775807) (w : World) (hl : Msgs w A ms) (ht : Tab w) (hc : Cnt w) :
    Calls Tryd.prog 35 #[.agg #[.slice A n cp, .int .i64 h.p, .int .i64 h.n, .int .u64 h.c, .int .i64 h.e, .int .i64 h.s], .int .i64 party, .int .i64 pub] w fun e w' => e = .returned (.bool (sgdB ms h party pub)) ∧ Below w.heap.size w w' := by
  obtain ⟨w0, hw0⟩ : ∃ W, w.alloc (.cells #[.slice A n cp, .int .i64 h.p, .int .i64 h.n, .int .u64 h.c, .int .i64 h.e, .int .i64 h.s] 35) = W := ⟨_, rfl⟩
  have bb0 : Below w.heap.size w w0 := by rw [← hw0]; exact (Below.refl _ _).alloc (Nat.le_refl _) _
  have k0 : Blk w0 w.heap.size #[.slice A n cp, .int .i64 h.p, .int .i64 h.n, .int .u64 h.c, .int .i64 h.e, .int .i64 h.s] := by rw [← hw0]; exact blk_new rfl
  have l0 := hl.below bb0
  have t0 := ht.below bb0
  have m0 := hc.below bb0
  have s0 : w.heap.size < w0.heap.size := by rw [← hw0]; simp
  have q1 := fun W h1 h2 h3 => jformed_any A cp n ms h party hln hn hf hp W h1 h2 h3
  cases hF : frmB ms h party with
  | false =>
    have e : sgdB ms h party pub = false := by simp [sgdB, hF]
    rw [hF] at q1
    rw [e]
    have ⟨H_hw0, H_bb0, H_k0, H_l0, H_t0, H_m0, H_hl, H_ht⟩ := hid8 hw0 bb0 k0 l0 t0 m0 hl ht; clear hw0 bb0 k0 l0 t0 m0 hl ht; have ⟨H_hc, H_hln, H_hf, H_q1, H_hF, H_e⟩ := hid6 hc hln hf q1 hF e; clear hc hln hf q1 hF e
    go_enter Tryd.func35, Tryd.ntmps35
    go_upto_region 1 with (fail)
    rw [H_hw0.out]
    have v0 := (H_k0.out 0 _ rfl).at
    have v1 := (H_k0.out 1 _ rfl).at
    have v2 := (H_k0.out 2 _ rfl).at
    have v3 := (H_k0.out 3 _ rfl).at
    have v4 := (H_k0.out 4 _ rfl).at
    have v5 := (H_k0.out 5 _ rfl).at
    go_wp2_with fail
    (with_reducible refine (H_q1.out _ ?_ ?_ ?_).mono ?_)
    · exact H_l0.out.below (show Below w0.heap.size w0 _ from belt)
    · exact H_t0.out.below (show Below w0.heap.size w0 _ from belt)
    · exact H_m0.out.below (show Below w0.heap.size w0 _ from belt)
    rintro e w1 ⟨rfl, b1⟩
    have c1 : Below w0.heap.size w0 w1 := Below.trans belt (b1.mono omh)
    have s1 := c1.size
    have bb1 := H_bb0.out.trans (c1.mono H_bb0.out.size)
    have l1 := H_l0.out.below c1
    have t1 := H_t0.out.below c1
    have m1 := H_m0.out.below c1
    have k1 := H_k0.out.below c1
    have ⟨H_b1, H_c1, H_bb1, H_l1, H_t1, H_m1, H_k1⟩ := hid7 b1 c1 bb1 l1 t1 m1 k1; clear b1 c1 bb1 l1 t1 m1 k1
    clear v0 v1 v2 v3 v4 v5
    have v0 := (H_k1.out 0 _ rfl).at
    have v1 := (H_k1.out 1 _ rfl).at
    have v2 := (H_k1.out 2 _ rfl).at
    have v3 := (H_k1.out 3 _ rfl).at
    have v4 := (H_k1.out 4 _ rfl).at
    have v5 := (H_k1.out 5 _ rfl).at
    go_wp2_with fail
    (with_reducible refine (H_q1.out _ ?_ ?_ ?_).mono ?_)
    · exact H_l1.out.below (show Below w1.heap.size w1 _ from belt)
    · exact H_t1.out.below (show Below w1.heap.size w1 _ from belt)
    · exact H_m1.out.below (show Below w1.heap.size w1 _ from belt)
    rintro e w2 ⟨rfl, b2⟩
    have c2 : Below w1.heap.size w1 w2 := Below.trans belt (b2.mono omh)
    have s2 := c2.size
    have bb2 := H_bb1.out.trans (c2.mono H_bb1.out.size)
    have ⟨H_b2, H_c2, H_bb2⟩ := hid3 b2 c2 bb2; clear b2 c2 bb2
    go_wp2_with fail
    go_ret
    exact ⟨rfl, H_bb2.out⟩
  | true =>
    rw [hF] at q1
    by_cases hz : n = 0
    · have hnil : ms = [] := List.eq_nil_of_length_eq_zero (hln.trans hz)
      have e : sgdB ms h party pub = true := by simp [sgdB, hF, hnil]; rw [← hnil]; exact hF
      rw [e]
      have i1 : ((n : Int) == 0) = true := by rw [hz]; rfl
      have ⟨H_hw0, H_bb0, H_k0, H_l0, H_t0, H_m0, H_hl, H_ht⟩ := hid8 hw0 bb0 k0 l0 t0 m0 hl ht; clear hw0 bb0 k0 l0 t0 m0 hl ht; have ⟨H_hc, H_hln, H_hf, H_q1, H_hF, H_e, H_hz⟩ := hid7 hc hln hf q1 hF e hz; clear hc hln hf q1 hF e hz
      go_enter Tryd.func35, Tryd.ntmps35
      go_upto_region 1 with (fail)
      rw [H_hw0.out]
      have v0 := (H_k0.out 0 _ rfl).at
      have v1 := (H_k0.out 1 _ rfl).at
      have v2 := (H_k0.out 2 _ rfl).at
      have v3 := (H_k0.out 3 _ rfl).at
      have v4 := (H_k0.out 4 _ rfl).at
      have v5 := (H_k0.out 5 _ rfl).at
      go_wp2_with fail
      (with_reducible refine (H_q1.out _ ?_ ?_ ?_).mono ?_)
      · exact H_l0.out.below (show Below w0.heap.size w0 _ from belt)
      · exact H_t0.out.below (show Below w0.heap.size w0 _ from belt)
      · exact H_m0.out.below (show Below w0.heap.size w0 _ from belt)
      rintro e w1 ⟨rfl, b1⟩
      have c1 : Below w0.heap.size w0 w1 := Below.trans belt (b1.mono omh)
      have s1 := c1.size
      have bb1 := H_bb0.out.trans (c1.mono H_bb0.out.size)
      have l1 := H_l0.out.below c1
      have t1 := H_t0.out.below c1
      have m1 := H_m0.out.below c1
      have k1 := H_k0.out.below c1
      have ⟨H_b1, H_c1, H_bb1, H_l1, H_t1, H_m1, H_k1⟩ := hid7 b1 c1 bb1 l1 t1 m1 k1; clear b1 c1 bb1 l1 t1 m1 k1
      clear v0 v1 v2 v3 v4 v5
      have v0 := (H_k1.out 0 _ rfl).at
      have v1 := (H_k1.out 1 _ rfl).at
      have v2 := (H_k1.out 2 _ rfl).at
      have v3 := (H_k1.out 3 _ rfl).at
      have v4 := (H_k1.out 4 _ rfl).at
      have v5 := (H_k1.out 5 _ rfl).at
      go_wp2_with fail
      (with_reducible refine (H_q1.out _ ?_ ?_ ?_).mono ?_)
      · exact H_l1.out.below (show Below w1.heap.size w1 _ from belt)
      · exact H_t1.out.below (show Below w1.heap.size w1 _ from belt)
      · exact H_m1.out.below (show Below w1.heap.size w1 _ from belt)
      rintro e w2 ⟨rfl, b2⟩
      have c2 : Below w1.heap.size w1 w2 := Below.trans belt (b2.mono omh)
      have s2 := c2.size
      have bb2 := H_bb1.out.trans (c2.mono H_bb1.out.size)
      have ⟨H_b2, H_c2, H_bb2⟩ := hid3 b2 c2 bb2; clear b2 c2 bb2
      go_wp2_with fail
      go_ret
      exact ⟨rfl, H_bb2.out⟩
    · have hne : ms ≠ [] := by intro e; rw [e] at hln; simp at hln; omega
      have e : sgdB ms h party pub = verV pub h.e h.s (sayI h) := by simp [sgdB, hF, hne]
      rw [e]
      have i1 : ((n : Int) == 0) = false := by rw [beq_eq_false_iff_ne]; omega
      have q3 := fun W => jsays_any h hf W
      unfold New4 at q3
      have e3 : h.cells.toArray = #[.int .i64 h.p, .int .i64 h.n, .int .u64 h.c, .int .i64 h.e, .int .i64 h.s] := rfl
      rw [e3] at q3
      have q4 := fun W X h1 h2 => verify_all pub h.e h.s X 4 4 (sayI h) rfl W h1 (by omega) (say_fit hf) h2
      have hv0 := ver_err (p := pub) (e := h.e) (s := h.s) (l := sayI h)
      clear e3
      generalize hV : verV pub h.e h.s (sayI h) = V at *
      generalize hE : errV (okB pub h.e h.s) = E at *
      generalize hSY : sayI h = SY at *
      have ⟨H_hw0, H_bb0, H_k0, H_l0, H_t0, H_m0, H_hl, H_ht⟩ := hid8 hw0 bb0 k0 l0 t0 m0 hl ht; clear hw0 bb0 k0 l0 t0 m0 hl ht; have ⟨H_hc, H_hln, H_hf, H_q1, H_q3, H_q4, H_hF, H_e⟩ := hid8 hc hln hf q1 q3 q4 hF e; clear hc hln hf q1 q3 q4 hF e; have ⟨H_hz, H_hV, H_hE, H_hSY⟩ := hid4 hz hV hE hSY; clear hz hV hE hSY
      go_enter Tryd.func35, Tryd.ntmps35
      go_upto_region 1 with (fail)
      rw [H_hw0.out]
      have v0 := (H_k0.out 0 _ rfl).at
      have v1 := (H_k0.out 1 _ rfl).at
      have v2 := (H_k0.out 2 _ rfl).at
      have v3 := (H_k0.out 3 _ rfl).at
      have v4 := (H_k0.out 4 _ rfl).at
      have v5 := (H_k0.out 5 _ rfl).at
      go_wp2_with fail
      (with_reducible refine (H_q1.out _ ?_ ?_ ?_).mono ?_)
      · exact H_l0.out.below (show Below w0.heap.size w0 _ from belt)
      · exact H_t0.out.below (show Below w0.heap.size w0 _ from belt)
      · exact H_m0.out.below (show Below w0.heap.size w0 _ from belt)
      rintro e w1 ⟨rfl, b1⟩
      have c1 : Below w0.heap.size w0 w1 := Below.trans belt (b1.mono omh)
      have s1 := c1.size
      have bb1 := H_bb0.out.trans (c1.mono H_bb0.out.size)
      have l1 := H_l0.out.below c1
      have t1 := H_t0.out.below c1
      have m1 := H_m0.out.below c1
      have k1 := H_k0.out.below c1
      have ⟨H_b1, H_c1, H_bb1, H_l1, H_t1, H_m1, H_k1⟩ := hid7 b1 c1 bb1 l1 t1 m1 k1; clear b1 c1 bb1 l1 t1 m1 k1
      clear v0 v1 v2 v3 v4 v5
      have v0 := (H_k1.out 0 _ rfl).at
      have v1 := (H_k1.out 1 _ rfl).at
      have v2 := (H_k1.out 2 _ rfl).at
      have v3 := (H_k1.out 3 _ rfl).at
      have v4 := (H_k1.out 4 _ rfl).at
      have v5 := (H_k1.out 5 _ rfl).at
      have z1 : w.heap.size < w1.heap.size := by omega
      go_upto_region 3 with (fail)
      refine wp_region_held_drew (S := (fun W => (∀ b o, b < w1.heap.size → W.cell? ⟨b, o, none⟩ = w1.cell? ⟨b, o, none⟩) ∧ Below w1.heap.size w1 W)) (by kernel_rfl) ?_ (fun hHeld => ?_)
      · (try dsimp only); (first | (refine ext_mk ?_; exact belt))
      refine take_at (i := 0) (some 23) rfl rfl (by kernel_rfl) (fun _ _ _ h => h) (by rfl) (v := ?_) ?_ (by assumption) ?_
      rotate_left
      · intro W hSw; (try dsimp only at hSw); go_simp; (try with_reducible rfl)
      (try simp only [apz])
      refine take_at (i := 1) (some 24) rfl rfl (by kernel_rfl) (fun _ _ _ h => h) (by rfl) (v := ?_) ?_ (by assumption) ?_
      rotate_left
      · intro W hSw; (try dsimp only at hSw); go_simp; (try with_reducible rfl)
      (try simp only [apz])
      refine take_at (i := 2) (some 25) rfl rfl (by kernel_rfl) (fun _ _ _ h => h) (by rfl) (v := ?_) ?_ (by assumption) ?_
      rotate_left
      · intro W hSw; (try dsimp only at hSw); go_simp; (try with_reducible rfl)
      (try simp only [apz])
      refine take_at (i := 3) (some 26) rfl rfl (by kernel_rfl) (fun _ _ _ h => h) (by rfl) (v := ?_) ?_ (by assumption) ?_
      rotate_left
      · intro W hSw; (try dsimp only at hSw); go_simp; (try with_reducible rfl)
      (try simp only [apz])
      refine take_at (i := 4) (some 27) rfl rfl (by kernel_rfl) (fun _ _ _ h => h) (by rfl) (v := ?_) ?_ (by assumption) ?_
      rotate_left
      · intro W hSw; (try dsimp only at hSw); go_simp; (try with_reducible rfl)
      (try simp only [apz])
      refine take_at (i := 5) (some 28) rfl rfl (by kernel_rfl) (fun _ _ _ h => h) (by rfl) (v := ?_) ?_ (by assumption) ?_
      rotate_left
      · intro W hSw; (try dsimp only at hSw); go_simp; (try with_reducible rfl)
      (try simp only [apz])
      refine wpAnyH_ready (rs := [6]) (by kernel_rfl) (by simp) ?_
      refine AllReadyH.cons rfl (fun K hK => ?_) AllReadyH.nil
      go_simp
      (first | ((go_at_call 43; (with_reducible refine (H_q3.out _).mono ?_); rintro e w2 ⟨b2, rfl, hi2, hbw2⟩; have gw2 := Below.trans (And.right (by assumption : _ ∧ Below w1.heap.size w1 _)) (hbw2.mono (Below.size (And.right (by assumption : _ ∧ Below w1.heap.size w1 _)))); have gsw2 := gw2.size; have hcf := bcell hbw2; have hcw2 := hcf.1; have hfw2 := hcf.2; have hsw2 := hbw2.size; (try simp only [World.size_alloc, World.heap_drewN, heap_drew] at hsw2); clear hbw2 hcf; (try have hzw2 : w1.heap.size < w2.heap.size := by omega))) | (go_at_call 58; (with_reducible refine (H_q4.out _ _ hi2 ?_).mono ?_); (focus (exact H_t1.out.below (And.right (by assumption : _ ∧ Below w1.heap.size w1 _)))); rintro e w3 ⟨rfl, hbw3⟩; have gw3 := Below.trans (And.right (by assumption : _ ∧ Below w1.heap.size w1 _)) (hbw3.mono (Below.size (And.right (by assumption : _ ∧ Below w1.heap.size w1 _)))); have gsw3 := gw3.size; have hcf := bcell hbw3; have hcw3 := hcf.1; have hfw3 := hcf.2; have hsw3 := hbw3.size; (try simp only [World.size_alloc, World.heap_drewN, heap_drew] at hsw3); clear hbw3 hcf; (try have hzw3 : w1.heap.size < w3.heap.size := by omega)))
      refine hK.out _ _ ?_ (fun hHeld => ?_)
      · (try dsimp only); (first | (refine ext_mk ?_; exact belt))
      clear hK K
      (try simp only [apz])
      refine wpAnyH_ready (rs := [7]) (by kernel_rfl) (by simp) ?_
      refine AllReadyH.cons rfl (fun K hK => ?_) AllReadyH.nil
      go_simp
      (first | ((go_at_call 43; (with_reducible refine (H_q3.out _).mono ?_); rintro e w2 ⟨b2, rfl, hi2, hbw2⟩; have gw2 := Below.trans (And.right (by assumption : _ ∧ Below w1.heap.size w1 _)) (hbw2.mono (Below.size (And.right (by assumption : _ ∧ Below w1.heap.size w1 _)))); have gsw2 := gw2.size; have hcf := bcell hbw2; have hcw2 := hcf.1; have hfw2 := hcf.2; have hsw2 := hbw2.size; (try simp only [World.size_alloc, World.heap_drewN, heap_drew] at hsw2); clear hbw2 hcf; (try have hzw2 : w1.heap.size < w2.heap.size := by omega))) | (go_at_call 58; (with_reducible refine (H_q4.out _ _ hi2 ?_).mono ?_); (focus (exact H_t1.out.below (And.right (by assumption : _ ∧ Below w1.heap.size w1 _)))); rintro e w3 ⟨rfl, hbw3⟩; have gw3 := Below.trans (And.right (by assumption : _ ∧ Below w1.heap.size w1 _)) (hbw3.mono (Below.size (And.right (by assumption : _ ∧ Below w1.heap.size w1 _)))); have gsw3 := gw3.size; have hcf := bcell hbw3; have hcw3 := hcf.1; have hfw3 := hcf.2; have hsw3 := hbw3.size; (try simp only [World.size_alloc, World.heap_drewN, heap_drew] at hsw3); clear hbw3 hcf; (try have hzw3 : w1.heap.size < w3.heap.size := by omega)))
      refine hK.out _ _ ?_ (fun hHeld => ?_)
      · (try dsimp only); (first | (refine ext_mk ?_; exact belt))
      clear hK K
      (try simp only [apz])
      refine take_at (i := 8) (some 22) rfl rfl (by kernel_rfl) (fun _ _ _ h => h) (by rfl) (v := ?_) ?_ (by assumption) ?_
      rotate_left
      · intro W hSw; (try dsimp only at hSw); go_simp; (try with_reducible rfl)
      (try simp only [apz])
      refine take_at (i := 9) (some 31) rfl rfl (by kernel_rfl) (fun _ _ _ h => h) (by rfl) (v := ?_) ?_ (by assumption) ?_
      rotate_left
      · intro W hSw; (try dsimp only at hSw); go_simp; (try with_reducible rfl)
      (try simp only [apz])
      refine take_at (i := 10) (some 32) rfl rfl (by kernel_rfl) (fun _ _ _ h => h) (by rfl) (v := ?_) ?_ (by assumption) ?_
      rotate_left
      · intro W hSw; (try dsimp only at hSw); go_simp; (try with_reducible rfl)
      (try simp only [apz])
      refine take_at (i := 11) (some 7) rfl rfl (by kernel_rfl) (fun _ _ _ h => h) (by rfl) (v := ?_) ?_ (by assumption) ?_
      rotate_left
      · intro W hSw; (try dsimp only at hSw); go_simp; (try with_reducible rfl)
      (try simp only [apz])
      refine take_at (i := 12) (some 8) rfl rfl (by kernel_rfl) (fun _ _ _ h => h) (by rfl) (v := ?_) ?_ (by assumption) ?_
      rotate_left
      · intro W hSw; (try dsimp only at hSw); go_simp; (try with_reducible rfl)
      (try simp only [apz])
      refine wpAnyH_done (by kernel_rfl) ?_ _
      have gF : Below w1.heap.size w1 _ := And.right (by assumption)
      have gG := H_bb1.out.trans (gF.mono H_bb1.out.size)
      cases V with
      | false =>
        have ⟨H_gF, H_gG, H_hv0⟩ := hid3 gF gG hv0; clear gF gG hv0
        go_wp2_with fail
        go_ret
        exact ⟨rfl, H_gG.out⟩
      | true =>
        have hE0 := hv0 rfl
        subst hE0
        have ⟨H_gF, H_gG, H_hv0⟩ := hid3 gF gG hv0; clear gF gG hv0
        go_wp2_with fail
        go_ret
        exact ⟨rfl, H_gG.out⟩
set_option maxRecDepth 100000 in
set_option maxHeartbeats 16000000 in
theorem jcheck_any (A : Option Addr) (cp n : Nat) (ms : List Msg) (h : Hd) (party pub : Int) (hln : ms.length = n) (hn : n ≤ 9223372036854775807) (hf : HFit h) (hp : -9223372036854775808 ≤ party ∧ party ≤ 9223372036854775807) (w : World) (hl : Msgs w A ms) (ht : Tab w) (hc : Cnt w) :
    Calls Tryd.prog 14 #[.agg #[.slice A n cp, .int .i64 h.p, .int .i64 h.n, .int .u64 h.c, .int .i64 h.e, .int .i64 h.s], .int .i64 party, .int .i64 pub] w fun e w' => e = .returned (.tuple #[.bool (chkV ms h party pub), .int .i64 (chkE party pub)]) ∧ Below w.heap.size w w' := by
  obtain ⟨w0, hw0⟩ : ∃ W, w.alloc (.cells #[.slice A n cp, .int .i64 h.p, .int .i64 h.n, .int .u64 h.c, .int .i64 h.e, .int .i64 h.s] 35) = W := ⟨_, rfl⟩
  have bb0 : Below w.heap.size w w0 := by rw [← hw0]; exact (Below.refl _ _).alloc (Nat.le_refl _) _
  have k0 : Blk w0 w.heap.size #[.slice A n cp, .int .i64 h.p, .int .i64 h.n, .int .u64 h.c, .int .i64 h.e, .int .i64 h.s] := by rw [← hw0]; exact blk_new rfl
  have l0 := hl.below bb0
  have t0 := ht.below bb0
  have m0 := hc.below bb0
  have q1 := fun W => jparty_any party hp W
  have q2 := fun W => member_any pub W
  have q3 := fun W h1 h2 h3 => jsigned_any A cp n ms h party pub hln hn hf hp W h1 h2 h3
  cases hP : ptyB party with
  | false =>
    have e1 : chkE party pub = 1 := by simp [chkE, hP]
    have e2 : chkV ms h party pub = false := by simp [chkV, e1]
    rw [hP] at q1
    rw [e1, e2]
    have ⟨H_hw0, H_bb0, H_k0, H_l0, H_t0, H_m0, H_hl, H_ht⟩ := hid8 hw0 bb0 k0 l0 t0 m0 hl ht; clear hw0 bb0 k0 l0 t0 m0 hl ht; have ⟨H_hc, H_hln, H_hf, H_q1, H_q2, H_q3, H_hP, H_e1⟩ := hid8 hc hln hf q1 q2 q3 hP e1; clear hc hln hf q1 q2 q3 hP e1; have H_e2 := Lib.hid e2; clear e2
    go_enter Tryd.func14, Tryd.ntmps14
    go_upto_region 1 with (fail)
    rw [H_hw0.out]
    go_wp2_with fail
    (with_reducible refine (H_q1.out _).mono ?_)
    rintro e w_ ⟨rfl, hw_⟩
    subst hw_
    go_wp2_with fail
    go_ret2
    exact ⟨rfl, H_bb0.out⟩
  | true =>
  rw [hP] at q1
  cases hM : memZ pub with
  | false =>
    have e1 : chkE party pub = 1 := by simp [chkE, hM]
    have e2 : chkV ms h party pub = false := by simp [chkV, e1]
    rw [hM] at q2
    rw [e1, e2]
    have ⟨H_hw0, H_bb0, H_k0, H_l0, H_t0, H_m0, H_hl, H_ht⟩ := hid8 hw0 bb0 k0 l0 t0 m0 hl ht; clear hw0 bb0 k0 l0 t0 m0 hl ht; have ⟨H_hc, H_hln, H_hf, H_q1, H_q2, H_q3, H_hP, H_hM⟩ := hid8 hc hln hf q1 q2 q3 hP hM; clear hc hln hf q1 q2 q3 hP hM; have ⟨H_e1, H_e2⟩ := hid2 e1 e2; clear e1 e2
    go_enter Tryd.func14, Tryd.ntmps14
    go_upto_region 1 with (fail)
    rw [H_hw0.out]
    go_wp2_with fail
    (with_reducible refine (H_q1.out _).mono ?_)
    rintro e w_ ⟨rfl, hw_⟩
    subst hw_
    go_wp2_with fail
    (with_reducible refine (H_q2.out _).mono ?_)
    rintro e w1 ⟨rfl, b1⟩
    have c1 : Below w0.heap.size w0 w1 := Below.trans belt (b1.mono omh)
    have s1 := c1.size
    have bb1 := H_bb0.out.trans (c1.mono H_bb0.out.size)
    have ⟨H_b1, H_c1, H_bb1⟩ := hid3 b1 c1 bb1; clear b1 c1 bb1
    go_wp2_with fail
    go_ret2
    exact ⟨rfl, H_bb1.out⟩
  | true =>
    have e1 : chkE party pub = 0 := by simp [chkE, hP, hM]
    have e2 : chkV ms h party pub = sgdB ms h party pub := by simp [chkV, e1]
    rw [hM] at q2
    rw [e1, e2]
    generalize sgdB ms h party pub = R at *
    have ⟨H_hw0, H_bb0, H_k0, H_l0, H_t0, H_m0, H_hl, H_ht⟩ := hid8 hw0 bb0 k0 l0 t0 m0 hl ht; clear hw0 bb0 k0 l0 t0 m0 hl ht; have ⟨H_hc, H_hln, H_hf, H_q1, H_q2, H_q3, H_hP, H_hM⟩ := hid8 hc hln hf q1 q2 q3 hP hM; clear hc hln hf q1 q2 q3 hP hM; have ⟨H_e1, H_e2⟩ := hid2 e1 e2; clear e1 e2
    go_enter Tryd.func14, Tryd.ntmps14
    go_upto_region 1 with (fail)
    rw [H_hw0.out]
    go_wp2_with fail
    (with_reducible refine (H_q1.out _).mono ?_)
    rintro e w_ ⟨rfl, hw_⟩
    subst hw_
    go_wp2_with fail
    (with_reducible refine (H_q2.out _).mono ?_)
    rintro e w1 ⟨rfl, b1⟩
    have c1 : Below w0.heap.size w0 w1 := Below.trans belt (b1.mono omh)
    have s1 := c1.size
    have bb1 := H_bb0.out.trans (c1.mono H_bb0.out.size)
    have l1 := H_l0.out.below c1
    have t1 := H_t0.out.below c1
    have m1 := H_m0.out.below c1
    have k1 := H_k0.out.below c1
    have ⟨H_b1, H_c1, H_bb1, H_l1, H_t1, H_m1, H_k1⟩ := hid7 b1 c1 bb1 l1 t1 m1 k1; clear b1 c1 bb1 l1 t1 m1 k1
    have v0 := (H_k1.out 0 _ rfl).at
    have v1 := (H_k1.out 1 _ rfl).at
    have v2 := (H_k1.out 2 _ rfl).at
    have v3 := (H_k1.out 3 _ rfl).at
    have v4 := (H_k1.out 4 _ rfl).at
    have v5 := (H_k1.out 5 _ rfl).at
    go_wp2_with fail
    (with_reducible refine (H_q3.out _ ?_ ?_ ?_).mono ?_)
    · exact H_l1.out.below (show Below w1.heap.size w1 _ from belt)
    · exact H_t1.out.below (show Below w1.heap.size w1 _ from belt)
    · exact H_m1.out.below (show Below w1.heap.size w1 _ from belt)
    rintro e w2 ⟨rfl, b2⟩
    have c2 : Below w1.heap.size w1 w2 := Below.trans belt (b2.mono omh)
    have s2 := c2.size
    have bb2 := H_bb1.out.trans (c2.mono H_bb1.out.size)
    have ⟨H_b2, H_c2, H_bb2⟩ := hid3 b2 c2 bb2; clear b2 c2 bb2
    go_wp2_with fail
    go_ret2
    exact ⟨rfl, H_bb2.out⟩
end Go.Proofs.YtmbmejclnagffaaDoor

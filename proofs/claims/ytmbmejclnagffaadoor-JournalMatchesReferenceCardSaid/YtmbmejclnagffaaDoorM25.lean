/- Contracts of package journal: isRight, ints, says, Args. -/
import Derived.Test.YtmbmejclnagffaaDoorM1
import Derived.Test.YtmbmejclnagffaaDoorM24
set_option linter.unusedSimpArgs false
set_option linter.unusedVariables false
set_option maxRecDepth 100000
namespace Go.Proofs.YtmbmejclnagffaaDoor
open Go.RowKit
theorem Msg.cells_len (m : Msg) : m.cells.length = 5 := rfl
theorem Msg.cells_one (m : Msg) : ∀ u ∈ m.cells, u.oneCell' = true := by
  intro u hu
  simp only [Msg.cells, List.mem_cons, List.not_mem_nil, or_false] at hu
  rcases hu with rfl | rfl | rfl | rfl | rfl <;> rfl
set_option maxHeartbeats 8000000 in
theorem jright_any (m : Msg) (hf : MFit m) (w : World) (hl : IntsAt w m.A .i64 m.a) (hc : Cnt w) :
    Calls Tryd.prog 36 #[.agg m.cells.toArray] w fun e w' => e = .returned (.bool (msgB m)) ∧ Below w.heap.size w w' := by
  obtain ⟨n, hn⟩ : ∃ n, m.a.length = n := ⟨_, rfl⟩
  have fp := hf.p
  have fs := hf.s
  have ft := hf.t
  have fk := hf.k
  have fn := hf.n
  have hmb := msgB_iff (m := m)
  have e0 : m.cells.toArray = #[.int .i64 m.p, .int .i64 m.s, .int .i64 m.t, .int .i64 m.k, .slice m.A n m.c] := by rw [← hn]; rfl
  rw [e0]
  rw [hn] at fn hmb
  obtain ⟨w0, hw0⟩ : ∃ W, w.alloc (.cells #[.int .i64 m.p, .int .i64 m.s, .int .i64 m.t, .int .i64 m.k, .slice m.A n m.c] 47) = W := ⟨_, rfl⟩
  have bb0 : Below w.heap.size w w0 := by rw [← hw0]; exact (Below.refl _ _).alloc (Nat.le_refl _) _
  have k0 : Blk w0 w.heap.size #[.int .i64 m.p, .int .i64 m.s, .int .i64 m.t, .int .i64 m.k, .slice m.A n m.c] := by rw [← hw0]; exact blk_new rfl
  have q1 := fun W => jparty_any m.p fp W
  have q2 := fun W => jwithin_any m.s 1 5000 W
  have q3 := fun W => jwrong_any m.t W
  have q4 := fun W => jwithin_any m.k 1 9 W
  have q5 := fun W h => jcontains_any m.A m.c n m.a hn fn W h
  have l0 := hl.below bb0
  have c0 := hc.below bb0
  have cl := c0.lt
  have cc := fun h => c0.cell (k := m.k) h
  have cb := cntI_le m.k
  obtain ⟨⟨mp, ms, mt, mk, mA, mc, ma⟩, hm⟩ : ∃ x, x = m := ⟨m, rfl⟩
  subst hm
  simp only at *
  generalize hR : msgB ⟨mp, ms, mt, mk, mA, mc, ma⟩ = R at *
  clear e0
  have ⟨H_hf, H_hw0, H_bb0, H_k0, H_l0, H_c0, H_hl, H_hc⟩ := hid8 hf hw0 bb0 k0 l0 c0 hl hc; clear hf hw0 bb0 k0 l0 c0 hl hc; have ⟨H_hn, H_hR⟩ := hid2 hn hR; clear hn hR
  have y0 := (H_k0.out 0 _ rfl).at
  have y1 := (H_k0.out 1 _ rfl).at
  have y2 := (H_k0.out 2 _ rfl).at
  have y3 := (H_k0.out 3 _ rfl).at
  have y4 := (H_k0.out 4 _ rfl).at
  have ly := (H_k0.out 0 _ rfl).lt
  have hno : ∀ P : Prop, (R = true → P) → ¬ P → R = false := fun P h h2 => by rw [Bool.eq_false_iff]; exact fun e => h2 (h e)
  cases h1 : ptyB mp with
  | false =>
    have no := hno _ (fun e => (hmb.1 e).1) (by rw [h1]; simp)
    rw [h1] at q1
    have ⟨H_hmb, H_q1, H_q2, H_q3, H_q4, H_q5, H_cc, H_no⟩ := hid8 hmb q1 q2 q3 q4 q5 cc no; clear hmb q1 q2 q3 q4 q5 cc no; have ⟨H_h1, H_hno⟩ := hid2 h1 hno; clear h1 hno
    go_enter Tryd.func36, Tryd.ntmps36
    go_upto_region 2 with (fail)
    rw [H_hw0.out]
    go_wp2_with fail
    (with_reducible refine (H_q1.out _).mono ?_)
    rintro e w_ ⟨rfl, hw_⟩
    subst hw_
    go_wp2_with fail
    go_ret
    exact ⟨ret_bool (by rw [H_no.out]), H_bb0.out⟩
  | true =>
  rw [h1] at q1
  cases h2 : inJ ms 1 5000 with
  | false =>
    have no := hno _ (fun e => (hmb.1 e).2.1) (fun h => by rw [inJ_iff.2 h] at h2; cases h2)
    rw [h2] at q2
    have ⟨H_hmb, H_q1, H_q2, H_q3, H_q4, H_q5, H_cc, H_no⟩ := hid8 hmb q1 q2 q3 q4 q5 cc no; clear hmb q1 q2 q3 q4 q5 cc no; have ⟨H_h1, H_h2, H_hno⟩ := hid3 h1 h2 hno; clear h1 h2 hno
    go_enter Tryd.func36, Tryd.ntmps36
    go_upto_region 2 with (fail)
    rw [H_hw0.out]
    go_wp2_with fail
    (with_reducible refine (H_q1.out _).mono ?_)
    rintro e w_ ⟨rfl, hw_⟩
    subst hw_
    go_wp2_with fail
    (with_reducible refine (H_q2.out _).mono ?_)
    rintro e w_ ⟨rfl, hw_⟩
    subst hw_
    go_wp2_with fail
    go_ret
    exact ⟨ret_bool (by rw [H_no.out]), H_bb0.out⟩
  | true =>
  rw [h2] at q2
  cases h3 : argB mt with
  | false =>
    have no := hno _ (fun e => (hmb.1 e).2.2.1) (by rw [h3]; simp)
    rw [h3] at q3
    have ⟨H_hmb, H_q1, H_q2, H_q3, H_q4, H_q5, H_cc, H_no⟩ := hid8 hmb q1 q2 q3 q4 q5 cc no; clear hmb q1 q2 q3 q4 q5 cc no; have ⟨H_h1, H_h2, H_h3, H_hno⟩ := hid4 h1 h2 h3 hno; clear h1 h2 h3 hno
    go_enter Tryd.func36, Tryd.ntmps36
    go_upto_region 2 with (fail)
    rw [H_hw0.out]
    go_wp2_with fail
    (with_reducible refine (H_q1.out _).mono ?_)
    rintro e w_ ⟨rfl, hw_⟩
    subst hw_
    go_wp2_with fail
    (with_reducible refine (H_q2.out _).mono ?_)
    rintro e w_ ⟨rfl, hw_⟩
    subst hw_
    go_wp2_with fail
    (with_reducible refine (H_q3.out _).mono ?_)
    rintro e w_ ⟨rfl, hw_⟩
    subst hw_
    go_wp2_with fail
    go_ret
    exact ⟨ret_bool (by rw [H_no.out]), H_bb0.out⟩
  | true =>
  rw [h3] at q3
  cases h4 : inJ mk 1 9 with
  | false =>
    have no := hno _ (fun e => (hmb.1 e).2.2.2.1) (fun h => by rw [inJ_iff.2 h] at h4; cases h4)
    rw [h4] at q4
    have ⟨H_hmb, H_q1, H_q2, H_q3, H_q4, H_q5, H_cc, H_no⟩ := hid8 hmb q1 q2 q3 q4 q5 cc no; clear hmb q1 q2 q3 q4 q5 cc no; have ⟨H_h1, H_h2, H_h3, H_h4, H_hno⟩ := hid5 h1 h2 h3 h4 hno; clear h1 h2 h3 h4 hno
    go_enter Tryd.func36, Tryd.ntmps36
    go_upto_region 2 with (fail)
    rw [H_hw0.out]
    go_wp2_with fail
    (with_reducible refine (H_q1.out _).mono ?_)
    rintro e w_ ⟨rfl, hw_⟩
    subst hw_
    go_wp2_with fail
    (with_reducible refine (H_q2.out _).mono ?_)
    rintro e w_ ⟨rfl, hw_⟩
    subst hw_
    go_wp2_with fail
    (with_reducible refine (H_q3.out _).mono ?_)
    rintro e w_ ⟨rfl, hw_⟩
    subst hw_
    go_wp2_with fail
    (with_reducible refine (H_q4.out _).mono ?_)
    rintro e w_ ⟨rfl, hw_⟩
    subst hw_
    go_wp2_with fail
    go_ret
    exact ⟨ret_bool (by rw [H_no.out]), H_bb0.out⟩
  | true =>
  rw [h4] at q4
  have hk := inJ_iff.1 h4
  have cv := cc hk
  have cn : ((mk.toNat : Nat) : Int) = mk := by omega
  have kl : mk.toNat < 10 := by omega
  have hk1 : (0 : Int) ≤ mk := by omega
  have hk2 : mk < (10 : Int) := by omega
  generalize cntI mk = C at *
  by_cases h5 : (n : Int) = C
  rotate_left
  · have no := hno _ (fun e => (hmb.1 e).2.2.2.2.1) h5
    have i5 : ((n : Int) == C) = false := by rw [beq_eq_false_iff_ne]; exact h5
    have ⟨H_hmb, H_q1, H_q2, H_q3, H_q4, H_q5, H_cc, H_no⟩ := hid8 hmb q1 q2 q3 q4 q5 cc no; clear hmb q1 q2 q3 q4 q5 cc no; have ⟨H_h1, H_h2, H_h3, H_h4, H_h5, H_hno⟩ := hid6 h1 h2 h3 h4 h5 hno; clear h1 h2 h3 h4 h5 hno
    go_enter Tryd.func36, Tryd.ntmps36
    go_upto_region 2 with (fail)
    rw [H_hw0.out]
    go_wp2_with fail
    (with_reducible refine (H_q1.out _).mono ?_)
    rintro e w_ ⟨rfl, hw_⟩
    subst hw_
    go_wp2_with fail
    (with_reducible refine (H_q2.out _).mono ?_)
    rintro e w_ ⟨rfl, hw_⟩
    subst hw_
    go_wp2_with fail
    (with_reducible refine (H_q3.out _).mono ?_)
    rintro e w_ ⟨rfl, hw_⟩
    subst hw_
    go_wp2_with fail
    (with_reducible refine (H_q4.out _).mono ?_)
    rintro e w_ ⟨rfl, hw_⟩
    subst hw_
    go_upto_region 4 with (fail)
    go_quiet (fail)
    go_wp2_with fail
    go_ret
    exact ⟨ret_bool (by rw [H_no.out]), below_drewN H_bb0.out _⟩
  have i5 : ((n : Int) == C) = true := by rw [beq_iff_eq]; exact h5
  have eR : R = ma.all argB := by
    rw [Bool.eq_iff_iff, hmb, List.all_eq_true]
    exact ⟨fun h => h.2.2.2.2.2, fun h => ⟨h1, inJ_iff.1 h2, h3, hk, h5, h⟩⟩
  rw [← eR] at q5
  have ⟨H_hmb, H_q1, H_q2, H_q3, H_q4, H_q5, H_cc, H_h1⟩ := hid8 hmb q1 q2 q3 q4 q5 cc h1; clear hmb q1 q2 q3 q4 q5 cc h1; have ⟨H_h2, H_h3, H_h4, H_h5, H_hno, H_eR⟩ := hid6 h2 h3 h4 h5 hno eR; clear h2 h3 h4 h5 hno eR
  go_enter Tryd.func36, Tryd.ntmps36
  go_upto_region 2 with (fail)
  rw [H_hw0.out]
  go_wp2_with fail
  (with_reducible refine (H_q1.out _).mono ?_)
  rintro e w_ ⟨rfl, hw_⟩
  subst hw_
  go_wp2_with fail
  (with_reducible refine (H_q2.out _).mono ?_)
  rintro e w_ ⟨rfl, hw_⟩
  subst hw_
  go_wp2_with fail
  (with_reducible refine (H_q3.out _).mono ?_)
  rintro e w_ ⟨rfl, hw_⟩
  subst hw_
  go_wp2_with fail
  (with_reducible refine (H_q4.out _).mono ?_)
  rintro e w_ ⟨rfl, hw_⟩
  subst hw_
  go_upto_region 4 with (fail)
  refine wp_region_held_drew (S := (fun W => (∀ b o, b < w0.heap.size → W.cell? ⟨b, o, none⟩ = w0.cell? ⟨b, o, none⟩) ∧ Below w0.heap.size w0 W)) (by kernel_rfl) ?_ (fun hHeld => ?_)
  · (try dsimp only); (first | (refine ext_mk ?_; exact belt))
  refine take_at (i := 0) (some 26) rfl rfl (by kernel_rfl) (fun _ _ _ h => h) (by rfl) (v := ?_) ?_ (by assumption) ?_
  rotate_left
  · intro W hSw; (try dsimp only at hSw); go_simp; (try with_reducible rfl)
  (try simp only [apz])
  refine take_at (i := 1) (some 27) rfl rfl (by kernel_rfl) (fun _ _ _ h => h) (by rfl) (v := ?_) ?_ (by assumption) ?_
  rotate_left
  · intro W hSw; (try dsimp only at hSw); go_simp; (try with_reducible rfl)
  (try simp only [apz])
  refine take_at (i := 2) (some 28) rfl rfl (by kernel_rfl) (fun _ _ _ h => h) (by rfl) (v := ?_) ?_ (by assumption) ?_
  rotate_left
  · intro W hSw; (try dsimp only at hSw); go_simp; (try with_reducible rfl)
  (try simp only [apz])
  refine take_at (i := 3) (some 29) rfl rfl (by kernel_rfl) (fun _ _ _ h => h) (by rfl) (v := ?_) ?_ (by assumption) ?_
  rotate_left
  · intro W hSw; (try dsimp only at hSw); go_simp; (try with_reducible rfl)
  (try simp only [apz])
  refine take_at (i := 4) (some 30) rfl rfl (by kernel_rfl) (fun _ _ _ h => h) (by rfl) (v := ?_) ?_ (by assumption) ?_
  rotate_left
  · intro W hSw; (try dsimp only at hSw); go_simp; (try with_reducible rfl)
  (try simp only [apz])
  refine take_at (i := 5) (some 31) rfl rfl (by kernel_rfl) (fun _ _ _ h => h) (by rfl) (v := ?_) ?_ (by assumption) ?_
  rotate_left
  · intro W hSw; (try dsimp only at hSw); go_simp; (try with_reducible rfl)
  (try simp only [apz])
  refine take_at (i := 6) (some 32) rfl rfl (by kernel_rfl) (fun _ _ _ h => h) (by rfl) (v := ?_) ?_ (by assumption) ?_
  rotate_left
  · intro W hSw; (try dsimp only at hSw); go_simp; (try with_reducible rfl)
  (try simp only [apz])
  refine take_at (i := 7) (some 33) rfl rfl (by kernel_rfl) (fun _ _ _ h => h) (by rfl) (v := ?_) ?_ (by assumption) ?_
  rotate_left
  · intro W hSw; (try dsimp only at hSw); go_simp; (try with_reducible rfl)
  (try simp only [apz])
  refine take_at (i := 8) (some 34) rfl rfl (by kernel_rfl) (fun _ _ _ h => h) (by rfl) (v := ?_) ?_ (by assumption) ?_
  rotate_left
  · intro W hSw; (try dsimp only at hSw); go_simp; (try with_reducible rfl)
  (try simp only [apz])
  refine take_at (i := 9) (some 35) rfl rfl (by kernel_rfl) (fun _ _ _ h => h) (by rfl) (v := ?_) ?_ (by assumption) ?_
  rotate_left
  · intro W hSw; (try dsimp only at hSw); go_simp; (try with_reducible rfl)
  (try simp only [apz])
  refine take_at (i := 10) (some 36) rfl rfl (by kernel_rfl) (fun _ _ _ h => h) (by rfl) (v := ?_) ?_ (by assumption) ?_
  rotate_left
  · intro W hSw; (try dsimp only at hSw); go_simp; (try with_reducible rfl)
  (try simp only [apz])
  refine take_at (i := 11) (some 37) rfl rfl (by kernel_rfl) (fun _ _ _ h => h) (by rfl) (v := ?_) ?_ (by assumption) ?_
  rotate_left
  · intro W hSw; (try dsimp only at hSw); go_simp; (try with_reducible rfl)
  (try simp only [apz])
  refine wpAnyH_ready (rs := [12]) (by kernel_rfl) (by simp) ?_
  refine AllReadyH.cons rfl (fun K hK => ?_) AllReadyH.nil
  go_simp
  (go_at_call 60; (with_reducible refine (H_q5.out _ ?_).mono ?_); (focus (exact H_l0.out.below (And.right (by assumption : _ ∧ Below w0.heap.size w0 _)))); rintro e w5 ⟨rfl, hbw5⟩; have gw5 := Below.trans (And.right (by assumption : _ ∧ Below w0.heap.size w0 _)) (hbw5.mono (Below.size (And.right (by assumption : _ ∧ Below w0.heap.size w0 _)))); have gsw5 := gw5.size; have hcf := bcell hbw5; have hcw5 := hcf.1; have hfw5 := hcf.2; have hsw5 := hbw5.size; (try simp only [World.size_alloc, World.heap_drewN, heap_drew] at hsw5); clear hbw5 hcf; (try have hzw5 : w0.heap.size < w5.heap.size := by omega))
  refine hK.out _ _ ?_ (fun hHeld => ?_)
  · (try dsimp only); (first | (refine ext_mk ?_; exact belt))
  clear hK K
  (try simp only [apz])
  refine take_at (i := 13) (some 39) rfl rfl (by kernel_rfl) (fun _ _ _ h => h) (by rfl) (v := ?_) ?_ (by assumption) ?_
  rotate_left
  · intro W hSw; (try dsimp only at hSw); go_simp; (try with_reducible rfl)
  (try simp only [apz])
  refine take_at (i := 14) (some 40) rfl rfl (by kernel_rfl) (fun _ _ _ h => h) (by rfl) (v := ?_) ?_ (by assumption) ?_
  rotate_left
  · intro W hSw; (try dsimp only at hSw); go_simp; (try with_reducible rfl)
  (try simp only [apz])
  refine take_at (i := 15) (some 2) rfl rfl (by kernel_rfl) (fun _ _ _ h => h) (by rfl) (v := ?_) ?_ (by assumption) ?_
  rotate_left
  · intro W hSw; (try dsimp only at hSw); go_simp; (try with_reducible rfl)
  (try simp only [apz])
  refine wpAnyH_done (by kernel_rfl) ?_ _
  have gF : Below w0.heap.size w0 _ := And.right (by assumption)
  go_wp2_with fail
  go_ret
  exact ⟨ret_bool (by simp), H_bb0.out.trans (gF.mono H_bb0.out.size)⟩
theorem infoJI : (Tryd.prog.info? 3).map (fun i => (i.zero, i.size, i.bytes)) = some (some (.int .i64 0), 1, 8) := by kernel_rfl
set_option maxHeartbeats 4000000 in
theorem jints_any (m : Msg) (hn : m.a.length ≤ 100000) (w : World) (hl : IntsAt w m.A .i64 m.a) :
    Calls Tryd.prog 37 #[.agg m.cells.toArray] w fun e w' => ∃ A c, e = .returned (.slice A (4 + m.a.length) c) ∧ OwnInts w' w.heap.size 3 .i64 A c (msI m) ∧ Below w.heap.size w w' := by
  obtain ⟨i0, hi, hz0, hz1, hz2⟩ := info_parts infoJI
  obtain ⟨n, hln⟩ : ∃ n, m.a.length = n := ⟨_, rfl⟩
  have e0 : m.cells.toArray = #[.int .i64 m.p, .int .i64 m.s, .int .i64 m.t, .int .i64 m.k, .slice m.A n m.c] := by rw [← hln]; rfl
  rw [e0]
  rw [hln] at hn ⊢
  obtain ⟨w0, hw0⟩ : ∃ W, w.alloc (.cells #[.int .i64 m.p, .int .i64 m.s, .int .i64 m.t, .int .i64 m.k, .slice m.A n m.c] 47) = W := ⟨_, rfl⟩
  have bb0 : Below w.heap.size w w0 := by rw [← hw0]; exact (Below.refl _ _).alloc (Nat.le_refl _) _
  have k0 : Blk w0 w.heap.size #[.int .i64 m.p, .int .i64 m.s, .int .i64 m.t, .int .i64 m.k, .slice m.A n m.c] := by rw [← hw0]; exact blk_new rfl
  have l0 := hl.below bb0
  have eI : msI m = [m.p, m.s, m.t, m.k] ++ m.a := rfl
  rw [eI]
  generalize m.p = mp at *
  generalize m.s = ms at *
  generalize m.t = mt at *
  generalize m.k = mk at *
  generalize m.A = mA at *
  generalize m.c = mc at *
  generalize m.a = ma at *
  clear e0 eI
  have s0 := bb0.size
  have ⟨H_hw0, H_bb0, H_k0, H_l0, H_hl, H_hln, H_hi, H_hz0⟩ := hid8 hw0 bb0 k0 l0 hl hln hi hz0; clear hw0 bb0 k0 l0 hl hln hi hz0; have ⟨H_hz1, H_hz2⟩ := hid2 hz1 hz2; clear hz1 hz2
  have y0 := (H_k0.out 0 _ rfl).at
  have y1 := (H_k0.out 1 _ rfl).at
  have y2 := (H_k0.out 2 _ rfl).at
  have y3 := (H_k0.out 3 _ rfl).at
  have y4 := (H_k0.out 4 _ rfl).at
  have ly := (H_k0.out 0 _ rfl).lt
  go_enter Tryd.func37, Tryd.ntmps37
  go_upto_region 1 with (fail)
  rw [H_hw0.out]
  go_wp2_with (at_builtin; refine wp_app_at _ rfl (.tmp 11) (.tmp 13) _ rfl w0.heap.size 3 i0 _ 8 Tryd.underlying45 H_hi.out H_hz0.out H_hz1.out H_hz2.out rfl .i64 (some ⟨w0.heap.size, 0, none⟩) 4 4 [mp, ms, mt, mk] rfl rfl (own_lit (w := w0) [mp, ms, mt, mk] (Nat.le_refl _) (by simp) _ rfl) mA mc n ma H_hln.out rfl (H_l0.out.alloc _) (by omega) (by omega) (by simp) ?_)
  intro A2 c2 w2 own2 g2 _
  have b2 : Below w.heap.size w w2 := (H_bb0.out.alloc s0 _).grown g2 (by simp; omega) (fun g hg => by cases hg; exact s0)
  have own3 := own2.base_le s0
  have ⟨H_own2, H_g2, H_b2, H_own3⟩ := hid4 own2 g2 b2 own3; clear own2 g2 b2 own3
  go_wp2_with fail
  go_ret
  exact ⟨A2, c2, rfl, H_own3.out, H_b2.out⟩
end Go.Proofs.YtmbmejclnagffaaDoor

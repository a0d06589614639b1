/- Package journal: isFormed, walked. -/
import Derived.Test.YtmbmejclnagffaaDoorM33
set_option linter.unusedSimpArgs false
set_option linter.unusedVariables false
set_option maxRecDepth 100000
namespace Go.Proofs.YtmbmejclnagffaaDoor
open Go.RowKit
section
attribute [local go_sem] Oper.semAt_some
set_option maxRecDepth 100000 in
set_option maxHeartbeats 16000000 in
theorem jformed_any (A : Option Addr) (cp n : Nat) (ms : List Msg) (h : Hd) (party : Int) (hln : ms.length = n) (hn : n ≤ 9223372036854775807) (hf : HFit h) (hp : -9223372036854775808 ≤ party ∧ party ≤ 9223372036854775807) (w : World) (hl : Msgs w A ms) (ht : Tab w) (hc : Cnt w) :
    Calls Tryd.prog 40 #[.agg #[.slice A n cp, .int .i64 h.p, .int .i64 h.n, .int .u64 h.c, .int .i64 h.e, .int .i64 h.s], .int .i64 party] w fun e w' => e = .returned (.bool (frmB ms h party)) ∧ Below w.heap.size w w' := by
  obtain ⟨w0, hw0⟩ : ∃ W, (w.alloc (.cells #[.slice A n cp, .int .i64 h.p, .int .i64 h.n, .int .u64 h.c, .int .i64 h.e, .int .i64 h.s] 35)).alloc (.cells #[.bool false] 4) = W := ⟨_, rfl⟩
  have bb0 : Below w.heap.size w w0 := by rw [← hw0]; exact ((Below.refl _ _).alloc (Nat.le_refl _) _).alloc (by simp) _
  have k0 : Blk w0 w.heap.size #[.slice A n cp, .int .i64 h.p, .int .i64 h.n, .int .u64 h.c, .int .i64 h.e, .int .i64 h.s] := by rw [← hw0]; exact (blk_new rfl).alloc _
  have r0 : Blk w0 (w.heap.size + 1) #[.bool false] := by rw [← hw0]; exact blk_new (by simp)
  have l0 := hl.below bb0
  have t0 := ht.below bb0
  have c0 := hc.below bb0
  have s0 : w.heap.size + 1 < w0.heap.size := by rw [← hw0]; simp
  by_cases hn5 : 5000 < n
  · have e : frmB ms h party = false := by simp [frmB]; intro h1; omega
    rw [e]
    have g1 : (5000 : Int) < (n : Int) := by omega
    have ⟨H_hw0, H_bb0, H_k0, H_r0, H_l0, H_t0, H_c0, H_hl⟩ := hid8 hw0 bb0 k0 r0 l0 t0 c0 hl; clear hw0 bb0 k0 r0 l0 t0 c0 hl; have ⟨H_ht, H_hc, H_hln, H_hf, H_e⟩ := hid5 ht hc hln hf e; clear ht hc hln hf e
    go_enter Tryd.func40, Tryd.ntmps40
    go_upto_region 1 with (fail)
    rw [H_hw0.out]
    have v0 := (H_k0.out 0 _ rfl).at
    have v1 := (H_k0.out 1 _ rfl).at
    have v2 := (H_k0.out 2 _ rfl).at
    have v3 := (H_k0.out 3 _ rfl).at
    have v4 := (H_k0.out 4 _ rfl).at
    have v5 := (H_k0.out 5 _ rfl).at
    have u0 := (H_r0.out 0 _ rfl).at
    have f0 := (H_r0.out 0 _ rfl).free
    have gw9 : Below w.heap.size w (w0.setCell ⟨w.heap.size + 1, 0, none⟩ (.bool false)) := H_bb0.out.setCell (by simp) _
    have H_gw9 := Lib.hid gw9; clear gw9
    go_wp2_with fail
    refine bodyPost_ret (v := .bool false) (by simp [results, Tryd.results40, go_sem, *]) rfl ⟨rfl, H_gw9.out⟩
  have hn5' : n ≤ 5000 := by omega
  have g1 : ¬ (5000 : Int) < (n : Int) := by omega
  have q1 := fun W => jfaults_any A n cp party W
  have ⟨H_hw0, H_bb0, H_k0, H_r0, H_l0, H_t0, H_c0, H_hl⟩ := hid8 hw0 bb0 k0 r0 l0 t0 c0 hl; clear hw0 bb0 k0 r0 l0 t0 c0 hl; have ⟨H_ht, H_hc, H_hln, H_hf, H_q1⟩ := hid5 ht hc hln hf q1; clear ht hc hln hf q1
  refine calls_of_marks Tryd.func40 rfl ?_
  simp only [Tryd.ntmps40, List.size_toArray, List.length_cons, List.length_nil, Nat.reduceAdd, Nat.reduceSub, Array.replicate_succ, Array.replicate_zero, List.push_toArray, List.append_toArray, List.nil_append, List.cons_append]
  go_upto_region 1 with (fail)
  rw [H_hw0.out]
  have v0 := (H_k0.out 0 _ rfl).at
  have v1 := (H_k0.out 1 _ rfl).at
  have v2 := (H_k0.out 2 _ rfl).at
  have v3 := (H_k0.out 3 _ rfl).at
  have v4 := (H_k0.out 4 _ rfl).at
  have v5 := (H_k0.out 5 _ rfl).at
  have u0 := (H_r0.out 0 _ rfl).at
  go_wp2_with fail
  (with_reducible refine (H_q1.out _).mono ?_)
  rintro e w2 ⟨rfl, hw2⟩
  clear v0 v1 v2 v3 v4 v5
  clear u0
  have d2 : Below w0.heap.size w0 w2 := by rw [hw2]; exact ((Below.refl _ _).alloc (Nat.le_refl _) _).alloc (by simp) _
  have bb2 := H_bb0.out.trans (d2.mono H_bb0.out.size)
  have s2 : w0.heap.size + 1 < w2.heap.size := by rw [hw2]; simp
  have l2 := H_l0.out.below d2
  have t2 := H_t0.out.below d2
  have c2 := H_c0.out.below d2
  have k2 := H_k0.out.below d2
  have r2 := H_r0.out.below d2
  have cL : w2.cell? ⟨w0.heap.size, 0, none⟩ = some (.slice A n cp) := by rw [hw2]; go_simp
  have cP : w2.cell? ⟨w0.heap.size + 1, 0, none⟩ = some (.int .i64 party) := by rw [hw2]; go_simp
  have it := jfaults_stops 4 (by omega) w0.heap.size (w0.heap.size + 1) A cp n ms party H_hln.out hn5' w2 l2 c2 (by omega) (by omega) cL cP
  have ⟨H_hw2, H_d2, H_bb2, H_l2, H_t2, H_c2, H_k2, H_r2⟩ := hid8 hw2 d2 bb2 l2 t2 c2 k2 r2; clear hw2 d2 bb2 l2 t2 c2 k2 r2; have ⟨H_cL, H_cP, H_it⟩ := hid3 cL cP it; clear cL cP it
  go_wp2_with fail
  refine wp_range1 (gf := 72) rfl (enters_of Tryd.func72 (by kernel_rfl) rfl) H_it.out (fun pre W => pre = [] ∧ Below w2.heap.size w2 W) (fun c _ W => (c = .ret ∧ W.cell? ⟨w.heap.size + 1, 0, none⟩ = some (.bool false)) ∧ Below w.heap.size w W)
    (OwnFrom.and (ownFrom_pure _ _) (ownFrom_below (Nat.le_refl _) (Nat.le_refl _))) (fun c => OwnFrom.and (Own.from (fun s A B row hs hg hr => ⟨hs.1, cell_kept hs.2 hg hr⟩) _) (ownFrom_below (Nat.le_refl _) (by omega))) ⟨rfl, Below.refl _ _⟩ ?body ?done ?stop
  case body =>
    rintro l pre x W ⟨rfl, bW⟩
    have rW := H_r2.out.below bW
    have uW := (rW 0 _ rfl).at
    have fW := (rW 0 _ rfl).free
    have bbW := H_bb2.out.trans (bW.mono H_bb2.out.size)
    have ⟨H_bW, H_bbW, H_rW⟩ := hid3 bW bbW rW; clear bW bbW rW
    gi_wp2_with fail
    exact ⟨KeepsOthers.setCell _ _ _, ⟨rfl, World.cell?_setCell_same' _ _ _ (by rw [uW]; rfl)⟩, H_bbW.out.setCell (by simp) _⟩
  case stop =>
    rintro D c pre W hD hbad ⟨⟨rfl, hcell⟩, hB⟩ hK
    have e := frm_false (h := h) hbad
    have ⟨H_e, H_hB⟩ := hid2 e hB; clear e hB
    go_wp2_with fail
    refine ⟨by simp, .inl ⟨_, _, rfl, run_takeDeferred hK, ?_⟩⟩
    have hc5 := cell_kept hcell (grownBy_putObj' _ D (.deferred none)) (fun r e => by cases e; exact ⟨_, hK, rfl⟩)
    refine ⟨.bool false, ?_, by rw [H_e.out], H_hB.out.trans (belowK_b (w := w) (Nat.le_refl _) W D _ _ (by omega) hK rfl rfl)⟩
    simp [results, Tryd.results40, go_sem, hc5]
  case done =>
    rintro D xs W hD hok ⟨rfl, bW⟩ hK
    dsimp only
    have hok := hok rfl
    have hv := okL_all hok
    have bbW := H_bb2.out.trans (bW.mono H_bb2.out.size)
    have kW := H_k2.out.below bW
    have rW := H_r2.out.below bW
    have sW := bW.size
    have q2 := jnewHead_any A cp n ms party H_hln.out hn5' hv W (H_l2.out.below bW) (H_t2.out.below bW)
    have hzD : D < W.heap.size := (Array.getElem?_eq_some_iff.1 hK).1
    have e2 : h.cells.toArray = #[.int .i64 h.p, .int .i64 h.n, .int .u64 h.c, .int .i64 h.e, .int .i64 h.s] := rfl
    by_cases h0 : n = 0
    · have hnil : ms = [] := List.eq_nil_of_length_eq_zero (H_hln.out.trans h0)
      have g3 : ¬ (0 : Int) < (n : Int) := by omega
      have e := frm_nil h party
      rw [← hnil] at e
      have qe := fun W => eq_head hd0 h ⟨by decide, by decide, by decide, by decide, by decide⟩ H_hf.out W
      have e0 : (newH ms party).cells.toArray = #[.int .i64 0, .int .i64 0, .int .u64 0, .int .i64 0, .int .i64 0] := by rw [newH, if_pos hnil]; rfl
      have e1 : hd0.cells.toArray = #[.int .i64 0, .int .i64 0, .int .u64 0, .int .i64 0, .int .i64 0] := rfl
      rw [e0] at q2
      rw [e1, e2] at qe
      clear e0 e1 e2
      generalize heqB hd0 h = R at *
      generalize h.p = p1 at *
      generalize h.n = p2 at *
      generalize h.c = p3 at *
      generalize h.e = p4 at *
      generalize h.s = p5 at *
      have ⟨H_hok, H_hv, H_bW, H_bbW, H_kW, H_rW, H_q2, H_e⟩ := hid8 hok hv bW bbW kW rW q2 e; clear hok hv bW bbW kW rW q2 e; have ⟨H_hnil, H_qe, H_hK, H_h0⟩ := hid4 hnil qe hK h0; clear hnil qe hK h0
      have v0 := (H_kW.out 0 _ rfl).at
      have v1 := (H_kW.out 1 _ rfl).at
      have v2 := (H_kW.out 2 _ rfl).at
      have v3 := (H_kW.out 3 _ rfl).at
      have v4 := (H_kW.out 4 _ rfl).at
      have v5 := (H_kW.out 5 _ rfl).at
      go_wp2_with fail
      (with_reducible refine H_q2.out.mono ?_)
      rintro e w5 ⟨rfl, b5⟩
      have k5 := H_kW.out.below b5
      have r5 := H_rW.out.below b5
      have bb5 := H_bbW.out.trans (b5.mono H_bbW.out.size)
      have s5 := b5.size
      have K5 := (b5.block D hzD).trans H_hK.out
      clear v0 v1 v2 v3 v4 v5
      have ⟨H_k5, H_r5, H_bb5, H_b5, H_K5⟩ := hid5 k5 r5 bb5 b5 K5; clear k5 r5 bb5 b5 K5
      have v0 := (H_k5.out 0 _ rfl).at
      have v1 := (H_k5.out 1 _ rfl).at
      have v2 := (H_k5.out 2 _ rfl).at
      have v3 := (H_k5.out 3 _ rfl).at
      have v4 := (H_k5.out 4 _ rfl).at
      have v5 := (H_k5.out 5 _ rfl).at
      go_upto_region 6 with (fail)
      obtain ⟨w7, hw7⟩ : ∃ W, w5.alloc (.cells #[.int .i64 0, .int .i64 0, .int .u64 0, .int .i64 0, .int .i64 0] 33) = W := ⟨_, rfl⟩
      rw [hw7]
      have d7 : Below w5.heap.size w5 w7 := by rw [← hw7]; exact (Below.refl _ _).alloc (Nat.le_refl _) _
      have y7 : Blk w7 w5.heap.size #[.int .i64 0, .int .i64 0, .int .u64 0, .int .i64 0, .int .i64 0] := by rw [← hw7]; exact blk_new rfl
      have k7 := H_k5.out.below d7
      have r7 := H_r5.out.below d7
      have bb7 := H_bb5.out.trans (d7.mono H_bb5.out.size)
      have K7 := (d7.block D (by omega)).trans H_K5.out
      clear v0 v1 v2 v3 v4 v5
      have ⟨H_hw7, H_d7, H_y7, H_k7, H_r7, H_bb7, H_K7⟩ := hid7 hw7 d7 y7 k7 r7 bb7 K7; clear hw7 d7 y7 k7 r7 bb7 K7
      have v0 := (H_k7.out 0 _ rfl).at
      have v1 := (H_k7.out 1 _ rfl).at
      have v2 := (H_k7.out 2 _ rfl).at
      have v3 := (H_k7.out 3 _ rfl).at
      have v4 := (H_k7.out 4 _ rfl).at
      have v5 := (H_k7.out 5 _ rfl).at
      have y0 := (H_y7.out 0 _ rfl).at
      have y1 := (H_y7.out 1 _ rfl).at
      have y2 := (H_y7.out 2 _ rfl).at
      have y3 := (H_y7.out 3 _ rfl).at
      have y4 := (H_y7.out 4 _ rfl).at
      have f7 := (H_r7.out 0 _ rfl).free
      have x7 := (H_r7.out 0 _ rfl).at
      have qe := H_qe.out
      go_wp2_with fail
      have hK8 := (KeepsOthers.setCell w7 ⟨w.heap.size + 1, 0, none⟩ (.bool R)).same D _ H_K7.out rfl
      have u7 := (H_r7.out 0 _ rfl).at
      have gz : Below w.heap.size w (w7.setCell ⟨w.heap.size + 1, 0, none⟩ (.bool R)) := H_bb7.out.setCell (by simp) _
      have hc5 := cell_kept (World.cell?_setCell_same' w7 ⟨w.heap.size + 1, 0, none⟩ (.bool R) (by rw [u7]; rfl)) (grownBy_putObj' _ D (.deferred none)) (fun r e => by cases e; exact ⟨_, hK8, rfl⟩)
      refine ⟨by simp, .inl ⟨_, _, rfl, run_takeDeferred hK8, ?_⟩⟩
      refine ⟨.bool R, ?_, by rw [H_e.out], gz.trans (belowK_b (w := w) (Nat.le_refl _) _ D _ _ (by omega) hK8 rfl rfl)⟩
      simp [results, Tryd.results40, go_sem, hc5]
    · have hne : ms ≠ [] := by intro e; have := H_hln.out; rw [e] at this; simp at this; omega
      have g3 : (0 : Int) < (n : Int) := by omega
      have e := frm_cons (h := h) (party := party) hne (by rw [H_hln.out]; exact hn5') hok
      have e0 := newH_cells ms party hne
      rw [H_hln.out] at e e0
      rw [e0] at q2
      have ci := chI_in ms
      have qe := fun W => eq_head ⟨party, n, chI ms, h.e, h.s⟩ h ⟨hp, ⟨by show _ ≤ (n : Int); omega, by show (n : Int) ≤ _; omega⟩, ci, H_hf.out.e, H_hf.out.s⟩ H_hf.out W
      have e1 : (Hd.mk party n (chI ms) h.e h.s).cells.toArray = #[.int .i64 party, .int .i64 (n : Int), .int .u64 (chI ms), .int .i64 h.e, .int .i64 h.s] := rfl
      rw [e1, e2] at qe
      clear e0 e1 e2
      generalize heqB ⟨party, n, chI ms, h.e, h.s⟩ h = R at *
      generalize chI ms = CH at *
      generalize h.p = p1 at *
      generalize h.n = p2 at *
      generalize h.c = p3 at *
      generalize h.e = p4 at *
      generalize h.s = p5 at *
      have ⟨H_hok, H_hv, H_bW, H_bbW, H_kW, H_rW, H_q2, H_e⟩ := hid8 hok hv bW bbW kW rW q2 e; clear hok hv bW bbW kW rW q2 e; have ⟨H_hne, H_qe, H_hK⟩ := hid3 hne qe hK; clear hne qe hK
      have v0 := (H_kW.out 0 _ rfl).at
      have v1 := (H_kW.out 1 _ rfl).at
      have v2 := (H_kW.out 2 _ rfl).at
      have v3 := (H_kW.out 3 _ rfl).at
      have v4 := (H_kW.out 4 _ rfl).at
      have v5 := (H_kW.out 5 _ rfl).at
      go_wp2_with fail
      (with_reducible refine H_q2.out.mono ?_)
      rintro e w5 ⟨rfl, b5⟩
      have k5 := H_kW.out.below b5
      have r5 := H_rW.out.below b5
      have bb5 := H_bbW.out.trans (b5.mono H_bbW.out.size)
      have s5 := b5.size
      have K5 := (b5.block D hzD).trans H_hK.out
      clear v0 v1 v2 v3 v4 v5
      have ⟨H_k5, H_r5, H_bb5, H_b5, H_K5⟩ := hid5 k5 r5 bb5 b5 K5; clear k5 r5 bb5 b5 K5
      have v0 := (H_k5.out 0 _ rfl).at
      have v1 := (H_k5.out 1 _ rfl).at
      have v2 := (H_k5.out 2 _ rfl).at
      have v3 := (H_k5.out 3 _ rfl).at
      have v4 := (H_k5.out 4 _ rfl).at
      have v5 := (H_k5.out 5 _ rfl).at
      go_upto_region 6 with (fail)
      obtain ⟨w6, hw6⟩ : ∃ W, w5.alloc (.cells #[.int .i64 party, .int .i64 (n : Int), .int .u64 CH, .int .i64 0, .int .i64 0] 33) = W := ⟨_, rfl⟩
      rw [hw6]
      have d6 : Below w5.heap.size w5 w6 := by rw [← hw6]; exact (Below.refl _ _).alloc (Nat.le_refl _) _
      have y6 : Blk w6 w5.heap.size #[.int .i64 party, .int .i64 (n : Int), .int .u64 CH, .int .i64 0, .int .i64 0] := by rw [← hw6]; exact blk_new rfl
      have k6 := H_k5.out.below d6
      have r6 := H_r5.out.below d6
      clear v0 v1 v2 v3 v4 v5
      have ⟨H_hw6, H_y6, H_k6, H_r6⟩ := hid4 hw6 y6 k6 r6; clear hw6 y6 k6 r6
      have v0 := (H_k6.out 0 _ rfl).at
      have v1 := (H_k6.out 1 _ rfl).at
      have v2 := (H_k6.out 2 _ rfl).at
      have v3 := (H_k6.out 3 _ rfl).at
      have v4 := (H_k6.out 4 _ rfl).at
      have v5 := (H_k6.out 5 _ rfl).at
      have y0 := (H_y6.out 0 _ rfl).at
      have y1 := (H_y6.out 1 _ rfl).at
      have y2 := (H_y6.out 2 _ rfl).at
      have y3 := (H_y6.out 3 _ rfl).at
      have y4 := (H_y6.out 4 _ rfl).at
      have z0 := (H_y6.out 0 _ rfl).free
      have z1 := (H_y6.out 1 _ rfl).free
      have z2 := (H_y6.out 2 _ rfl).free
      have z3 := (H_y6.out 3 _ rfl).free
      have z4 := (H_y6.out 4 _ rfl).free
      have hn1 : w5.heap.size ≠ w.heap.size := by have := H_bb5.out.size; have := H_bb0.out.size; omega
      have hn2 : w5.heap.size ≠ w.heap.size + 1 := by omega
      go_upto_region 8 with (fail)
      obtain ⟨w7, hw7⟩ : ∃ W, (w6.setCell ⟨w5.heap.size, 3, none⟩ (.int .i64 p4)).setCell ⟨w5.heap.size, 4, none⟩ (.int .i64 p5) = W := ⟨_, rfl⟩
      rw [hw7]
      have d7 : Below w5.heap.size w5 w7 := by rw [← hw7]; exact (d6.setCell (Nat.le_refl _) _).setCell (Nat.le_refl _) _
      have y7 : Blk w7 w5.heap.size #[.int .i64 party, .int .i64 (n : Int), .int .u64 CH, .int .i64 p4, .int .i64 p5] := by rw [← hw7]; exact (H_y6.out.set 3 _ (by simp)).set 4 _ (by simp)
      have k7 := H_k5.out.below d7
      have r7 := H_r5.out.below d7
      have bb7 := H_bb5.out.trans (d7.mono H_bb5.out.size)
      have K7 := (d7.block D (by omega)).trans H_K5.out
      clear v0 v1 v2 v3 v4 v5
      clear y0 y1 y2 y3 y4
      clear z0 z1 z2 z3 z4
      have ⟨H_hw7, H_d7, H_y7, H_k7, H_r7, H_bb7, H_K7⟩ := hid7 hw7 d7 y7 k7 r7 bb7 K7; clear hw7 d7 y7 k7 r7 bb7 K7
      have v0 := (H_k7.out 0 _ rfl).at
      have v1 := (H_k7.out 1 _ rfl).at
      have v2 := (H_k7.out 2 _ rfl).at
      have v3 := (H_k7.out 3 _ rfl).at
      have v4 := (H_k7.out 4 _ rfl).at
      have v5 := (H_k7.out 5 _ rfl).at
      have y0 := (H_y7.out 0 _ rfl).at
      have y1 := (H_y7.out 1 _ rfl).at
      have y2 := (H_y7.out 2 _ rfl).at
      have y3 := (H_y7.out 3 _ rfl).at
      have y4 := (H_y7.out 4 _ rfl).at
      have f7 := (H_r7.out 0 _ rfl).free
      have x7 := (H_r7.out 0 _ rfl).at
      have qe := H_qe.out
      go_wp2_with fail
      have hK8 := (KeepsOthers.setCell w7 ⟨w.heap.size + 1, 0, none⟩ (.bool R)).same D _ H_K7.out rfl
      have u7 := (H_r7.out 0 _ rfl).at
      have gz : Below w.heap.size w (w7.setCell ⟨w.heap.size + 1, 0, none⟩ (.bool R)) := H_bb7.out.setCell (by simp) _
      have hc5 := cell_kept (World.cell?_setCell_same' w7 ⟨w.heap.size + 1, 0, none⟩ (.bool R) (by rw [u7]; rfl)) (grownBy_putObj' _ D (.deferred none)) (fun r e => by cases e; exact ⟨_, hK8, rfl⟩)
      refine ⟨by simp, .inl ⟨_, _, rfl, run_takeDeferred hK8, ?_⟩⟩
      refine ⟨.bool R, ?_, by rw [H_e.out], gz.trans (belowK_b (w := w) (Nat.le_refl _) _ D _ _ (by omega) hK8 rfl rfl)⟩
      simp [results, Tryd.results40, go_sem, hc5]
end
end Go.Proofs.YtmbmejclnagffaaDoor

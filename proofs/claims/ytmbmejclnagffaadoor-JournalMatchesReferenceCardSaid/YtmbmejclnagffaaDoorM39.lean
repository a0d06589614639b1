/- Contracts of innkeeperref39: SameInts, Same. -/
import Derived.BigQuiet
import Derived.Test.YtmbmejclnagffaaDoorM38
set_option linter.unusedSimpArgs false
set_option linter.unusedVariables false
set_option maxRecDepth 100000
namespace Go.Proofs.YtmbmejclnagffaaDoor
open Go.RowKit
set_option maxHeartbeats 1000000 in
theorem jsameInts_any (A B : Option Addr) (c d : Nat) (l m : List Int) (w : World) (hl : IntsAt w A .i64 l) (hm : IntsAt w B .i64 m) (hn : l.length ≤ 1000000) (hn2 : m.length ≤ 1000000) :
    Calls Tryd.prog 17 #[.slice A l.length c, .slice B m.length d] w fun e w' => e = .returned (.bool (sameB l m)) ∧ ∃ q, w' = w.drewN q := by
  by_cases hne : l.length = m.length
  · have hd : ((l.length : Int) != (m.length : Int)) = false := by simp [hne]
    generalize hN : l.length = N at *
    generalize hM : m.length = M at *
    have hs := @list_eq_of l m (by omega)
    have ⟨H_hl, H_hm, H_hN, H_hM, H_hne, H_hs⟩ := hid6 hl hm hN hM hne hs; clear hl hm hN hM hne hs
    go_enter Tryd.func17, Tryd.ntmps17
    go_wp2
    go_loopw [5] (fun i wr => ∃ k q : Nat, k ≤ N ∧ i = .int .i64 k ∧ (∀ j, j < k → l.getD j 0 = m.getD j 0) ∧ wr = w.drewN q) (fun i _ => N - (intOf i).toNat)
    case atStart => exact ⟨0, 0, by omega, rfl, fun j hj => absurd hj (by omega), rfl⟩
    case round =>
      obtain ⟨k, q, hk, rfl, hall, rfl⟩ := hrel
      by_cases hlt : k < N
      · obtain ⟨b, off, hA, hbs, hc⟩ := H_hl.out k (by rw [H_hN.out]; exact hlt)
        obtain ⟨b2, off2, hA2, hbs2, hc2⟩ := H_hm.out k (by rw [H_hM.out]; have := H_hne.out; omega)
        have hltM : k < M := by have := H_hne.out; omega
        have i1 : (0 : Int) ≤ (k : Int) := by omega
        have i2 : (k : Int) < (N : Int) := by omega
        have i3 : (k : Int) < (M : Int) := by omega
        have hnx := @list_ne_at l m k
        subst hA hA2
        have hnext : l.getD k 0 = m.getD k 0 → ∀ j, j < k + 1 → l.getD j 0 = m.getD j 0 := fun he j hj => by
          rcases Nat.lt_or_ge j k with h | h
          · exact hall j h
          · rw [show j = k by omega]; exact he
        generalize l.getD k 0 = x at *
        generalize m.getD k 0 = y at *
        by_cases hxy : x = y
        · have hb : (x != y) = false := by simp [hxy]
          have ⟨H_hall, H_hnext, H_hnx, H_hxy⟩ := hid4 hall hnext hnx hxy; clear hall hnext hnx hxy
          go_wp2
          go_quiet (fail)
          go_wp2
          go_roundw
          case rel => exact ⟨k + 1, _, by omega, by go_num, H_hnext.out H_hxy.out, rfl⟩
          case measure => simp [intOf]; omega
        · have hb : (x != y) = true := by simp [hxy]
          have ⟨H_hall, H_hnext, H_hnx, H_hxy⟩ := hid4 hall hnext hnx hxy; clear hall hnext hnx hxy
          go_wp2
          go_quiet (fail)
          go_wp2
          go_ret
          exact ⟨ret_bool (H_hnx.out H_hxy.out).symm, _, World.drewN_drewN _ _ _⟩
      · have hfin : sameB l m = true := H_hs.out fun j hj => hall j (by rw [H_hN.out] at hj; omega)
        have ⟨H_hall, H_hfin⟩ := hid2 hall hfin; clear hall hfin
        go_wp2
        go_ret
        exact ⟨ret_bool H_hfin.out.symm, _, rfl⟩
  · have hd : ((l.length : Int) != (m.length : Int)) = true := by simp; omega
    have hz : sameB l m = false := by rw [Bool.eq_false_iff]; intro h; rw [sameB_iff] at h; exact hne (by rw [h])
    have ⟨H_hl, H_hm, H_hne, H_hz⟩ := hid4 hl hm hne hz; clear hl hm hne hz
    go_enter Tryd.func17, Tryd.ntmps17
    go_wp2
    go_ret
    exact ⟨ret_bool H_hz.out.symm, 0, rfl⟩
def sameM (x y : Msg) : Bool := decide (x.p = y.p) && decide (x.s = y.s) && decide (x.t = y.t) && decide (x.k = y.k) && sameB x.a y.a
theorem sameM_iff {x y : Msg} : sameM x y = true ↔ msI x = msI y := by
  simp only [sameM, Bool.and_eq_true, decide_eq_true_eq, sameB_iff, msI, List.cons.injEq, and_assoc]
set_option maxRecDepth 100000 in
set_option maxHeartbeats 8000000 in
theorem rsameM_any (x y : Msg) (hx : x.a.length ≤ 1000000) (hy : y.a.length ≤ 1000000) (w : World) (hl : IntsAt w x.A .i64 x.a) (hm : IntsAt w y.A .i64 y.a) :
    Calls Tryd.prog 18 #[.agg x.cells.toArray, .agg y.cells.toArray] w fun e w' => e = .returned (.bool (sameM x y)) ∧ Below w.heap.size w w' := by
  obtain ⟨N, hN⟩ : ∃ N, x.a.length = N := ⟨_, rfl⟩
  obtain ⟨M, hM⟩ : ∃ M, y.a.length = M := ⟨_, rfl⟩
  have ex : x.cells.toArray = #[.int .i64 x.p, .int .i64 x.s, .int .i64 x.t, .int .i64 x.k, .slice x.A N x.c] := by rw [← hN]; rfl
  have ey : y.cells.toArray = #[.int .i64 y.p, .int .i64 y.s, .int .i64 y.t, .int .i64 y.k, .slice y.A M y.c] := by rw [← hM]; rfl
  rw [ex, ey]
  obtain ⟨w0, hw0⟩ : ∃ W, (w.alloc (.cells #[.int .i64 x.p, .int .i64 x.s, .int .i64 x.t, .int .i64 x.k, .slice x.A N x.c] 47)).alloc (.cells #[.int .i64 y.p, .int .i64 y.s, .int .i64 y.t, .int .i64 y.k, .slice y.A M y.c] 47) = W := ⟨_, rfl⟩
  have bb0 : Below w.heap.size w w0 := by rw [← hw0]; exact ((Below.refl _ _).alloc (Nat.le_refl _) _).alloc (by simp) _
  have k0 : Blk w0 w.heap.size #[.int .i64 x.p, .int .i64 x.s, .int .i64 x.t, .int .i64 x.k, .slice x.A N x.c] := by rw [← hw0]; exact (blk_new rfl).alloc _
  have j0 : Blk w0 (w.heap.size + 1) #[.int .i64 y.p, .int .i64 y.s, .int .i64 y.t, .int .i64 y.k, .slice y.A M y.c] := by rw [← hw0]; exact blk_new (by simp)
  have l0 := hl.below bb0
  have m0 := hm.below bb0
  have hsm : sameM x y = (decide (x.p = y.p) && decide (x.s = y.s) && decide (x.t = y.t) && decide (x.k = y.k) && sameB x.a y.a) := rfl
  rw [hsm]
  clear hsm ex ey
  obtain ⟨xp, xs, xt, xk, xA, xc, l⟩ := x
  obtain ⟨yp, ys, yt, yk, yA, yc, m⟩ := y
  dsimp only at *
  generalize hR : (decide (xp = yp) && decide (xs = ys) && decide (xt = yt) && decide (xk = yk) && sameB l m) = R
  rw [hN] at hx
  rw [hM] at hy
  have ⟨H_hN, H_hM, H_hw0, H_bb0, H_k0, H_j0, H_l0, H_m0⟩ := hid8 hN hM hw0 bb0 k0 j0 l0 m0; clear hN hM hw0 bb0 k0 j0 l0 m0; have ⟨H_hl, H_hm⟩ := hid2 hl hm; clear hl hm
  by_cases h0 : xp = yp
  rotate_left
  · have n0a : (xp != yp) = true := by simp [h0]
    have n0b : (xp == yp) = false := by simp [h0]
    have hf : R = false := by rw [← hR]; simp [h0]
    have ⟨H_hf, H_h0⟩ := hid2 hf h0; clear hf h0
    have H_hR := Lib.hid hR; clear hR
    go_enter Tryd.func18, Tryd.ntmps18
    go_upto_region 1 with (fail)
    rw [H_hw0.out]
    have u0 := (H_k0.out 0 _ rfl).at
    have u1 := (H_k0.out 1 _ rfl).at
    have u2 := (H_k0.out 2 _ rfl).at
    have u3 := (H_k0.out 3 _ rfl).at
    have u4 := (H_k0.out 4 _ rfl).at
    have v0 := (H_j0.out 0 _ rfl).at
    have v1 := (H_j0.out 1 _ rfl).at
    have v2 := (H_j0.out 2 _ rfl).at
    have v3 := (H_j0.out 3 _ rfl).at
    have v4 := (H_j0.out 4 _ rfl).at
    go_wp2_with fail
    go_ret
    exact ⟨ret_bool H_hf.out.symm, H_bb0.out⟩
  have e0a : (xp != yp) = false := by simp [h0]
  have e0b : (xp == yp) = true := by simp [h0]
  by_cases h1 : xs = ys
  rotate_left
  · have n1a : (xs != ys) = true := by simp [h1]
    have n1b : (xs == ys) = false := by simp [h1]
    have hf : R = false := by rw [← hR]; simp [h1]
    have ⟨H_hf, H_h0, H_h1⟩ := hid3 hf h0 h1; clear hf h0 h1
    have H_hR := Lib.hid hR; clear hR
    go_enter Tryd.func18, Tryd.ntmps18
    go_upto_region 1 with (fail)
    rw [H_hw0.out]
    have u0 := (H_k0.out 0 _ rfl).at
    have u1 := (H_k0.out 1 _ rfl).at
    have u2 := (H_k0.out 2 _ rfl).at
    have u3 := (H_k0.out 3 _ rfl).at
    have u4 := (H_k0.out 4 _ rfl).at
    have v0 := (H_j0.out 0 _ rfl).at
    have v1 := (H_j0.out 1 _ rfl).at
    have v2 := (H_j0.out 2 _ rfl).at
    have v3 := (H_j0.out 3 _ rfl).at
    have v4 := (H_j0.out 4 _ rfl).at
    go_wp2_with fail
    go_ret
    exact ⟨ret_bool H_hf.out.symm, H_bb0.out⟩
  have e1a : (xs != ys) = false := by simp [h1]
  have e1b : (xs == ys) = true := by simp [h1]
  by_cases h2 : xt = yt
  rotate_left
  · have n2a : (xt != yt) = true := by simp [h2]
    have n2b : (xt == yt) = false := by simp [h2]
    have hf : R = false := by rw [← hR]; simp [h2]
    have ⟨H_hf, H_h0, H_h1, H_h2⟩ := hid4 hf h0 h1 h2; clear hf h0 h1 h2
    have H_hR := Lib.hid hR; clear hR
    go_enter Tryd.func18, Tryd.ntmps18
    go_upto_region 1 with (fail)
    rw [H_hw0.out]
    have u0 := (H_k0.out 0 _ rfl).at
    have u1 := (H_k0.out 1 _ rfl).at
    have u2 := (H_k0.out 2 _ rfl).at
    have u3 := (H_k0.out 3 _ rfl).at
    have u4 := (H_k0.out 4 _ rfl).at
    have v0 := (H_j0.out 0 _ rfl).at
    have v1 := (H_j0.out 1 _ rfl).at
    have v2 := (H_j0.out 2 _ rfl).at
    have v3 := (H_j0.out 3 _ rfl).at
    have v4 := (H_j0.out 4 _ rfl).at
    go_wp2_with fail
    go_ret
    exact ⟨ret_bool H_hf.out.symm, H_bb0.out⟩
  have e2a : (xt != yt) = false := by simp [h2]
  have e2b : (xt == yt) = true := by simp [h2]
  by_cases h3 : xk = yk
  rotate_left
  · have n3a : (xk != yk) = true := by simp [h3]
    have n3b : (xk == yk) = false := by simp [h3]
    have hf : R = false := by rw [← hR]; simp [h3]
    have ⟨H_hf, H_h0, H_h1, H_h2, H_h3⟩ := hid5 hf h0 h1 h2 h3; clear hf h0 h1 h2 h3
    have H_hR := Lib.hid hR; clear hR
    go_enter Tryd.func18, Tryd.ntmps18
    go_upto_region 1 with (fail)
    rw [H_hw0.out]
    have u0 := (H_k0.out 0 _ rfl).at
    have u1 := (H_k0.out 1 _ rfl).at
    have u2 := (H_k0.out 2 _ rfl).at
    have u3 := (H_k0.out 3 _ rfl).at
    have u4 := (H_k0.out 4 _ rfl).at
    have v0 := (H_j0.out 0 _ rfl).at
    have v1 := (H_j0.out 1 _ rfl).at
    have v2 := (H_j0.out 2 _ rfl).at
    have v3 := (H_j0.out 3 _ rfl).at
    have v4 := (H_j0.out 4 _ rfl).at
    go_wp2_with fail
    go_ret
    exact ⟨ret_bool H_hf.out.symm, H_bb0.out⟩
  have e3a : (xk != yk) = false := by simp [h3]
  have e3b : (xk == yk) = true := by simp [h3]
  by_cases h4 : N = M
  rotate_left
  · have n4a : ((N : Int) != (M : Int)) = true := by simp; omega
    have n4b : ((N : Int) == (M : Int)) = false := by simp; omega
    have hf : R = false := by
      rw [← hR, Bool.eq_false_iff]
      intro h
      simp only [Bool.and_eq_true, sameB_iff] at h
      exact h4 (by rw [← H_hN.out, ← H_hM.out, h.2])
    have ⟨H_hf, H_h0, H_h1, H_h2, H_h3, H_h4⟩ := hid6 hf h0 h1 h2 h3 h4; clear hf h0 h1 h2 h3 h4
    have H_hR := Lib.hid hR; clear hR
    go_enter Tryd.func18, Tryd.ntmps18
    go_upto_region 1 with (fail)
    rw [H_hw0.out]
    have u0 := (H_k0.out 0 _ rfl).at
    have u1 := (H_k0.out 1 _ rfl).at
    have u2 := (H_k0.out 2 _ rfl).at
    have u3 := (H_k0.out 3 _ rfl).at
    have u4 := (H_k0.out 4 _ rfl).at
    have v0 := (H_j0.out 0 _ rfl).at
    have v1 := (H_j0.out 1 _ rfl).at
    have v2 := (H_j0.out 2 _ rfl).at
    have v3 := (H_j0.out 3 _ rfl).at
    have v4 := (H_j0.out 4 _ rfl).at
    go_wp2_with fail
    go_ret
    exact ⟨ret_bool H_hf.out.symm, H_bb0.out⟩
  have e4a : ((N : Int) != (M : Int)) = false := by simp [h4]
  have e4b : ((N : Int) == (M : Int)) = true := by simp [h4]
  have hRs : R = sameB l m := by rw [← hR]; simp [h0, h1, h2, h3]
  have hs := @list_eq_of l m (by rw [H_hN.out, H_hM.out]; exact h4)
  have ⟨H_hRs, H_hs, H_h4, H_h0, H_h1, H_h2, H_h3⟩ := hid7 hRs hs h4 h0 h1 h2 h3; clear hRs hs h4 h0 h1 h2 h3
  have H_hR := Lib.hid hR; clear hR
  go_enter Tryd.func18, Tryd.ntmps18
  go_upto_region 1 with (fail)
  rw [H_hw0.out]
  have u0 := (H_k0.out 0 _ rfl).at
  have u1 := (H_k0.out 1 _ rfl).at
  have u2 := (H_k0.out 2 _ rfl).at
  have u3 := (H_k0.out 3 _ rfl).at
  have u4 := (H_k0.out 4 _ rfl).at
  have v0 := (H_j0.out 0 _ rfl).at
  have v1 := (H_j0.out 1 _ rfl).at
  have v2 := (H_j0.out 2 _ rfl).at
  have v3 := (H_j0.out 3 _ rfl).at
  have v4 := (H_j0.out 4 _ rfl).at
  go_upto_region 4 with (fail)
  go_loopw [5] (fun i wr => ∃ k q : Nat, k ≤ N ∧ i = .int .i64 k ∧ (∀ j, j < k → l.getD j 0 = m.getD j 0) ∧ wr = w0.drewN q) (fun i _ => N - (intOf i).toNat)
  case atStart => exact ⟨0, 0, by omega, rfl, fun j hj => absurd hj (by omega), rfl⟩
  case round =>
    obtain ⟨k, q, hk, rfl, hall, rfl⟩ := hrel
    by_cases hlt : k < N
    · obtain ⟨b, off, hA, hbs, hc⟩ := H_l0.out k (by rw [H_hN.out]; exact hlt)
      obtain ⟨b2, off2, hA2, hbs2, hc2⟩ := H_m0.out k (by rw [H_hM.out]; have := H_h4.out; omega)
      have hltM : k < M := by have := H_h4.out; omega
      have i1 : (0 : Int) ≤ (k : Int) := by omega
      have i2 : (k : Int) < (N : Int) := by omega
      have i3 : (k : Int) < (M : Int) := by omega
      have hnx := @list_ne_at l m k
      subst hA hA2
      have hnext : l.getD k 0 = m.getD k 0 → ∀ j, j < k + 1 → l.getD j 0 = m.getD j 0 := fun he j hj => by
        rcases Nat.lt_or_ge j k with h | h
        · exact hall j h
        · rw [show j = k by omega]; exact he
      generalize l.getD k 0 = x at *
      generalize m.getD k 0 = y at *
      have bq := below_drewN H_bb0.out q
      by_cases hxy : x = y
      · have hb : (x != y) = false := by simp [hxy]
        have ⟨H_hall, H_hnext, H_hnx, H_hxy, H_bq⟩ := hid5 hall hnext hnx hxy bq; clear hall hnext hnx hxy bq
        go_wp2_with fail
        go_quiet (fail)
        go_wp2_with fail
        go_roundw
        case rel => exact ⟨k + 1, _, by omega, by go_num, H_hnext.out H_hxy.out, rfl⟩
        case measure => simp [intOf]; omega
      · have hb : (x != y) = true := by simp [hxy]
        have ⟨H_hall, H_hnext, H_hnx, H_hxy, H_bq⟩ := hid5 hall hnext hnx hxy bq; clear hall hnext hnx hxy bq
        go_wp2_with fail
        go_quiet (fail)
        go_wp2_with fail
        go_ret
        exact ⟨ret_bool (by rw [H_hRs.out]; exact (H_hnx.out H_hxy.out).symm), below_drewN H_bq.out _⟩
    · have hfin : sameB l m = true := H_hs.out fun j hj => hall j (by rw [H_hN.out] at hj; omega)
      have bq := below_drewN H_bb0.out q
      have ⟨H_hall, H_hfin, H_bq⟩ := hid3 hall hfin bq; clear hall hfin bq
      go_wp2_with fail
      go_ret
      exact ⟨ret_bool (by rw [H_hRs.out]; exact H_hfin.out.symm), H_bq.out⟩
end Go.Proofs.YtmbmejclnagffaaDoor

/- The walk of DoorsNewest. -/
import Derived.Test.YtclgncaghiinhaaDoorM38
import Derived.Test.YtclgncaghiinhaaDoorM46
set_option linter.unusedSimpArgs false
set_option linter.unusedVariables false
set_option maxRecDepth 100000
namespace Go.Proofs.YtclgncaghiinhaaDoor
open Go.RowKit
/-- what a run that goes through says, by its showings -/
theorem ran {ls : List Lk} {cs : List Crd} {ss : List Sh4} (h : runB ls cs ss = true) : runW ls cs ss = runO cs ls (ss.map Sh4.shw) ∧ (runW ls cs ss).length = ss.length ∧ runN ls cs ss = 0 ∧ runL ls cs ss = runS cs ls (ss.map Sh4.shw) ∧ (runL ls cs ss).length = ls.length := by
  rw [runW, runN, runL, if_pos h, if_pos h, if_pos h, runO_len, List.length_map, runS_len]; exact ⟨rfl, rfl, rfl, rfl, rfl⟩
theorem ran_not {ls : List Lk} {cs : List Crd} {ss : List Sh4} (h : runB ls cs ss = false) : runW ls cs ss = [] ∧ runN ls cs ss = 1 ∧ runL ls cs ss = [] := by
  have h2 : ¬ runB ls cs ss = true := by rw [h]; simp
  rw [runW, runN, runL, if_neg h2, if_neg h2, if_neg h2]; exact ⟨rfl, rfl, rfl⟩
/-- a showing that is right, in numbers -/
theorem good_nat {nl nc : Nat} {s : Sh4} (h : GoodS nl nc s) : ∃ i j : Nat, s.a = i ∧ s.b = j ∧ i < nl ∧ j < nc ∧ s.shw = ⟨i, j, s.c, s.d⟩ := by
  have a0 := h.a0; have a1 := h.a1; have b0 := h.b0; have b1 := h.b1
  exact ⟨s.a.toNat, s.b.toNat, by omega, by omega, by omega, by omega, rfl⟩
theorem newest_plain {ls : List Lk} {cs : List Crd} {ss : List Sh4} (h : runB ls cs ss = true) (k i : Nat) (s u : Sh4) (hk : ss[k]? = some s) (hi : ss[i]? = some u) (hki : k < i) (a b : Crd) (ha : cs[s.b.toNat]? = some a) (hb : cs[u.b.toNat]? = some b) (o1 o2 : Bool) (h1 : (runW ls cs ss)[k]? = some o1) (h2 : (runW ls cs ss)[i]? = some o2) :
    ((s.a == u.a) && ((a.k == 1) && (b.k == 1)) && o1 && o2 && decide (b.n < a.n)) = false := by
  rw [Bool.eq_false_iff]
  intro hh
  simp only [Bool.and_eq_true, decide_eq_true_eq, beq_iff_eq] at hh
  obtain ⟨⟨⟨⟨e1, e2, e3⟩, rfl⟩, rfl⟩, e4⟩ := hh
  rw [(ran h).1] at h1 h2
  have hg := (run_good h).2.2
  have k1 : (ss.map Sh4.shw)[k]? = some s.shw := by rw [List.getElem?_map, hk]; rfl
  have i1 : (ss.map Sh4.shw)[i]? = some u.shw := by rw [List.getElem?_map, hi]; rfl
  refine newest_run (cs := cs) (ls := ls) (p := ss.map Sh4.shw) (fun x hx => ?_) k1 i1 hki ?_ ?_ ?_ h1 h2 ?_
  · obtain ⟨y, hy, rfl⟩ := List.mem_map.1 hx
    have a0 := (hg y hy).a0; have a1 := (hg y hy).a1
    show y.a.toNat < _
    omega
  · show s.a.toNat = u.a.toNat
    rw [e1]
  · rw [show cdD cs s.shw.j = a from cdD_at ha]; exact e2
  · rw [show cdD cs u.shw.j = b from cdD_at hb]; exact e3
  · rw [show cdD cs s.shw.j = a from cdD_at ha, show cdD cs u.shw.j = b from cdD_at hb]; exact e4
set_option maxRecDepth 100000 in
set_option maxHeartbeats 32000000 in
theorem doorsNewest_walk (A : Option Addr) (cp : Nat) (Ps : List LkP) (X : Option Addr) (cx : Nat) (cs : List Crd) (Y : Option Addr) (cy : Nat) (ss : List Sh4) (w0 : World) (hl : LocksArg w0 A Ps) (hlc : Ps.length ≤ cp) (hlm : cp ≤ maxLen) (hcs : Cards w0 X cs) (hcc : cs.length ≤ cx) (hcm : cx ≤ maxLen) (hss : Shows w0 Y ss) (hsc : ss.length ≤ cy) (hsm : cy ≤ maxLen) (ht : Tab w0) :
    Calls Tryd.prog 3 #[.slice A Ps.length cp, .slice X cs.length cx, .slice Y ss.length cy] w0 fun e w' => e = .returned (.bool true) ∧ Below w0.heap.size w0 w' := by
  unfold maxLen at hlm hcm hsm
  have q1 := head38_any w0 ht
  have q2 := fun W (h : Below w0.heap.size w0 W) => rdfew_any A cp Ps.length Ps X cx cs.length Y cy ss.length W rfl (by omega) (by omega) (by omega) (hl.below h)
  have bb0 := Below.refl w0.heap.size w0
  cases hF : fewD Ps Ps.length cs.length ss.length with
  | false =>
    rw [hF] at q2
    generalize Ps.length = n at *
    generalize cs.length = m at *
    generalize ss.length = k at *
    have ⟨H_q1, H_q2, H_bb0, H_hl, H_hcs, H_hss, H_ht, H_hF⟩ := hid8 q1 q2 bb0 hl hcs hss ht hF; clear q1 q2 bb0 hl hcs hss ht hF
    go_enter Tryd.func3, Tryd.ntmps3
    go_wp2_with fail
    (with_reducible refine (H_q1.out).mono ?_)
    rintro e w1 ⟨rfl, b1⟩
    have c1 : Below w0.heap.size w0 w1 := Below.trans belt (b1.mono omh)
    have s1 := c1.size
    have bb1 := H_bb0.out.trans (c1.mono H_bb0.out.size)
    have ⟨H_b1, H_c1, H_bb1⟩ := hid3 b1 c1 bb1; clear b1 c1 bb1
    go_wp2_with fail
    (with_reducible refine (H_q2.out _ ?_).mono ?_)
    · exact H_bb1.out.trans ((show Below w1.heap.size w1 _ from belt).mono H_bb1.out.size)
    rintro e w2 ⟨rfl, b2⟩
    have c2 : Below w1.heap.size w1 w2 := Below.trans belt (b2.mono omh)
    have s2 := c2.size
    have bb2 := H_bb1.out.trans (c2.mono H_bb1.out.size)
    have ⟨H_b2, H_c2, H_bb2⟩ := hid3 b2 c2 bb2; clear b2 c2 bb2
    go_wp2_with fail
    go_ret
    exact ⟨rfl, H_bb2.out⟩
  | true =>
    rw [hF] at q2
    obtain ⟨hL, n10, m20, k20⟩ := few_locks hl hF
    have q3 := fun W (h : Below w0.heap.size w0 W) => drun_any A cp Ps.length Ps X cx cs.length cs Y cy ss.length ss W rfl rfl rfl (by omega) (by omega) (by omega) (hL.below h) (hcs.below h) (hss.below h) (ht.below h)
    obtain ⟨n, hn⟩ : ∃ n, Ps.length = n := ⟨_, rfl⟩
    obtain ⟨m, hm⟩ : ∃ n, cs.length = n := ⟨_, rfl⟩
    obtain ⟨k, hk⟩ : ∃ n, ss.length = n := ⟨_, rfl⟩
    rw [hn, hm, hk]
    rw [hn, hm, hk] at q2 q3
    rw [hn] at n10
    rw [hm] at m20
    rw [hk] at k20
    clear hlc hcc hsc hlm hcm hsm hF hl
    cases hB : runB (Ps.map LkP.L) cs ss with
    | false =>
      obtain ⟨r1, r2, r3⟩ := ran_not hB
      rw [r1, r2, r3] at q3
      unfold RunRes at q3
      simp only [List.length_nil] at q3
      have ⟨H_q1, H_q2, H_q3, H_bb0, H_hL, H_hcs, H_hss, H_ht⟩ := hid8 q1 q2 q3 bb0 hL hcs hss ht; clear q1 q2 q3 bb0 hL hcs hss ht; have ⟨H_hB, H_hn, H_hm, H_hk, H_r1, H_r2, H_r3⟩ := hid7 hB hn hm hk r1 r2 r3; clear hB hn hm hk r1 r2 r3
      go_enter Tryd.func3, Tryd.ntmps3
      go_wp2_with fail
      (with_reducible refine (H_q1.out).mono ?_)
      rintro e w1 ⟨rfl, b1⟩
      have c1 : Below w0.heap.size w0 w1 := Below.trans belt (b1.mono omh)
      have s1 := c1.size
      have bb1 := H_bb0.out.trans (c1.mono H_bb0.out.size)
      have ⟨H_b1, H_c1, H_bb1⟩ := hid3 b1 c1 bb1; clear b1 c1 bb1
      go_wp2_with fail
      (with_reducible refine (H_q2.out _ ?_).mono ?_)
      · exact H_bb1.out.trans ((show Below w1.heap.size w1 _ from belt).mono H_bb1.out.size)
      rintro e w2 ⟨rfl, b2⟩
      have c2 : Below w1.heap.size w1 w2 := Below.trans belt (b2.mono omh)
      have s2 := c2.size
      have bb2 := H_bb1.out.trans (c2.mono H_bb1.out.size)
      have ⟨H_b2, H_c2, H_bb2⟩ := hid3 b2 c2 bb2; clear b2 c2 bb2
      go_wp2_with fail
      (with_reducible refine (H_q3.out _ ?_).mono ?_)
      · exact H_bb2.out.trans ((show Below w2.heap.size w2 _ from belt).mono H_bb2.out.size)
      rintro e w3 ⟨A3, c3, P3, O3, k3, rfl, _, _, _, _, _, b3⟩
      have c3 : Below w2.heap.size w2 w3 := Below.trans belt (b3.mono omh)
      have s3 := c3.size
      have bb3 := H_bb2.out.trans (c3.mono H_bb2.out.size)
      have ⟨H_b3, H_c3, H_bb3⟩ := hid3 b3 c3 bb3; clear b3 c3 bb3
      go_wp2_with fail
      go_ret
      exact ⟨rfl, H_bb3.out⟩
    | true =>
      have np := newest_plain hB
      obtain ⟨_, r2, r3, _, r5⟩ := ran hB
      rw [r3] at q3
      have hg := (run_good hB).2.2
      rw [List.length_map, hn, hm] at hg
      rw [hk] at r2
      rw [List.length_map, hn] at r5
      generalize runW (Ps.map LkP.L) cs ss = RW at *
      generalize runL (Ps.map LkP.L) cs ss = RL at *
      unfold RunRes at q3
      rw [r2, r5] at q3
      have ⟨H_q1, H_q2, H_q3, H_bb0, H_hL, H_hcs, H_hss, H_ht⟩ := hid8 q1 q2 q3 bb0 hL hcs hss ht; clear q1 q2 q3 bb0 hL hcs hss ht; have ⟨H_hB, H_hn, H_hm, H_hk, H_r2, H_r3, H_r5, H_np⟩ := hid8 hB hn hm hk r2 r3 r5 np; clear hB hn hm hk r2 r3 r5 np; have H_hg := Lib.hid hg; clear hg
      go_enter Tryd.func3, Tryd.ntmps3
      go_wp2_with fail
      (with_reducible refine (H_q1.out).mono ?_)
      rintro e w1 ⟨rfl, b1⟩
      have c1 : Below w0.heap.size w0 w1 := Below.trans belt (b1.mono omh)
      have s1 := c1.size
      have bb1 := H_bb0.out.trans (c1.mono H_bb0.out.size)
      have ⟨H_b1, H_c1, H_bb1⟩ := hid3 b1 c1 bb1; clear b1 c1 bb1
      go_wp2_with fail
      (with_reducible refine (H_q2.out _ ?_).mono ?_)
      · exact H_bb1.out.trans ((show Below w1.heap.size w1 _ from belt).mono H_bb1.out.size)
      rintro e w2 ⟨rfl, b2⟩
      have c2 : Below w1.heap.size w1 w2 := Below.trans belt (b2.mono omh)
      have s2 := c2.size
      have bb2 := H_bb1.out.trans (c2.mono H_bb1.out.size)
      have ⟨H_b2, H_c2, H_bb2⟩ := hid3 b2 c2 bb2; clear b2 c2 bb2
      go_wp2_with fail
      (with_reducible refine (H_q3.out _ ?_).mono ?_)
      · exact H_bb2.out.trans ((show Below w2.heap.size w2 _ from belt).mono H_bb2.out.size)
      rintro e w3 ⟨A3, cc3, P3, O3, kk3, rfl, _, _, ob3, _, _, b3⟩
      have c3 : Below w2.heap.size w2 w3 := Below.trans belt (b3.mono omh)
      have s3 := c3.size
      have bb3 := H_bb2.out.trans (c3.mono H_bb2.out.size)
      have ⟨H_b3, H_c3, H_bb3⟩ := hid3 b3 c3 bb3; clear b3 c3 bb3
      have H_ob3 := Lib.hid ob3; clear ob3
      go_wp2_with fail
      go_loopw [11] (fun i wr => ∃ j : Nat, j ≤ k ∧ i = .int .i64 j ∧ Below w3.heap.size w3 wr) (fun i _ => k - (intOf i).toNat)
      case atStart => exact ⟨0, by omega, rfl, Below.refl _ _⟩
      case round =>
        obtain ⟨j, hj, rfl, bz⟩ := hrel
        by_cases hlt : j < k
        rotate_left
        · have g1 : ¬ (j : Int) < (k : Int) := by omega
          have fin := H_bb3.out.trans (bz.mono H_bb3.out.size)
          have ⟨H_bz, H_fin⟩ := hid2 bz fin; clear bz fin
          go_wp2_with fail
          go_ret
          exact ⟨rfl, H_fin.out⟩
        have g1 : (j : Int) < (k : Int) := by omega
        have g0 : (0 : Int) ≤ (j : Int) := by omega
        obtain ⟨u, hu⟩ : ∃ s, ss[j]? = some s := ⟨_, List.getElem?_eq_getElem (by rw [H_hk.out]; exact hlt)⟩
        obtain ⟨i2, j2, eu1, eu2, hi2, hj2, _⟩ := good_nat (H_hg.out u (List.mem_of_getElem? hu))
        obtain ⟨cb, hcb⟩ : ∃ s, cs[j2]? = some s := ⟨_, List.getElem?_eq_getElem (by rw [H_hm.out]; exact hj2)⟩
        obtain ⟨o2, ho2⟩ : ∃ s, RW[j]? = some s := ⟨_, List.getElem?_eq_getElem (by rw [H_r2.out]; exact hlt)⟩
        have ⟨H_bz, H_hu, H_eu1, H_eu2, H_hcb, H_ho2⟩ := hid6 bz hu eu1 eu2 hcb ho2; clear bz hu eu1 eu2 hcb ho2
        go_wp2_with fail
        go_loopw [12] (fun i wr2 => ∃ l : Nat, l ≤ j ∧ i = .int .i64 l ∧ Below w3.heap.size w3 wr2) (fun i _ => j - (intOf i).toNat)
        case atStart => exact ⟨0, by omega, rfl, H_bz.out⟩
        case round =>
          obtain ⟨l, hlj, rfl, by2⟩ := hrel
          obtain ⟨wr2, hwr2⟩ : ∃ W, wr = W := ⟨_, rfl⟩
          rw [hwr2] at by2 ⊢
          have H_hwr2 := Lib.hid hwr2; clear hwr2
          by_cases hlt2 : l < j
          rotate_left
          · have g4 : ¬ (l : Int) < (j : Int) := by omega
            have H_by2 := Lib.hid by2; clear by2
            go_wp2_with fail
            go_roundw
            case rel => exact ⟨j + 1, by omega, by go_num, H_by2.out⟩
            case measure => simp [intOf]; omega
          have g4 : (l : Int) < (j : Int) := by omega
          have g5 : (0 : Int) ≤ (l : Int) := by omega
          have g6 : (l : Int) < (k : Int) := by omega
          obtain ⟨s, hs⟩ : ∃ s, ss[l]? = some s := ⟨_, List.getElem?_eq_getElem (by rw [H_hk.out]; omega)⟩
          obtain ⟨i1, j1, es1, es2, hi1, hj1, _⟩ := good_nat (H_hg.out s (List.mem_of_getElem? hs))
          obtain ⟨ca, hca⟩ : ∃ s, cs[j1]? = some s := ⟨_, List.getElem?_eq_getElem (by rw [H_hm.out]; exact hj1)⟩
          obtain ⟨o1, ho1⟩ : ∃ s, RW[l]? = some s := ⟨_, List.getElem?_eq_getElem (by rw [H_r2.out]; omega)⟩
          have fin := H_np.out l j s u hs H_hu.out hlt2 ca cb (by rw [es2]; exact hca) (by rw [H_eu2.out]; exact H_hcb.out) o1 o2 ho1 H_ho2.out
          have by0 := H_bb3.out.trans (by2.mono H_bb3.out.size)
          obtain ⟨bs, os, eY, zs, c0, c1, c2, c3⟩ := (H_hss.out.below by0).at hs
          obtain ⟨bu, ou, eY2, zu, d0, d1, d2, d3⟩ := (H_hss.out.below by0).at H_hu.out
          rw [eY] at eY2
          cases eY2
          obtain ⟨ba, oa, eX, za, _, a0, a1, a2, a3, a4, a5, a6, a7, a8⟩ := (H_hcs.out.below by0).at hca
          obtain ⟨bb, ob, eX2, zb, _, b0, b1, b2, b3, b4, b5, b6, b7, b8⟩ := (H_hcs.out.below by0).at H_hcb.out
          rw [eX] at eX2
          cases eX2
          obtain ⟨bo, oo, eO, zo, o5⟩ := (H_ob3.out.below by2).at ho1
          obtain ⟨bo2, oo2, eO2, zo2, o6⟩ := (H_ob3.out.below by2).at H_ho2.out
          rw [eO] at eO2
          cases eO2
          rw [es1] at c0
          rw [es2] at c1
          rw [H_eu1.out] at d0
          rw [H_eu2.out] at d1
          rw [es1, H_eu1.out] at fin
          subst eX eY eO
          have h1 : (0 : Int) ≤ (j1 : Int) := by omega
          have h2 : (j1 : Int) < (m : Int) := by omega
          have h3 : (0 : Int) ≤ (j2 : Int) := by omega
          have h4 : (j2 : Int) < (m : Int) := by omega
          obtain ⟨x1, hx1⟩ : ∃ x, ((i1 : Int) == (i2 : Int)) = x := ⟨_, rfl⟩
          obtain ⟨x2, hx2⟩ : ∃ x, (ca.k == 1) = x := ⟨_, rfl⟩
          obtain ⟨x3, hx3⟩ : ∃ x, (cb.k == 1) = x := ⟨_, rfl⟩
          obtain ⟨x6, hx6⟩ : ∃ x, decide (cb.n < ca.n) = x := ⟨_, rfl⟩
          rw [hx1, hx2, hx3, hx6] at fin
          have sz2 := by2.size
          have ⟨H_by2, H_by0, H_hs, H_es1, H_es2, H_hca, H_ho1, H_fin⟩ := hid8 by2 by0 hs es1 es2 hca ho1 fin; clear by2 by0 hs es1 es2 hca ho1 fin
          go_upto_region 15 with (fail)
          go_cut [13, 14] from 55 to 70 (fun c13 c14 wx => ∃ g h : Nat, c13 = .pointer (some ⟨g, 0, none⟩) ∧ c14 = .pointer (some ⟨h, 0, none⟩) ∧ Two wr2 wx g h #[.int .i64 ca.i, .int .i64 ca.k, .int .i64 ca.d, .int .i64 ca.n, .int .i64 ca.f, .int .i64 ca.u, .int .i64 ca.l, .int .i64 ca.e, .int .i64 ca.s] #[.int .i64 cb.i, .int .i64 cb.k, .int .i64 cb.d, .int .i64 cb.n, .int .i64 cb.f, .int .i64 cb.u, .int .i64 cb.l, .int .i64 cb.e, .int .i64 cb.s])
          case first =>
            refine wp_region_held_drew (S := (fun W => (∀ b o, b < wr2.heap.size → W.cell? ⟨b, o, none⟩ = wr2.cell? ⟨b, o, none⟩) ∧ Below wr2.heap.size wr2 W)) (by kernel_rfl) ?_ (fun hHeld => ?_)
            · (try dsimp only); (first | (refine ext_mk ?_; exact belt))
            refine take_at (i := 0) (some 55) rfl rfl (by kernel_rfl) (fun _ _ _ h => h) (by rfl) (v := ?_) ?_ (by assumption) ?_
            rotate_left
            · intro W hSw; (try dsimp only at hSw); go_simp; (try with_reducible rfl)
            (try simp only [apz])
            refine take_at (i := 1) (some 56) rfl rfl (by kernel_rfl) (fun _ _ _ h => h) (by rfl) (v := ?_) ?_ (by assumption) ?_
            rotate_left
            · intro W hSw; (try dsimp only at hSw); go_simp; (try with_reducible rfl)
            (try simp only [apz])
            refine take_at (i := 2) (some 57) rfl rfl (by kernel_rfl) (fun _ _ _ h => h) (by rfl) (v := ?_) ?_ (by assumption) ?_
            rotate_left
            · intro W hSw; (try dsimp only at hSw); go_simp; (try with_reducible rfl)
            (try simp only [apz])
            refine take_at (i := 3) (some 58) rfl rfl (by kernel_rfl) (fun _ _ _ h => h) (by rfl) (v := ?_) ?_ (by assumption) ?_
            rotate_left
            · intro W hSw; (try dsimp only at hSw); go_simp; (try with_reducible rfl)
            (try simp only [apz])
            refine take_at (i := 4) (some 59) rfl rfl (by kernel_rfl) (fun _ _ _ h => h) (by rfl) (v := ?_) ?_ (by assumption) ?_
            rotate_left
            · intro W hSw; (try dsimp only at hSw); go_simp; (try with_reducible rfl)
            (try simp only [apz])
            refine take_at (i := 5) (some 60) rfl rfl (by kernel_rfl) (fun _ _ _ h => h) (by rfl) (v := ?_) ?_ (by assumption) ?_
            rotate_left
            · intro W hSw; (try dsimp only at hSw); go_simp; (try with_reducible rfl)
            (try simp only [apz])
            refine take_at (i := 6) (some 61) rfl rfl (by kernel_rfl) (fun _ _ _ h => h) (by rfl) (v := ?_) ?_ (by assumption) ?_
            rotate_left
            · intro W hSw; (try dsimp only at hSw); go_simp; (try with_reducible rfl)
            (try simp only [apz])
            refine take_at (i := 7) (some 62) rfl rfl (by kernel_rfl) (fun _ _ _ h => h) (by rfl) (v := ?_) ?_ (by assumption) ?_
            rotate_left
            · intro W hSw; (try dsimp only at hSw); go_simp; (try with_reducible rfl)
            (try simp only [apz])
            refine take_at (i := 8) (some 63) rfl rfl (by kernel_rfl) (fun _ _ _ h => h) (by rfl) (v := ?_) ?_ (by assumption) ?_
            rotate_left
            · intro W hSw; (try dsimp only at hSw); go_simp; (try with_reducible rfl)
            (try simp only [apz])
            refine take_at (i := 9) (some 64) rfl rfl (by kernel_rfl) (fun _ _ _ h => h) (by rfl) (v := ?_) ?_ (by assumption) ?_
            rotate_left
            · intro W hSw; (try dsimp only at hSw); go_simp; (try with_reducible rfl)
            (try simp only [apz])
            refine take_at (i := 10) (some 65) rfl rfl (by kernel_rfl) (fun _ _ _ h => h) (by rfl) (v := ?_) ?_ (by assumption) ?_
            rotate_left
            · intro W hSw; (try dsimp only at hSw); go_simp; (try with_reducible rfl)
            (try simp only [apz])
            refine take_at (i := 11) (some 66) rfl rfl (by kernel_rfl) (fun _ _ _ h => h) (by rfl) (v := ?_) ?_ (by assumption) ?_
            rotate_left
            · intro W hSw; (try dsimp only at hSw); go_simp; (try with_reducible rfl)
            (try simp only [apz])
            refine take_at (i := 12) (some 67) rfl rfl (by kernel_rfl) (fun _ _ _ h => h) (by rfl) (v := ?_) ?_ (by assumption) ?_
            rotate_left
            · intro W hSw; (try dsimp only at hSw); go_simp; (try with_reducible rfl)
            (try simp only [apz])
            refine take_at (i := 13) (some 68) rfl rfl (by kernel_rfl) (fun _ _ _ h => h) (by rfl) (v := ?_) ?_ (by assumption) ?_
            rotate_left
            · intro W hSw; (try dsimp only at hSw); go_simp; (try with_reducible rfl)
            (try simp only [apz])
            refine take_at (i := 14) (some 69) rfl rfl (by kernel_rfl) (fun _ _ _ h => h) (by rfl) (v := ?_) ?_ (by assumption) ?_
            rotate_left
            · intro W hSw; (try dsimp only at hSw); go_simp; (try with_reducible rfl)
            (try simp only [apz])
            refine take_at (i := 15) (some 70) rfl rfl (by kernel_rfl) (fun _ _ _ h => h) (by rfl) (v := ?_) ?_ (by assumption) ?_
            rotate_left
            · intro W hSw; (try dsimp only at hSw); go_simp; (try with_reducible rfl)
            (try simp only [apz])
            refine wpAnyH_ready (rs := [16, 17]) (by kernel_rfl) (by simp) ?_
            refine AllReadyH.cons rfl (fun K hK => ?_) (AllReadyH.cons rfl (fun K hK => ?_) AllReadyH.nil)
            · go_simp
              refine hK.out _ _ ?_ (fun hHeld => ?_)
              · (try dsimp only); (first | (refine ext_mk ?_; exact belt))
              clear hK K
              (try simp only [apz])
              refine wpAnyH_ready (rs := [17]) (by kernel_rfl) (by simp) ?_
              refine AllReadyH.cons rfl (fun K hK => ?_) AllReadyH.nil
              go_simp
              refine hK.out _ _ ?_ (fun hHeld => ?_)
              · (try dsimp only); (first | (refine ext_mk ?_; exact belt))
              clear hK K
              (try simp only [apz])
              refine wpAnyH_ready (rs := [18]) (by kernel_rfl) (by simp) ?_
              refine AllReadyH.cons rfl (fun K hK => ?_) AllReadyH.nil
              go_simp
              refine hK.out _ _ ?_ (fun hHeld => ?_)
              · (try dsimp only); (first | (refine ext_mk ?_; exact belt))
              clear hK K
              (try simp only [apz])
              refine wpAnyH_ready (rs := [19]) (by kernel_rfl) (by simp) ?_
              refine AllReadyH.cons rfl (fun K hK => ?_) AllReadyH.nil
              go_simp
              refine hK.out _ _ ?_ (fun hHeld => ?_)
              · (try dsimp only); (first | (refine ext_mk ?_; exact belt))
              clear hK K
              (try simp only [apz])
              refine wpAnyH_done (by kernel_rfl) ?_ _
              go_wp2_with fail
              go_meet
              (case rel => exact ⟨_, _, rfl, rfl, by first | with_reducible exact two_nn (Below.refl _ _) | exact (two_nn (Below.refl _ _)).drew⟩)
            · go_simp
              refine hK.out _ _ ?_ (fun hHeld => ?_)
              · (try dsimp only); (first | (refine ext_mk ?_; exact belt))
              clear hK K
              (try simp only [apz])
              refine wpAnyH_ready (rs := [16]) (by kernel_rfl) (by simp) ?_
              refine AllReadyH.cons rfl (fun K hK => ?_) AllReadyH.nil
              go_simp
              refine hK.out _ _ ?_ (fun hHeld => ?_)
              · (try dsimp only); (first | (refine ext_mk ?_; exact belt))
              clear hK K
              (try simp only [apz])
              refine wpAnyH_ready (rs := [18]) (by kernel_rfl) (by simp) ?_
              refine AllReadyH.cons rfl (fun K hK => ?_) AllReadyH.nil
              go_simp
              refine hK.out _ _ ?_ (fun hHeld => ?_)
              · (try dsimp only); (first | (refine ext_mk ?_; exact belt))
              clear hK K
              (try simp only [apz])
              refine wpAnyH_ready (rs := [19]) (by kernel_rfl) (by simp) ?_
              refine AllReadyH.cons rfl (fun K hK => ?_) AllReadyH.nil
              go_simp
              refine hK.out _ _ ?_ (fun hHeld => ?_)
              · (try dsimp only); (first | (refine ext_mk ?_; exact belt))
              clear hK K
              (try simp only [apz])
              refine wpAnyH_done (by kernel_rfl) ?_ _
              go_wp2_with fail
              go_meet
              (case rel => exact ⟨_, _, rfl, rfl, by first | with_reducible exact two_nn' (Below.refl _ _) | exact (two_nn' (Below.refl _ _)).drew⟩)
          case rest =>
            obtain ⟨g, h, rfl, rfl, ⟨hg1, hh1, hgh⟩, gA, hA, c12⟩ := hcut
            obtain ⟨w5, hw5⟩ : ∃ W, wc = W := ⟨_, rfl⟩
            rw [hw5] at gA hA c12 ⊢
            have c0' := keepc c12 zs c0
            have d0' := keepc c12 zs d0
            have o5' := keepc c12 zo o5
            have o6' := keepc c12 zo o6
            have gA1 := (gA 1 _ rfl).at
            have gA3 := (gA 3 _ rfl).at
            have hA1 := (hA 1 _ rfl).at
            have hA3 := (hA 3 _ rfl).at
            have by5 := H_by2.out.trans (c12.mono sz2)
            clear c0 c1 c2 c3 d0 d1 d2 d3 a0 a1 a2 a3 a4 a5 a6 a7 a8 b0 b1 b2 b3 b4 b5 b6 b7 b8 o5 o6
            have ⟨H_hw5, H_gA, H_hA, H_c12, H_by5⟩ := hid5 hw5 gA hA c12 by5; clear hw5 gA hA c12 by5
            go_upto_region 16 with (fail)
            cases x2
            · go_upto_region 17 with (fail)
              cases x1
              all_goals
                go_quiet (fail)
                go_wp2_with fail
                go_roundw
                case rel => exact ⟨l + 1, by omega, by go_num, by first | exact H_by5.out | exact below_drewN H_by5.out _⟩
                case measure => simp [intOf]; omega
            · cases x3
              · go_upto_region 17 with (fail)
                cases x1
                all_goals
                  go_quiet (fail)
                  go_wp2_with fail
                  go_roundw
                  case rel => exact ⟨l + 1, by omega, by go_num, by first | exact H_by5.out | exact below_drewN H_by5.out _⟩
                  case measure => simp [intOf]; omega
              · go_upto_region 17 with (fail)
                cases x1
                · go_quiet (fail)
                  go_wp2_with fail
                  go_roundw
                  case rel => exact ⟨l + 1, by omega, by go_num, by first | exact H_by5.out | exact below_drewN H_by5.out _⟩
                  case measure => simp [intOf]; omega
                · cases o1
                  · go_quiet (fail)
                    go_wp2_with fail
                    go_roundw
                    case rel => exact ⟨l + 1, by omega, by go_num, by first | exact H_by5.out | exact below_drewN H_by5.out _⟩
                    case measure => simp [intOf]; omega
                  · cases o2
                    · go_quiet (fail)
                      go_wp2_with fail
                      go_roundw
                      case rel => exact ⟨l + 1, by omega, by go_num, by first | exact H_by5.out | exact below_drewN H_by5.out _⟩
                      case measure => simp [intOf]; omega
                    · have x6f : x6 = false := by simpa using H_fin.out
                      subst x6f
                      go_quiet (fail)
                      go_wp2_with fail
                      go_roundw
                      case rel => exact ⟨l + 1, by omega, by go_num, by first | exact H_by5.out | exact below_drewN H_by5.out _⟩
                      case measure => simp [intOf]; omega
end Go.Proofs.YtclgncaghiinhaaDoor

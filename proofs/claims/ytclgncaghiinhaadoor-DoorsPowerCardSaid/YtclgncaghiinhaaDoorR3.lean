/- The walk of DoorsPower, its end: each showing that is kept. -/
import Derived.Test.YtclgncaghiinhaaDoorM1
import Derived.Test.YtclgncaghiinhaaDoorM2
import Derived.Test.YtclgncaghiinhaaDoorM3
import Derived.Test.YtclgncaghiinhaaDoorM4
import Derived.Test.YtclgncaghiinhaaDoorM5
import Derived.Test.YtclgncaghiinhaaDoorM6
import Derived.Test.YtclgncaghiinhaaDoorM7
import Derived.Test.YtclgncaghiinhaaDoorM8
import Derived.Test.YtclgncaghiinhaaDoorM9
import Derived.Test.YtclgncaghiinhaaDoorM10
import Derived.Test.YtclgncaghiinhaaDoorM11
import Derived.Test.YtclgncaghiinhaaDoorM12
import Derived.Test.YtclgncaghiinhaaDoorM13
import Derived.Test.YtclgncaghiinhaaDoorM14
import Derived.Test.YtclgncaghiinhaaDoorM15
import Derived.Test.YtclgncaghiinhaaDoorM16
import Derived.Test.YtclgncaghiinhaaDoorM17
import Derived.Test.YtclgncaghiinhaaDoorM18
import Derived.Test.YtclgncaghiinhaaDoorM19
import Derived.Test.YtclgncaghiinhaaDoorM20
import Derived.Test.YtclgncaghiinhaaDoorM21
import Derived.Test.YtclgncaghiinhaaDoorM22
import Derived.Test.YtclgncaghiinhaaDoorM23
import Derived.Test.YtclgncaghiinhaaDoorM24
import Derived.Test.YtclgncaghiinhaaDoorM25
import Derived.Test.YtclgncaghiinhaaDoorM26
import Derived.Test.YtclgncaghiinhaaDoorM27
import Derived.Test.YtclgncaghiinhaaDoorM28
import Derived.Test.YtclgncaghiinhaaDoorM29
import Derived.Test.YtclgncaghiinhaaDoorM30
import Derived.Test.YtclgncaghiinhaaDoorM31
import Derived.Test.YtclgncaghiinhaaDoorM32
import Derived.Test.YtclgncaghiinhaaDoorM33
import Derived.Test.YtclgncaghiinhaaDoorM34
import Derived.Test.YtclgncaghiinhaaDoorM35
import Derived.Test.YtclgncaghiinhaaDoorM36
import Derived.Test.YtclgncaghiinhaaDoorM37
import Derived.Test.YtclgncaghiinhaaDoorM38
import Derived.Test.YtclgncaghiinhaaDoorM39
import Derived.Test.YtclgncaghiinhaaDoorM40
import Derived.Test.YtclgncaghiinhaaDoorM41
import Derived.Test.YtclgncaghiinhaaDoorM42
import Derived.Test.YtclgncaghiinhaaDoorM43
import Derived.Test.YtclgncaghiinhaaDoorM44
import Derived.Test.YtclgncaghiinhaaDoorM45
import Derived.Test.YtclgncaghiinhaaDoorM46
import Derived.Test.YtclgncaghiinhaaDoorM47
import Derived.Test.YtclgncaghiinhaaDoorM48
import Derived.Test.YtclgncaghiinhaaDoorR1
import Derived.Test.YtclgncaghiinhaaDoorR2
set_option linter.unusedSimpArgs false
set_option linter.unusedVariables false
set_option maxRecDepth 100000
namespace Go.Proofs.YtclgncaghiinhaaDoor
open Go.RowKit
set_option maxRecDepth 100000 in
set_option maxHeartbeats 64000000 in
theorem doorsPower_walk (A : Option Addr) (cp : Nat) (Ps : List LkP) (X : Option Addr) (cx : Nat) (cs : List Crd) (Y : Option Addr) (cy : Nat) (ss : List Sh4) (w0 : World) (hl : LocksArg w0 A Ps) (hlc : Ps.length ≤ cp) (hlm : cp ≤ maxLen) (hcs : Cards w0 X cs) (hcc : cs.length ≤ cx) (hcm : cx ≤ maxLen) (hss : Shows w0 Y ss) (hsc : ss.length ≤ cy) (hsm : cy ≤ maxLen) (ht : Tab w0) :
    Calls Tryd.prog 4 #[.slice A Ps.length cp, .slice X cs.length cx, .slice Y ss.length cy] w0 fun e w' => e = .returned (.bool true) ∧ Below w0.heap.size w0 w' := by
  unfold maxLen at hlm hcm hsm
  have q1 := head38_any w0 ht
  have q2 := fun W (h : Below w0.heap.size w0 W) => rdfew_any A cp Ps.length Ps X cx cs.length Y cy ss.length W rfl (by omega) (by omega) (by omega) (hl.below h)
  have bb0 := Below.refl w0.heap.size w0
  cases hF : fewD Ps Ps.length cs.length ss.length with
  | false =>
    rw [hF] at q2
    generalize Ps.length = n at *
    generalize cs.length = m at *
    generalize ss.length = k at *
    have ⟨H_q1, H_q2, H_bb0, H_hl, H_hcs, H_hss, H_ht, H_hF⟩ := hid8 q1 q2 bb0 hl hcs hss ht hF; clear q1 q2 bb0 hl hcs hss ht hF
    go_enter Tryd.func4, Tryd.ntmps4
    go_wp2_with fail
    (with_reducible refine (H_q1.out).mono ?_)
    rintro e w1 ⟨rfl, b1⟩
    have c1 : Below w0.heap.size w0 w1 := Below.trans belt (b1.mono omh)
    have s1 := c1.size
    have bb1 := H_bb0.out.trans (c1.mono H_bb0.out.size)
    have ⟨H_b1, H_c1, H_bb1⟩ := hid3 b1 c1 bb1; clear b1 c1 bb1
    go_wp2_with fail
    (with_reducible refine (H_q2.out _ ?_).mono ?_)
    · exact H_bb1.out.trans ((show Below w1.heap.size w1 _ from belt).mono H_bb1.out.size)
    rintro e w2 ⟨rfl, b2⟩
    have c2 : Below w1.heap.size w1 w2 := Below.trans belt (b2.mono omh)
    have s2 := c2.size
    have bb2 := H_bb1.out.trans (c2.mono H_bb1.out.size)
    have ⟨H_b2, H_c2, H_bb2⟩ := hid3 b2 c2 bb2; clear b2 c2 bb2
    go_wp2_with fail
    go_ret
    exact ⟨rfl, H_bb2.out⟩
  | true =>
    rw [hF] at q2
    obtain ⟨hL, n10, m20, k20⟩ := few_locks hl hF
    have q3 := fun W (h : Below w0.heap.size w0 W) => drun_any A cp Ps.length Ps X cx cs.length cs Y cy ss.length ss W rfl rfl rfl (by omega) (by omega) (by omega) (hL.below h) (hcs.below h) (hss.below h) (ht.below h)
    obtain ⟨n, hn⟩ : ∃ n, Ps.length = n := ⟨_, rfl⟩
    obtain ⟨m, hm⟩ : ∃ n, cs.length = n := ⟨_, rfl⟩
    obtain ⟨k, hk⟩ : ∃ n, ss.length = n := ⟨_, rfl⟩
    rw [hn, hm, hk]
    rw [hn, hm, hk] at q2 q3
    rw [hn] at n10
    rw [hm] at m20
    rw [hk] at k20
    clear hlc hcc hsc hlm hcm hsm hF hl
    cases hB : runB (Ps.map LkP.L) cs ss with
    | false =>
      obtain ⟨r1, r2, r3⟩ := ran_not hB
      rw [r1, r2, r3] at q3
      unfold RunRes at q3
      simp only [List.length_nil] at q3
      have ⟨H_q1, H_q2, H_q3, H_bb0, H_hL, H_hcs, H_hss, H_ht⟩ := hid8 q1 q2 q3 bb0 hL hcs hss ht; clear q1 q2 q3 bb0 hL hcs hss ht; have ⟨H_hB, H_hn, H_hm, H_hk, H_r1, H_r2, H_r3⟩ := hid7 hB hn hm hk r1 r2 r3; clear hB hn hm hk r1 r2 r3
      go_enter Tryd.func4, Tryd.ntmps4
      go_wp2_with fail
      (with_reducible refine (H_q1.out).mono ?_)
      rintro e w1 ⟨rfl, b1⟩
      have c1 : Below w0.heap.size w0 w1 := Below.trans belt (b1.mono omh)
      have s1 := c1.size
      have bb1 := H_bb0.out.trans (c1.mono H_bb0.out.size)
      have ⟨H_b1, H_c1, H_bb1⟩ := hid3 b1 c1 bb1; clear b1 c1 bb1
      go_wp2_with fail
      (with_reducible refine (H_q2.out _ ?_).mono ?_)
      · exact H_bb1.out.trans ((show Below w1.heap.size w1 _ from belt).mono H_bb1.out.size)
      rintro e w2 ⟨rfl, b2⟩
      have c2 : Below w1.heap.size w1 w2 := Below.trans belt (b2.mono omh)
      have s2 := c2.size
      have bb2 := H_bb1.out.trans (c2.mono H_bb1.out.size)
      have ⟨H_b2, H_c2, H_bb2⟩ := hid3 b2 c2 bb2; clear b2 c2 bb2
      go_wp2_with fail
      (with_reducible refine (H_q3.out _ ?_).mono ?_)
      · exact H_bb2.out.trans ((show Below w2.heap.size w2 _ from belt).mono H_bb2.out.size)
      rintro e w3 ⟨A3, c3, P3, O3, k3, rfl, _, _, _, _, _, b3⟩
      have c3 : Below w2.heap.size w2 w3 := Below.trans belt (b3.mono omh)
      have s3 := c3.size
      have bb3 := H_bb2.out.trans (c3.mono H_bb2.out.size)
      have ⟨H_b3, H_c3, H_bb3⟩ := hid3 b3 c3 bb3; clear b3 c3 bb3
      go_wp2_with fail
      go_ret
      exact ⟨rfl, H_bb3.out⟩
    | true =>
      obtain ⟨⟨u1, u2, u3⟩, v1, v2⟩ := power_plain hB
      obtain ⟨_, r2, r3, _, r5⟩ := ran hB
      rw [r3] at q3
      rw [hk] at r2
      have RL2 := (ran u1).2.2.1
      have RL3 := (ran v1).2.2.1
      have rN3 := (ran v1).2.1
      rw [List.length_map] at rN3
      generalize runL (Ps.map LkP.L) cs ss = RL at *
      generalize hRW : runW (Ps.map LkP.L) cs ss = RW at *
      unfold RunRes at q3
      rw [r2] at q3
      generalize RL.length = rl at q3
      have kpl : (selS (fun s => decide (2 ≤ s.d)) id ss).length ≤ k := by have := selS_le (fun s => decide (2 ≤ s.d)) id ss; omega
      have q4 := fun W (A4 : Option Addr) (c4 N4 : Nat) (hN : (selS (fun s => decide (2 ≤ s.d)) id ss).length = N4) (h : Below w0.heap.size w0 W) (h2 : Shows W A4 (selS (fun s => decide (2 ≤ s.d)) id ss)) => drun_any A cp n Ps X cx m cs A4 c4 N4 (selS (fun s => decide (2 ≤ s.d)) id ss) W hn hm hN (by omega) (by omega) (by omega) (hL.below h) (hcs.below h) h2 (ht.below h)
      have q5 := fun W (A4 : Option Addr) (c4 N4 : Nat) (hN : (selS (fun s => decide (2 ≤ s.d)) id ss).length = N4) (h : Below w0.heap.size w0 W) (h2 : Shows W A4 ((selS (fun s => decide (2 ≤ s.d)) id ss).map set3)) => drun_any A cp n Ps X cx m cs A4 c4 N4 ((selS (fun s => decide (2 ≤ s.d)) id ss).map set3) W hn hm (by rw [List.length_map]; exact hN) (by omega) (by omega) (by omega) (hL.below h) (hcs.below h) h2 (ht.below h)
      rw [RL2, u2] at q4
      rw [RL3] at q5
      have lnB : (selB (fun s => decide (2 ≤ s.d)) ss RW).length = (selS (fun s => decide (2 ≤ s.d)) id ss).length := sel_len (by rw [hk, r2])
      have snS := fun (j : Nat) (s : Sh4) (h : ss[j]? = some s) => selS_snoc (q := fun s => decide (2 ≤ s.d)) (f := id) h
      have snB := fun (j : Nat) (s : Sh4) (o : Bool) (h : ss[j]? = some s) (h2 : RW[j]? = some o) => selB_snoc (q := fun s => decide (2 ≤ s.d)) h h2
      have leS := fun (j : Nat) => selS_le (fun s => decide (2 ≤ s.d)) id (ss.take j)
      have leB := fun (j : Nat) => sel_len (q := fun s => decide (2 ≤ s.d)) (f := id) (l := ss.take j) (o := RW.take j) (by rw [List.length_take, List.length_take, hk, r2])
      have endS : selS (fun s => decide (2 ≤ s.d)) id (ss.take k) = selS (fun s => decide (2 ≤ s.d)) id ss := by rw [List.take_of_length_le (by omega)]
      have endB : selB (fun s => decide (2 ≤ s.d)) (ss.take k) (RW.take k) = selB (fun s => decide (2 ≤ s.d)) ss RW := by rw [List.take_of_length_le (by omega), List.take_of_length_le (by omega)]
      unfold RunRes at q4 q5
      rw [lnB] at q4
      rw [rN3] at q5
      generalize runW (Ps.map LkP.L) cs ((selS (fun s => decide (2 ≤ s.d)) id ss).map set3) = WH at *
      generalize runL (Ps.map LkP.L) cs ((selS (fun s => decide (2 ≤ s.d)) id ss).map set3) = LH at *
      generalize runL (Ps.map LkP.L) cs (selS (fun s => decide (2 ≤ s.d)) id ss) = LK at *
      generalize hKP : selS (fun s => decide (2 ≤ s.d)) id ss = KP at *
      generalize hWB : selB (fun s => decide (2 ≤ s.d)) ss RW = WB at *
      clear u1 u2 v1 RL2 RL3
      have ⟨H_q1, H_q2, H_q3, H_q4, H_q5, H_bb0, H_hL, H_hcs⟩ := hid8 q1 q2 q3 q4 q5 bb0 hL hcs; clear q1 q2 q3 q4 q5 bb0 hL hcs; have ⟨H_hss, H_ht, H_hB, H_hn, H_hm, H_hk, H_r2, H_r3⟩ := hid8 hss ht hB hn hm hk r2 r3; clear hss ht hB hn hm hk r2 r3; have ⟨H_r5, H_u3, H_v2, H_rN3, H_lnB, H_snS, H_snB, H_leS⟩ := hid8 r5 u3 v2 rN3 lnB snS snB leS; clear r5 u3 v2 rN3 lnB snS snB leS; have ⟨H_leB, H_endS, H_endB, H_hKP, H_hWB, H_kpl, H_hRW⟩ := hid7 leB endS endB hKP hWB kpl hRW; clear leB endS endB hKP hWB kpl hRW
      go_enter Tryd.func4, Tryd.ntmps4
      go_wp2_with fail
      (with_reducible refine (H_q1.out).mono ?_)
      rintro e w1 ⟨rfl, b1⟩
      have c1 : Below w0.heap.size w0 w1 := Below.trans belt (b1.mono omh)
      have s1 := c1.size
      have bb1 := H_bb0.out.trans (c1.mono H_bb0.out.size)
      have ⟨H_b1, H_c1, H_bb1⟩ := hid3 b1 c1 bb1; clear b1 c1 bb1
      go_wp2_with fail
      (with_reducible refine (H_q2.out _ ?_).mono ?_)
      · exact H_bb1.out.trans ((show Below w1.heap.size w1 _ from belt).mono H_bb1.out.size)
      rintro e w2 ⟨rfl, b2⟩
      have c2 : Below w1.heap.size w1 w2 := Below.trans belt (b2.mono omh)
      have s2 := c2.size
      have bb2 := H_bb1.out.trans (c2.mono H_bb1.out.size)
      have ⟨H_b2, H_c2, H_bb2⟩ := hid3 b2 c2 bb2; clear b2 c2 bb2
      go_wp2_with fail
      (with_reducible refine (H_q3.out _ ?_).mono ?_)
      · exact H_bb2.out.trans ((show Below w2.heap.size w2 _ from belt).mono H_bb2.out.size)
      rintro e w3 ⟨A3, cc3, P3, O3, kk3, rfl, _, _, ob3, _, _, b3⟩
      have c3 : Below w2.heap.size w2 w3 := Below.trans belt (b3.mono omh)
      have s3 := c3.size
      have bb3 := H_bb2.out.trans (c3.mono H_bb2.out.size)
      have ⟨H_b3, H_c3, H_bb3⟩ := hid3 b3 c3 bb3; clear b3 c3 bb3
      have H_ob3 := Lib.hid ob3; clear ob3
      go_upto_region 12 with (fail)
      go_loopw [11, 12, 13] (fun u v i wr => ∃ (j : Nat) (A4 : Option Addr) (N4 c4 : Nat) (A5 : Option Addr) (N5 c5 : Nat), j ≤ k ∧ u = .slice A4 N4 c4 ∧ v = .slice A5 N5 c5 ∧ i = .int .i64 j ∧ (selS (fun s => decide (2 ≤ s.d)) id (ss.take j)).length = N4 ∧ OwnS wr w3.heap.size A4 c4 (selS (fun s => decide (2 ≤ s.d)) id (ss.take j)) ∧ (selB (fun s => decide (2 ≤ s.d)) (ss.take j) (RW.take j)).length = N5 ∧ OwnB wr w3.heap.size A5 c5 (selB (fun s => decide (2 ≤ s.d)) (ss.take j) (RW.take j)) ∧ Below w3.heap.size w3 wr) (fun _ _ i _ => k - (intOf i).toNat)
      case atStart => exact ⟨0, none, 0, 0, none, 0, 0, by omega, rfl, rfl, rfl, rfl, OwnRows.nil _ _ _ _ _, rfl, OwnRows.nil _ _ _ _ _, Below.refl _ _⟩
      case round =>
        obtain ⟨j, A4, N4, c4, A5, N5, c5, hj, rfl, rfl, rfl, l4, ow4, l5, ow5, bz⟩ := hrel
        have szw := bz.size
        by_cases hlt : j < k
        rotate_left
        · have g1 : ¬ (j : Int) < (k : Int) := by omega
          have ej : j = k := by omega
          subst ej
          rw [H_endS.out] at l4 ow4
          rw [H_endB.out] at l5 ow5
          have ln5 : N5 = N4 := by rw [← l5, ← l4]; exact H_lnB.out
          subst ln5
          have hN4 : N5 ≤ 20 := by have := H_kpl.out; omega
          obtain ⟨w6, hw6⟩ : ∃ W, wr = W := ⟨_, rfl⟩
          rw [hw6] at ow4 ow5 bz szw ⊢
          have bb6 := H_bb3.out.trans (bz.mono H_bb3.out.size)
          have sz6 := bb6.size
          have hs6 := ow4.shows
          have bl6 := ow5.bls
          have ⟨H_l4, H_l5, H_ow4, H_ow5, H_bz, H_bb6, H_hw6, H_hs6⟩ := hid8 l4 l5 ow4 ow5 bz bb6 hw6 hs6; clear l4 l5 ow4 ow5 bz bb6 hw6 hs6; have H_bl6 := Lib.hid bl6; clear bl6
          have q4' := H_q4.out
          have q5' := H_q5.out
          rw [H_l4.out] at q4' q5'
          clear H_q4 H_q5
          have ⟨H_q4', H_q5'⟩ := hid2 q4' q5'; clear q4' q5'
          go_wp2_with fail
          (with_reducible refine (H_q4'.out _ _ _ _ rfl ?_ ?_).mono ?_)
          · exact H_bb6.out.trans ((show Below w6.heap.size w6 _ from belt).mono sz6)
          · exact H_hs6.out.below (show Below w6.heap.size w6 _ from belt)
          rintro e w7 ⟨A7, cc7, P7, O7, kk7, rfl, _, _, ob7, _, _, b7⟩
          have c7 : Below w6.heap.size w6 w7 := Below.trans belt (b7.mono omh)
          have s7 := c7.size
          have bb7 := H_bb6.out.trans (c7.mono H_bb6.out.size)
          have ⟨H_b7, H_c7, H_bb7⟩ := hid3 b7 c7 bb7; clear b7 c7 bb7
          have bl7 := H_bl6.out.below H_c7.out
          have hs7 := H_hs6.out.below H_c7.out
          have s67 := H_c7.out.size
          obtain ⟨i0, hi0, hz0, hz1, hz2⟩ := info_parts infoShow
          have ⟨H_ob7, H_bl7, H_hs7, H_hi0, H_hz0, H_hz1, H_hz2⟩ := hid7 ob7 bl7 hs7 hi0 hz0 hz1 hz2; clear ob7 bl7 hs7 hi0 hz0 hz1 hz2
          go_upto_region 20 with (fail)
          refine wp_region_list ?_
          (try simp only [List.toList_toArray])
          refine wpList_plain rfl fun K hK => ?_
          go_simp
          refine hK _ _ ?_
          clear hK K
          refine wpList_plain rfl fun K hK => ?_
          go_simp
          refine hK _ _ ?_
          clear hK K
          (try simp only [apz])
          have own0 : OwnS (w7.alloc (.cells #[] 35)) w7.heap.size (some ⟨w7.heap.size, 0, none⟩) 0 [] := World.ownsRow_made w7 #[] 0 (Nat.le_refl _) (Nat.zero_le _) (by simp)
          refine wp_app_gen (At := Sh4At) _ rfl (.tmp 84) (.tmp 85) _ rfl i0 _ 32 Tryd.underlying24 H_hi0.out H_hz0.out H_hz1.out H_hz2.out rfl (by decide) sh4_len sh4_one (fun _ _ h => h) 0 rfl rfl own0 A4 c4 N5 KP H_l4.out rfl (H_hs7.out.below (alloc_below _ _)) (by unfold maxLen; omega) (by omega) (by simp) ?_
          intro A8 c8 w8 ow8 gr8 _
          have b8 : Below w7.heap.size w7 w8 := (alloc_below w7 (.cells #[] 35)).grown gr8 (by simp) (fun r e => by cases e; exact Nat.le_refl _)
          obtain ⟨g, hg, hA8, bk8⟩ := OwnS.blk (l := KP) ow8 b8.size
          have bl8 := H_bl7.out.below b8
          have hs8 := H_hs7.out.below b8
          have ob8 := H_ob7.out.below b8
          have bb8 := H_bb7.out.trans (b8.mono H_bb7.out.size)
          have z07 := H_bb7.out.size
          have z8 := b8.size
          clear own0 gr8 ow8
          rw [Nat.zero_add]
          have ⟨H_b8, H_bk8, H_bl8, H_hs8, H_ob8, H_bb8, H_hA8⟩ := hid7 b8 bk8 bl8 hs8 ob8 bb8 hA8; clear b8 bk8 bl8 hs8 ob8 bb8 hA8
          go_wp2_with fail
          go_loopw [18] (fun i wr => ∃ j : Nat, j ≤ N5 ∧ i = .int .i64 j ∧ BlkS wr g (fill3 KP j) ∧ w8.grownBy wr (some g)) (fun i _ => N5 - (intOf i).toNat)
          case atStart => exact ⟨0, by omega, rfl, H_bk8.out, grown_refl _ _⟩
          case round =>
            obtain ⟨j9, hj9, rfl, bk9, gr9⟩ := hrel
            obtain ⟨w9, hw9⟩ : ∃ W, wr = W := ⟨_, rfl⟩
            rw [hw9] at bk9 gr9 ⊢
            have z9 := gr9.size
            by_cases hlt9 : j9 < N5
            · obtain ⟨s, hs⟩ : ∃ s, KP[j9]? = some s := ⟨_, List.getElem?_eq_getElem (by rw [H_l4.out]; exact hlt9)⟩
              have eA : A8 = some ⟨g, 0, none⟩ := H_hA8.out (fun e => by rw [e] at hs; simp at hs)
              subst eA
              have cel := bk9.at (fill3_at hs) (j := 3) rfl
              have put := bk9.put (fill3_at hs)
              rw [fill3_set hs] at put
              have gput := grown_then gr9 (grown_set (grown_refl w9 (some g)) (j9 * 4 + 3) (.int .i64 3)) (.inl rfl)
              have ca := cel.at
              have cf := cel.free
              have cl := cel.lt
              have i1 : (j9 : Int) < (N5 : Int) := by omega
              have i0' : (0 : Int) ≤ (j9 : Int) := by omega
              clear cel
              have ⟨H_bk9, H_gr9, H_hs, H_put, H_gput, H_hw9⟩ := hid6 bk9 gr9 hs put gput hw9; clear bk9 gr9 hs put gput hw9
              go_wp2_with fail
              go_roundw
              case rel => exact ⟨j9 + 1, by omega, by go_num, H_put.out, H_gput.out⟩
              case measure => simp [intOf]; omega
            · have i1 : ¬ (j9 : Int) < (N5 : Int) := by omega
              have ej : j9 = N5 := by omega
              rw [ej, ← H_l4.out, fill3_all] at bk9
              have sh9 : Shows w9 A8 (KP.map set3) := by
                by_cases hK : KP = []
                · rw [hK]; exact RowsAt.nil
                · rw [H_hA8.out hK]; exact bk9.shows
              have b9 : Below w7.heap.size w7 w9 := H_b8.out.grown gr9 z8 (fun r e => by cases e; exact hg)
              have bl9 := H_bl7.out.below b9
              have hs9 := H_hs7.out.below b9
              have ob9 := H_ob7.out.below b9
              have bb9 := H_bb7.out.trans (b9.mono z07)
              have z09 := bb9.size
              clear bk9
              have ⟨H_gr9, H_hw9, H_sh9, H_b9, H_bl9, H_hs9, H_ob9, H_bb9⟩ := hid8 gr9 hw9 sh9 b9 bl9 hs9 ob9 bb9; clear gr9 hw9 sh9 b9 bl9 hs9 ob9 bb9
              go_wp2_with fail
              (with_reducible refine (H_q5'.out _ _ _ _ rfl ?_ ?_).mono ?_)
              · exact H_bb9.out.trans ((show Below w9.heap.size w9 _ from belt).mono z09)
              · exact H_sh9.out.below (show Below w9.heap.size w9 _ from belt)
              rintro e w10 ⟨A10, cc10, P10, O10, kk10, rfl, _, _, ob10, _, _, b10⟩
              have c10 : Below w9.heap.size w9 w10 := Below.trans belt (b10.mono omh)
              have s10 := c10.size
              have bb10 := H_bb9.out.trans (c10.mono H_bb9.out.size)
              have ⟨H_b10, H_c10, H_bb10⟩ := hid3 b10 c10 bb10; clear b10 c10 bb10
              have bl10 := H_bl9.out.below H_c10.out
              have hs10 := H_hs9.out.below H_c10.out
              have oc10 := H_ob9.out.below H_c10.out
              have q6 := fun W (h : Below w10.heap.size w10 W) => rdbools_any O7 kk7 N5 WB A5 c5 N5 WB W H_l5.out H_l5.out (by omega) (by omega) (oc10.below h) (bl10.below h)
              rw [decide_eq_true rfl] at q6
              have ⟨H_ob10, H_bl10, H_hs10, H_oc10, H_q6⟩ := hid5 ob10 bl10 hs10 oc10 q6; clear ob10 bl10 hs10 oc10 q6
              go_wp2_with fail
              (with_reducible refine (H_q6.out _ ?_).mono ?_)
              · exact (show Below w10.heap.size w10 _ from belt)
              rintro e w11 ⟨rfl, b11⟩
              have c11 : Below w10.heap.size w10 w11 := Below.trans belt (b11.mono omh)
              have s11 := c11.size
              have bb11 := H_bb10.out.trans (c11.mono H_bb10.out.size)
              have ⟨H_b11, H_c11, H_bb11⟩ := hid3 b11 c11 bb11; clear b11 c11 bb11
              go_wp2_with fail
              go_loopw [7, 22] (fun u i wr => ∃ j : Nat, j ≤ N5 ∧ u = .bool true ∧ i = .int .i64 j ∧ Below w10.heap.size w10 wr) (fun _ i _ => N5 - (intOf i).toNat)
              case atStart => exact ⟨0, by omega, rfl, rfl, H_c11.out⟩
              case round =>
                obtain ⟨l, hl2, rfl, rfl, by2⟩ := hrel
                obtain ⟨w12, hw12⟩ : ∃ W, wr = W := ⟨_, rfl⟩
                rw [hw12] at by2 ⊢
                have bz12 := H_bb10.out.trans (by2.mono H_bb10.out.size)
                by_cases hlt2 : l < N5
                rotate_left
                · have g4 : ¬ (l : Int) < (N5 : Int) := by omega
                  have ⟨H_by2, H_bz12, H_hw12⟩ := hid3 by2 bz12 hw12; clear by2 bz12 hw12
                  go_wp2_with fail
                  go_ret
                  exact ⟨rfl, H_bz12.out⟩
                have g4 : (l : Int) < (N5 : Int) := by omega
                have g5 : (0 : Int) ≤ (l : Int) := by omega
                obtain ⟨s, hs⟩ : ∃ s, KP[l]? = some s := ⟨_, List.getElem?_eq_getElem (by rw [H_l4.out]; exact hlt2)⟩
                obtain ⟨hd, b, hb1, hb2⟩ := H_v2.out l s hs
                obtain ⟨x1, y1, rfl, zz1, m0, m1, m2, m3⟩ := (H_hs10.out.below by2).at hs
                obtain ⟨x2, y2, rfl, zz2, n1⟩ := (H_bl10.out.below by2).at hb2
                obtain ⟨x3, y3, rfl, zz3, n3⟩ := (H_ob10.out.below by2).at hb1
                have ⟨H_by2, H_bz12, H_hw12, H_hs, H_hb1, H_hb2⟩ := hid6 by2 bz12 hw12 hs hb1 hb2; clear by2 bz12 hw12 hs hb1 hb2
                rcases hd with hd | hd
                · rw [hd, decide_eq_false (by omega), Bool.false_and] at n1
                  rw [hd] at m3
                  go_upto_region 31 with (fail)
                  go_quiet (fail)
                  go_wp2_with fail
                  go_roundw
                  case rel => exact ⟨l + 1, by omega, rfl, by go_num, by first | exact H_by2.out | exact below_drewN H_by2.out _⟩
                  case measure => simp [intOf]; omega
                · rw [hd, decide_eq_true rfl, Bool.true_and] at n1
                  rw [hd] at m3
                  cases b
                  all_goals
                    go_upto_region 31 with (fail)
                    go_quiet (fail)
                    go_wp2_with fail
                    go_roundw
                    case rel => exact ⟨l + 1, by omega, rfl, by go_num, by first | exact H_by2.out | exact below_drewN H_by2.out _⟩
                    case measure => simp [intOf]; omega
        have g1 : (j : Int) < (k : Int) := by omega
        have g0 : (0 : Int) ≤ (j : Int) := by omega
        obtain ⟨s, hs⟩ : ∃ s, ss[j]? = some s := ⟨_, List.getElem?_eq_getElem (by rw [H_hk.out]; exact hlt)⟩
        obtain ⟨o, ho⟩ : ∃ s, RW[j]? = some s := ⟨_, List.getElem?_eq_getElem (by rw [H_r2.out]; exact hlt)⟩
        have e4 := H_snS.out j s hs
        have e5 := H_snB.out j s o hs ho
        have bw := H_bb3.out.trans (bz.mono H_bb3.out.size)
        obtain ⟨bs, os, rfl, zs, c0, c1, c2, c3'⟩ := (H_hss.out.below bw).at hs
        obtain ⟨bo, oo, rfl, zo, d0⟩ := (H_ob3.out.below bz).at ho
        have hN4 : N4 ≤ 20 := by
          have := H_leS.out j
          rw [l4, List.length_take, H_hk.out] at this; omega
        have hN5 : N5 ≤ 20 := by
          have := H_leB.out j
          rw [l4, l5] at this; omega
        have hne := OwnRows.ne' (by decide) ow4 ow5
        generalize selS (fun s => decide (2 ≤ s.d)) id (ss.take j) = L4 at *
        generalize selB (fun s => decide (2 ≤ s.d)) (ss.take j) (RW.take j) = L5 at *
        by_cases hd : 2 ≤ s.d
        rotate_left
        · have of := H_u3.out j s o hs ho (by omega)
          subst of
          have dd : decide (2 ≤ s.d) = false := decide_eq_false hd
          rw [if_neg (by rw [dd]; simp), List.append_nil] at e4 e5
          have ⟨H_e4, H_e5, H_l4, H_l5, H_ow4, H_ow5, H_bz, H_bw⟩ := hid8 e4 e5 l4 l5 ow4 ow5 bz bw; clear e4 e5 l4 l5 ow4 ow5 bz bw; have ⟨H_hs, H_ho, H_hne⟩ := hid3 hs ho hne; clear hs ho hne
          go_wp2_with fail
          go_roundw
          case rel => exact ⟨j + 1, A4, N4, c4, A5, N5, c5, by omega, rfl, rfl, by go_num, by rw [H_e4.out]; exact H_l4.out, by rw [H_e4.out]; exact H_ow4.out, by rw [H_e5.out]; exact H_l5.out, by rw [H_e5.out]; exact H_ow5.out, H_bz.out⟩
          case measure => simp [intOf]; omega
        · have dd : decide (2 ≤ s.d) = true := decide_eq_true hd
          rw [if_pos dd] at e4 e5
          have ⟨H_e4, H_e5, H_l4, H_l5, H_ow4, H_ow5, H_bz, H_bw⟩ := hid8 e4 e5 l4 l5 ow4 ow5 bz bw; clear e4 e5 l4 l5 ow4 ow5 bz bw; have ⟨H_hs, H_ho, H_hne⟩ := hid3 hs ho hne; clear hs ho hne
          go_upto_region 15 with (fail)
          go_wp2_with (at_builtin; refine wp_app_show _ rfl (.tmp 58) (.tmp 63) rfl w3.heap.size A4 (some ⟨wr.heap.size, 0, none⟩) c4 1 N4 L4 s H_l4.out (by omega) rfl rfl (OwnRows.alloc H_ow4.out _) (shows_new wr s _ _ rfl) (by simp; omega) ?_)
          intro A9 c9 w9 ow9 gr9
          have b9 : Below w3.heap.size w3 w9 := (H_bz.out.alloc szw _).grown gr9 (by simp; omega) (fun r e => (H_ow4.out.lt r e).1)
          have ow59 : OwnB w9 w3.heap.size A5 c5 L5 := OwnRows.kept (OwnRows.alloc H_ow5.out _) gr9 H_hne.out
          have hne9 := OwnRows.ne' (by decide) ow59 ow9
          obtain ⟨bo', oo', eo, zo9, d9⟩ := (H_ob3.out.below b9).at H_ho.out
          cases eo
          have s9 := b9.size
          clear d0 c0 c1 c2 c3'
          have ⟨H_ow9, H_gr9, H_b9, H_ow59, H_hne9⟩ := hid5 ow9 gr9 b9 ow59 hne9; clear ow9 gr9 b9 ow59 hne9
          go_wp2_with (at_builtin; refine wp_app_bool _ rfl (.tmp 65) (.tmp 70) rfl w3.heap.size A5 (some ⟨w9.heap.size, 0, none⟩) c5 1 N5 L5 o H_l5.out (by omega) rfl rfl (OwnRows.alloc H_ow59.out _) (bls_new w9 o _ _ rfl) (by simp; omega) ?_)
          intro A10 c10 w10 ow10 gr10
          have b10 : Below w3.heap.size w3 w10 := (H_b9.out.alloc s9 _).grown gr10 (by simp; omega) (fun r e => (H_ow59.out.lt r e).1)
          have ow90 : OwnS w10 w3.heap.size A9 c9 (L4 ++ [s]) := OwnRows.kept (OwnRows.alloc H_ow9.out _) gr10 H_hne9.out
          have ⟨H_ow10, H_gr10, H_b10, H_ow90⟩ := hid4 ow10 gr10 b10 ow90; clear ow10 gr10 b10 ow90
          go_wp2_with fail
          go_roundw
          case rel => exact ⟨j + 1, A9, N4 + 1, c9, A10, N5 + 1, c10, by omega, rfl, rfl, by go_num, by rw [H_e4.out, List.length_append, H_l4.out]; rfl, by rw [H_e4.out]; exact H_ow90.out, by rw [H_e5.out, List.length_append, H_l5.out]; rfl, by rw [H_e5.out]; exact H_ow10.out, H_b10.out⟩
          case measure => simp [intOf]; omega
end Go.Proofs.YtclgncaghiinhaaDoor

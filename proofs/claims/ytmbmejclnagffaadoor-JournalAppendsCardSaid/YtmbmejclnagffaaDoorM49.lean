/- The walk of JournalAppends. -/
import Derived.Test.YtmbmejclnagffaaDoorM22
import Derived.Test.YtmbmejclnagffaaDoorM48
set_option linter.unusedSimpArgs false
set_option linter.unusedVariables false
set_option maxRecDepth 100000
namespace Go.Proofs.YtmbmejclnagffaaDoor
open Go.RowKit
set_option maxHeartbeats 32000000 in
set_option maxRecDepth 100000 in
theorem journalAppends_walk (party sec : Int) (E : Option Addr) (ce : Nat) (l : List Ent) (w : World) (hp0 : (Lit.int .i64 party).wf = true) (_ : (Lit.int .i64 sec).wf = true) (he : EntsArg w E ce l) (ht : JTab w) :
    Calls Tryd.prog 3 #[.int .i64 party, .int .i64 sec, .slice E l.length ce] w fun e w' => e = .returned (.bool true) ∧ Below w.heap.size w w' := by
  obtain ⟨N, hN⟩ : ∃ N, l.length = N := ⟨_, rfl⟩
  rw [hN]
  have hpf := wf_i64 hp0
  have hr := he.reach
  rw [hN] at hr
  have e0 := he.at_
  have t0 := ht.1
  have m0 := ht.2
  have bb0 := Below.refl w.heap.size w
  obtain ⟨w0, hw0⟩ : ∃ W, w = W := ⟨_, rfl⟩
  have q1 := fun W h1 h2 => head39_any W h1 h2
  have q2 := fun W b hc => usableD_any party sec b 1 1 [N] rfl (by omega) (by rw [sum_one]; omega) W hc
  rw [sum_one] at q2
  have q3 := fun W => public_all sec W
  have q5 := fun (hp : ptyB party = true) (hs : wthB sec 1 = true) => @chkE_pub party sec hp hs
  have hUse := @use_parts party sec N
  obtain ⟨pub, hpub⟩ : ∃ p, pubV sec = p := ⟨_, rfl⟩
  rw [hpub] at q3 q5
  have hi1 : -9223372036854775808 ≤ party ∧ party ≤ 9223372036854775807 := hpf
  rw [hw0] at e0 t0 m0 bb0 ⊢
  generalize hUB : useB party sec N = UB at *
  have ⟨H_hi1, H_hUB, H_hw0, H_hpub, H_q1, H_q2, H_q3, H_q5⟩ := hid8 hi1 hUB hw0 hpub q1 q2 q3 q5; clear hi1 hUB hw0 hpub q1 q2 q3 q5; have ⟨H_hUse, H_he, H_ht, H_hN, H_e0, H_t0, H_m0, H_bb0⟩ := hid8 hUse he ht hN e0 t0 m0 bb0; clear hUse he ht hN e0 t0 m0 bb0; have H_hp0 := Lib.hid hp0; clear hp0
  go_enter Tryd.func3, Tryd.ntmps3
  go_wp2_with fail
  (with_reducible refine (H_q1.out _ ?_ ?_).mono ?_)
  · exact H_t0.out.below (show Below w0.heap.size w0 _ from belt)
  · exact H_m0.out.below (show Below w0.heap.size w0 _ from belt)
  rintro e w1 ⟨rfl, b1⟩
  have c1 : Below w0.heap.size w0 w1 := Below.trans belt (b1.mono omh)
  have s1 := c1.size
  have bb1 := H_bb0.out.trans (c1.mono H_bb0.out.size)
  have e1 := H_e0.out.below c1
  have t1 := H_t0.out.below c1
  have m1 := H_m0.out.below c1
  have ⟨H_b1, H_c1, H_bb1, H_e1, H_t1, H_m1⟩ := hid6 b1 c1 bb1 e1 t1 m1; clear b1 c1 bb1 e1 t1 m1
  go_wp2_with fail
  (with_reducible refine (H_q2.out _ _ ?_).mono ?_)
  · exact use_one rfl
  rintro e w2 ⟨rfl, b2⟩
  have c2 : Below w1.heap.size w1 w2 := Below.trans belt (b2.mono omh)
  have s2 := c2.size
  have bb2 := H_bb1.out.trans (c2.mono H_bb1.out.size)
  have e2 := H_e1.out.below c2
  have t2 := H_t1.out.below c2
  have m2 := H_m1.out.below c2
  have ⟨H_b2, H_c2, H_bb2, H_e2, H_t2, H_m2⟩ := hid6 b2 c2 bb2 e2 t2 m2; clear b2 c2 bb2 e2 t2 m2
  cases UB with
  | false =>
    go_wp2_with fail
    go_ret
    exact ⟨rfl, H_bb2.out⟩
  | true =>
    obtain ⟨hp, hs, hN20⟩ := H_hUse.out rfl
    have e0 : errV (wthB sec 1) = 0 := by rw [hs]; rfl
    have eC := H_q5.out hp hs
    have q3 := H_q3.out
    rw [e0] at q3
    have ⟨H_hp, H_hs, H_e0, H_eC, H_q3⟩ := hid5 hp hs e0 eC q3; clear hp hs e0 eC q3
    go_wp2_with fail
    (with_reducible refine (H_q3.out _).mono ?_)
    rintro e w3 ⟨rfl, b3⟩
    have c3 : Below w2.heap.size w2 w3 := Below.trans belt (b3.mono omh)
    have s3 := c3.size
    have bb3 := H_bb2.out.trans (c3.mono H_bb2.out.size)
    have e3 := H_e2.out.below c3
    have t3 := H_t2.out.below c3
    have m3 := H_m2.out.below c3
    have ⟨H_b3, H_c3, H_bb3, H_e3, H_t3, H_m3⟩ := hid6 b3 c3 bb3 e3 t3 m3; clear b3 c3 bb3 e3 t3 m3
    go_upto_region 7 with (fail)
    go_upto_region 8 with (fail)
    obtain ⟨w4, hw4⟩ : ∃ W, w3.alloc (.cells #[.slice none 0 0, .int .i64 0, .int .i64 0, .int .u64 0, .int .i64 0, .int .i64 0] 35) = W := ⟨_, rfl⟩
    rw [hw4]
    have d4 : Below w3.heap.size w3 w4 := by rw [← hw4]; exact (Below.refl _ _).alloc (Nat.le_refl _) _
    have bb4 := H_bb3.out.trans (d4.mono H_bb3.out.size)
    have e4 := H_e3.out.below d4
    have t4 := H_t3.out.below d4
    have m4 := H_m3.out.below d4
    have j4 : Blk w4 w3.heap.size #[.slice none 0 0, .int .i64 0, .int .i64 0, .int .u64 0, .int .i64 0, .int .i64 0] := by rw [← hw4]; exact blk_new rfl
    have s4 : w3.heap.size < w4.heap.size := by rw [← hw4]; simp
    have ⟨H_hw4, H_d4, H_bb4, H_e4, H_t4, H_m4, H_j4⟩ := hid7 hw4 d4 bb4 e4 t4 m4 j4; clear hw4 d4 bb4 e4 t4 m4 j4
    go_upto_region 9 with (fail)
    go_loopw [7, 35] (fun u i wr => ∃ (k : Nat) (X : Option Addr) (c : Nat) (ms : List Msg) (H : Hd), k ≤ N ∧ u = .bool true ∧ i = .int .i64 k ∧ Blk wr w3.heap.size #[.slice X ms.length c, .int .i64 H.p, .int .i64 H.n, .int .u64 H.c, .int .i64 H.e, .int .i64 H.s] ∧ Msgs wr X ms ∧ ms.length = k ∧ Jok ms H party sec ∧ Clear w3.heap.size w4.heap.size X ms ∧ Below w3.heap.size w3 wr ∧ w4.heap.size ≤ wr.heap.size ∧ k ≤ c ∧ c ≤ maxLen) (fun _ i _ => N - (intOf i).toNat)
    case atStart => exact ⟨0, none, 0, [], hd0, by omega, rfl, rfl, H_j4.out, RowsAt.nil, rfl, Jok.nil _ _, ⟨fun _ _ h => absurd rfl h, fun m hm => by cases hm⟩, H_d4.out, Nat.le_refl _, by omega, by unfold maxLen; omega⟩
    case round =>
      obtain ⟨k, X, c, m2, H, hk, rfl, rfl, kr, lr, hm2, hjr, clr, bz, sz0, cpr1, cpr2⟩ := hrel
      have bbr := H_bb3.out.trans (bz.mono H_bb3.out.size)
      have er := H_e3.out.below bz
      have tr := H_t3.out.below bz
      have mr := H_m3.out.below bz
      rw [hm2] at kr
      by_cases hlt : k < N
      · have g1 : (k : Int) < (N : Int) := by omega
        have g2 : (0 : Int) ≤ (k : Int) := by omega
        obtain ⟨x, hx⟩ : ∃ x, l[k]? = some x := ⟨_, List.getElem?_eq_getElem (by rw [H_hN.out]; exact hlt)⟩
        obtain ⟨b, off, hE, hbl, ⟨fx, _, xi⟩, e0, e1, e2⟩ := er.at hx
        subst hE
        have q4 := fun W h1 h2 h3 h4 => jput_any X c k m2 H party x x.a.length sec hm2 (by omega) hjr.fit rfl hjr.frm H_hp.out H_hs.out fx (by have := hjr.last; omega) W h1 h2 h3 h4
        unfold PutAt at q4
        rw [hm2] at q4
        have hjp := fun B kc => hjr.put H_hp.out H_hs.out fx (by omega) B kc
        rw [hm2] at hjp
        have hkd : kd x = 1 + x.k % 9 := rfl
        have hpM : ∀ B kc, (putM m2 party x B kc).p = party ∧ (putM m2 party x B kc).s = (k : Int) + 1 ∧ (putM m2 party x B kc).k = 1 + x.k % 9 := fun B kc => ⟨rfl, by show (m2.length : Int) + 1 = _; rw [hm2], rfl⟩
        have hxk := fx.k
        generalize x.a.length = xn at *
        generalize x.t = xt at *
        generalize x.k = xk at *
        generalize H.p = p1 at *
        generalize H.n = p2 at *
        generalize H.c = p3 at *
        generalize H.e = p4 at *
        generalize H.s = p5 at *
        have k20 : k ≤ 19 := by omega
        have hml := hjr.len
        have d9 : xk.tmod 9 = xk % 9 := Int.tmod_eq_emod_of_nonneg hxk.1
        have ⟨H_hx, H_fx, H_xi, H_q4, H_hjp, H_kr, H_lr, H_hjr⟩ := hid8 hx fx xi q4 hjp kr lr hjr; clear hx fx xi q4 hjp kr lr hjr; have ⟨H_clr, H_bz, H_tr, H_mr, H_er, H_hm2, H_cpr1, H_cpr2⟩ := hid8 clr bz tr mr er hm2 cpr1 cpr2; clear clr bz tr mr er hm2 cpr1 cpr2; have ⟨H_bbr, H_hml, H_hpM, H_hkd⟩ := hid4 bbr hml hpM hkd; clear bbr hml hpM hkd
        go_upto_region 11 with (fail)
        obtain ⟨w5, hw5⟩ : ∃ W, wr.alloc (.cells #[.int .u16 xt, .int .u8 xk, .slice x.A xn x.c] 39) = W := ⟨_, rfl⟩
        rw [hw5]
        have d5 : Below wr.heap.size wr w5 := by rw [← hw5]; exact (Below.refl _ _).alloc (Nat.le_refl _) _
        have y5 : Blk w5 wr.heap.size #[.int .u16 xt, .int .u8 xk, .slice x.A xn x.c] := by rw [← hw5]; exact blk_new rfl
        have bb5 := H_bbr.out.trans (d5.mono H_bbr.out.size)
        have bz5 := H_bz.out.trans (d5.mono H_bz.out.size)
        have k5 := H_kr.out.below d5
        have l5 := H_lr.out.below d5
        have i5 := H_xi.out.below d5
        have t5 := H_tr.out.below d5
        have m5 := H_mr.out.below d5
        have s5 := d5.size
        clear e0 e1 e2
        have ⟨H_hw5, H_d5, H_y5, H_bb5, H_bz5, H_k5, H_l5, H_i5⟩ := hid8 hw5 d5 y5 bb5 bz5 k5 l5 i5; clear hw5 d5 y5 bb5 bz5 k5 l5 i5; have ⟨H_t5, H_m5⟩ := hid2 t5 m5; clear t5 m5
        have u0 := (H_k5.out 0 _ rfl).at
        have u1 := (H_k5.out 1 _ rfl).at
        have u2 := (H_k5.out 2 _ rfl).at
        have u3 := (H_k5.out 3 _ rfl).at
        have u4 := (H_k5.out 4 _ rfl).at
        have u5 := (H_k5.out 5 _ rfl).at
        have v0 := (H_y5.out 0 _ rfl).at
        have v1 := (H_y5.out 1 _ rfl).at
        have v2 := (H_y5.out 2 _ rfl).at
        go_wp2_with fail
        (with_reducible refine (H_q4.out _ H_l5.out H_i5.out H_t5.out H_m5.out).mono ?_)
        rintro e w6 ⟨X6, c6, B6, kc6, H6, hH6, rfl, x6, b6, fX, fB, cp1, cp2⟩
        have bb6 := H_bb5.out.trans (b6.mono H_bb5.out.size)
        have bz6 := H_bz5.out.trans (b6.mono H_bz5.out.size)
        have k6 := H_k5.out.below b6
        have l6 := H_l5.out.below b6
        have y6 := H_y5.out.below b6
        have t6 := H_t5.out.below b6
        have m6 := H_m5.out.below b6
        have s6 := b6.size
        have hj6 := H_hjp.out B6 kc6
        rw [← hH6] at hj6
        have cl6 : Clear w3.heap.size w4.heap.size X6 (m2 ++ [putM m2 party x B6 kc6]) := H_clr.out.put (fun b off e => by have := fX b off e; omega) (fun b off h1 h2 => by have := fB b off h1 h2; omega)
        have ln6 : (m2 ++ [putM m2 party x B6 kc6]).length = k + 1 := by rw [List.length_append, H_hm2.out]; rfl
        have pr6 := x6.pre
        have pM := H_hpM.out B6 kc6
        have hz6 : (m2 ++ [putM m2 party x B6 kc6])[k]? = some (putM m2 party x B6 kc6) := by rw [List.getElem?_append_right (by rw [H_hm2.out]; omega), H_hm2.out, Nat.sub_self]; rfl
        have qS := fun W h1 h2 => rsameMs_any X6 c6 k m2 X c k m2 H_hm2.out H_hm2.out (by omega) (by omega) W h1 h2 H_hml.out H_hml.out
        rw [decide_eq_true (rfl : m2.map msI = m2.map msI)] at qS
        have qC := fun W h1 h2 h3 => jcheck_any X6 c6 (k + 1) _ H6 party pub ln6 (by omega) hj6.fit H_hi1.out W h1 h2 h3
        rw [H_eC.out, ← H_hpub.out, hj6.chk H_hp.out H_hs.out, H_hpub.out] at qC
        generalize putM m2 party x B6 kc6 = PM at *
        generalize m2 ++ [PM] = M6 at *
        generalize ha1 : H6.p = a1 at *
        generalize ha2 : H6.n = a2 at *
        generalize ha3 : H6.c = a3 at *
        generalize ha4 : H6.e = a4 at *
        generalize ha5 : H6.s = a5 at *
        clear u0 u1 u2 u3 u4 u5
        clear v0 v1 v2
        have cq1 : (k : Int) ≤ (c6 : Int) := by omega
        have ⟨H_cp1, H_cp2, H_ha1, H_ha2, H_ha3, H_ha4, H_ha5, H_hH6⟩ := hid8 cp1 cp2 ha1 ha2 ha3 ha4 ha5 hH6; clear cp1 cp2 ha1 ha2 ha3 ha4 ha5 hH6; have ⟨H_x6, H_b6, H_fX, H_fB, H_bb6, H_bz6, H_k6, H_l6⟩ := hid8 x6 b6 fX fB bb6 bz6 k6 l6; clear x6 b6 fX fB bb6 bz6 k6 l6; have ⟨H_y6, H_t6, H_m6, H_hj6, H_cl6, H_ln6, H_pr6, H_pM⟩ := hid8 y6 t6 m6 hj6 cl6 ln6 pr6 pM; clear y6 t6 m6 hj6 cl6 ln6 pr6 pM; have ⟨H_hz6, H_qS, H_qC⟩ := hid3 hz6 qS qC; clear hz6 qS qC
        go_upto_region 12 with (fail)
        obtain ⟨w7, hw7⟩ : ∃ W, w6.alloc (.cells #[.slice X6 (k + 1) c6, .int .i64 a1, .int .i64 a2, .int .u64 a3, .int .i64 a4, .int .i64 a5] 35) = W := ⟨_, rfl⟩
        rw [hw7]
        have d7 : Below w6.heap.size w6 w7 := by rw [← hw7]; exact (Below.refl _ _).alloc (Nat.le_refl _) _
        have z7 : Blk w7 w6.heap.size #[.slice X6 (k + 1) c6, .int .i64 a1, .int .i64 a2, .int .u64 a3, .int .i64 a4, .int .i64 a5] := by rw [← hw7]; exact blk_new rfl
        have bb7 := H_bb6.out.trans (d7.mono H_bb6.out.size)
        have bz7 := H_bz6.out.trans (d7.mono H_bz6.out.size)
        have k7 := H_k6.out.below d7
        have l7 := H_l6.out.below d7
        have y7 := H_y6.out.below d7
        have x7 := H_x6.out.below d7
        have r7 := H_pr6.out.below d7
        have t7 := H_t6.out.below d7
        have m7 := H_m6.out.below d7
        have s7 : w6.heap.size < w7.heap.size := by rw [← hw7]; simp
        have ⟨H_hw7, H_d7, H_z7, H_bb7, H_bz7, H_k7, H_l7, H_y7⟩ := hid8 hw7 d7 z7 bb7 bz7 k7 l7 y7; clear hw7 d7 z7 bb7 bz7 k7 l7 y7; have ⟨H_x7, H_r7, H_t7, H_m7⟩ := hid4 x7 r7 t7 m7; clear x7 r7 t7 m7
        have u0 := (H_k7.out 0 _ rfl).at
        have u1 := (H_k7.out 1 _ rfl).at
        have u2 := (H_k7.out 2 _ rfl).at
        have u3 := (H_k7.out 3 _ rfl).at
        have u4 := (H_k7.out 4 _ rfl).at
        have u5 := (H_k7.out 5 _ rfl).at
        have v0 := (H_z7.out 0 _ rfl).at
        have v1 := (H_z7.out 1 _ rfl).at
        have v2 := (H_z7.out 2 _ rfl).at
        have v3 := (H_z7.out 3 _ rfl).at
        have v4 := (H_z7.out 4 _ rfl).at
        have v5 := (H_z7.out 5 _ rfl).at
        have lk := (H_k7.out 0 _ rfl).lt
        have wk1 : IntKind.i64.wrap ((k : Int) + 1) = (k : Int) + 1 := IntWalk.i64_in _ (by omega)
        have dk : (((k + 1 : Nat) : Int) != (k : Int) + 1) = false := by simp
        refine wp_region_held_drew (S := (fun W => (∀ b o, b < w7.heap.size → W.cell? ⟨b, o, none⟩ = w7.cell? ⟨b, o, none⟩) ∧ Below w7.heap.size w7 W)) (by kernel_rfl) ?_ (fun hHeld => ?_)
        · (try dsimp only); (first | (refine ext_mk ?_; exact belt))
        refine take_at (i := 0) (some 48) rfl rfl (by kernel_rfl) (fun _ _ _ h => h) (by rfl) (v := ?_) ?_ (by assumption) ?_
        rotate_left
        · intro W hSw; (try dsimp only at hSw); go_simp; (try with_reducible rfl)
        (try simp only [apz])
        refine take_at (i := 1) (some 49) rfl rfl (by kernel_rfl) (fun _ _ _ h => h) (by rfl) (v := ?_) ?_ (by assumption) ?_
        rotate_left
        · intro W hSw; (try dsimp only at hSw); go_simp; (try with_reducible rfl)
        (try simp only [apz])
        refine take_at (i := 2) (some 50) rfl rfl (by kernel_rfl) (fun _ _ _ h => h) (by rfl) (v := ?_) ?_ (by assumption) ?_
        rotate_left
        · intro W hSw; (try dsimp only at hSw); go_simp; (try with_reducible rfl)
        (try simp only [apz])
        refine take_at (i := 3) (some 51) rfl rfl (by kernel_rfl) (fun _ _ _ h => h) (by rfl) (v := ?_) ?_ (by assumption) ?_
        rotate_left
        · intro W hSw; (try dsimp only at hSw); go_simp; (try with_reducible rfl)
        (try simp only [apz])
        refine take_at (i := 4) (some 52) rfl rfl (by kernel_rfl) (fun _ _ _ h => h) (by rfl) (v := ?_) ?_ (by assumption) ?_
        rotate_left
        · intro W hSw; (try dsimp only at hSw); go_simp; (try with_reducible rfl)
        (try simp only [apz])
        refine take_at (i := 5) (some 53) rfl rfl (by kernel_rfl) (fun _ _ _ h => h) (by rfl) (v := ?_) ?_ (by assumption) ?_
        rotate_left
        · intro W hSw; (try dsimp only at hSw); go_simp; (try with_reducible rfl)
        (try simp only [apz])
        refine take_at (i := 6) (some 54) rfl rfl (by kernel_rfl) (fun _ _ _ h => h) (by rfl) (v := ?_) ?_ (by assumption) ?_
        rotate_left
        · intro W hSw; (try dsimp only at hSw); go_simp; (try with_reducible rfl)
        (try simp only [apz])
        refine take_at (i := 7) (some 55) rfl rfl (by kernel_rfl) (fun _ _ _ h => h) (by rfl) (v := ?_) ?_ (by assumption) ?_
        rotate_left
        · intro W hSw; (try dsimp only at hSw); go_simp; (try with_reducible rfl)
        (try simp only [apz])
        refine take_at (i := 8) (some 56) rfl rfl (by kernel_rfl) (fun _ _ _ h => h) (by rfl) (v := ?_) ?_ (by assumption) ?_
        rotate_left
        · intro W hSw; (try dsimp only at hSw); go_simp; (try with_reducible rfl)
        (try simp only [apz])
        refine take_at (i := 9) (some 57) rfl rfl (by kernel_rfl) (fun _ _ _ h => h) (by rfl) (v := ?_) ?_ (by assumption) ?_
        rotate_left
        · intro W hSw; (try dsimp only at hSw); go_simp; (try with_reducible rfl)
        (try simp only [apz])
        refine take_at (i := 10) (some 58) rfl rfl (by kernel_rfl) (fun _ _ _ h => h) (by rfl) (v := ?_) ?_ (by assumption) ?_
        rotate_left
        · intro W hSw; (try dsimp only at hSw); go_simp; (try with_reducible rfl)
        (try simp only [apz])
        refine take_at (i := 11) (some 59) rfl rfl (by kernel_rfl) (fun _ _ _ h => h) (by rfl) (v := ?_) ?_ (by assumption) ?_
        rotate_left
        · intro W hSw; (try dsimp only at hSw); go_simp; (try with_reducible rfl)
        (try simp only [apz])
        refine take_at (i := 12) (some 60) rfl rfl (by kernel_rfl) (fun _ _ _ h => h) (by rfl) (v := ?_) ?_ (by assumption) ?_
        rotate_left
        · intro W hSw; (try dsimp only at hSw); go_simp; (try with_reducible rfl)
        (try simp only [apz])
        refine take_at (i := 13) (some 61) rfl rfl (by kernel_rfl) (fun _ _ _ h => h) (by rfl) (v := ?_) ?_ (by assumption) ?_
        rotate_left
        · intro W hSw; (try dsimp only at hSw); go_simp; (try with_reducible rfl)
        (try simp only [apz])
        refine take_at (i := 14) (some 62) rfl rfl (by kernel_rfl) (fun _ _ _ h => h) (by rfl) (v := ?_) ?_ (by assumption) ?_
        rotate_left
        · intro W hSw; (try dsimp only at hSw); go_simp; (try with_reducible rfl)
        (try simp only [apz])
        refine take_at (i := 15) (some 63) rfl rfl (by kernel_rfl) (fun _ _ _ h => h) (by rfl) (v := ?_) ?_ (by assumption) ?_
        rotate_left
        · intro W hSw; (try dsimp only at hSw); go_simp; (try with_reducible rfl)
        (try simp only [apz])
        refine take_at (i := 16) (some 64) rfl rfl (by kernel_rfl) (fun _ _ _ h => h) (by rfl) (v := ?_) ?_ (by assumption) ?_
        rotate_left
        · intro W hSw; (try dsimp only at hSw); go_simp; (try with_reducible rfl)
        (try simp only [apz])
        refine wpAnyH_ready (rs := [17]) (by kernel_rfl) (by simp) ?_
        refine AllReadyH.cons rfl (fun K hK => ?_) AllReadyH.nil
        go_simp
        (go_at_call 13; (with_reducible refine (H_qS.out _ ?_ ?_).mono ?_); (focus (exact H_r7.out.below (And.right (by assumption : _ ∧ Below w7.heap.size w7 _)))); (focus (exact H_l7.out.below (And.right (by assumption : _ ∧ Below w7.heap.size w7 _)))); rintro e w8 ⟨rfl, hbw8⟩; have gw8 := Below.trans (And.right (by assumption : _ ∧ Below w7.heap.size w7 _)) (hbw8.mono (Below.size (And.right (by assumption : _ ∧ Below w7.heap.size w7 _)))); have gsw8 := gw8.size; have hcf := bcell hbw8; have hcw8 := hcf.1; have hfw8 := hcf.2; have hsw8 := hbw8.size; (try simp only [World.size_alloc, World.heap_drewN, heap_drew] at hsw8); clear hbw8 hcf; (try have hzw8 : w7.heap.size < w8.heap.size := by omega))
        refine hK.out _ _ ?_ (fun hHeld => ?_)
        · (try dsimp only); (first | (refine ext_mk ?_; exact belt))
        clear hK K
        (try simp only [apz])
        refine take_at (i := 18) (some 66) rfl rfl (by kernel_rfl) (fun _ _ _ h => h) (by rfl) (v := ?_) ?_ (by assumption) ?_
        rotate_left
        · intro W hSw; (try dsimp only at hSw); go_simp; (try with_reducible rfl)
        (try simp only [apz])
        refine take_at (i := 19) (some 67) rfl rfl (by kernel_rfl) (fun _ _ _ h => h) (by rfl) (v := ?_) ?_ (by assumption) ?_
        rotate_left
        · intro W hSw; (try dsimp only at hSw); go_simp; (try with_reducible rfl)
        (try simp only [apz])
        refine wpAnyH_done (by kernel_rfl) ?_ _
        have gF : Below w7.heap.size w7 _ := And.right (by assumption)
        have bb8 := H_bb7.out.trans (gF.mono H_bb7.out.size)
        have bz8 := H_bz7.out.trans (gF.mono H_bz7.out.size)
        have k8 := H_k7.out.below gF
        have y8 := H_y7.out.below gF
        have z8 := H_z7.out.below gF
        have x8 := H_x7.out.below gF
        have t8 := H_t7.out.below gF
        have m8 := H_m7.out.below gF
        clear hcw8 hfw8 hHeld
        clear u0 u1 u2 u3 u4 u5
        clear v0 v1 v2 v3 v4 v5
        have ⟨H_gF, H_gw8, H_bb8, H_bz8, H_k8, H_y8, H_z8, H_x8⟩ := hid8 gF gw8 bb8 bz8 k8 y8 z8 x8; clear gF gw8 bb8 bz8 k8 y8 z8 x8; have ⟨H_t8, H_m8⟩ := hid2 t8 m8; clear t8 m8
        have v0 := (H_z8.out 0 _ rfl).at
        have v1 := (H_z8.out 1 _ rfl).at
        have v2 := (H_z8.out 2 _ rfl).at
        have v3 := (H_z8.out 3 _ rfl).at
        have v4 := (H_z8.out 4 _ rfl).at
        have v5 := (H_z8.out 5 _ rfl).at
        go_wp2_with fail
        (with_reducible refine (H_qC.out _ ?_ ?_ ?_).mono ?_)
        · exact H_x8.out.below (show Below w8.heap.size w8 _ from belt)
        · exact H_t8.out.below (show Below w8.heap.size w8 _ from belt)
        · exact H_m8.out.below (show Below w8.heap.size w8 _ from belt)
        rintro e w9 ⟨rfl, b9⟩
        have c9 : Below w8.heap.size w8 w9 := Below.trans belt (b9.mono omh)
        have s9 := c9.size
        have bb9 := H_bb8.out.trans (c9.mono H_bb8.out.size)
        have k9 := H_k8.out.below c9
        have y9 := H_y8.out.below c9
        have z9 := H_z8.out.below c9
        have x9 := H_x8.out.below c9
        have t9 := H_t8.out.below c9
        have m9 := H_m8.out.below c9
        have ⟨H_b9, H_c9, H_bb9, H_k9, H_y9, H_z9, H_x9, H_t9⟩ := hid8 b9 c9 bb9 k9 y9 z9 x9 t9; clear b9 c9 bb9 k9 y9 z9 x9 t9; have H_m9 := Lib.hid m9; clear m9
        clear v0 v1 v2 v3 v4 v5
        have bz9 := H_bz8.out.trans (H_c9.out.mono H_bz8.out.size)
        have x9at := H_x9.out.at H_hz6.out
        rw [H_pM.out.1, H_pM.out.2.1, H_pM.out.2.2] at x9at
        obtain ⟨b', off', hX6, hb', _, f0, f1, f2, f3, f4⟩ := x9at
        generalize PM.A = PA at *
        generalize PM.a.length = PN at *
        generalize PM.c = PC at *
        generalize PM.t = PT at *
        have cX6 := H_cl6.out
        subst hX6
        have g5 : (k : Int) < ((k + 1 : Nat) : Int) := by omega
        have ⟨H_bz9, H_cX6⟩ := hid2 bz9 cX6; clear bz9 cX6
        have v0 := (H_z9.out 0 _ rfl).at
        have v1 := (H_z9.out 1 _ rfl).at
        have v2 := (H_z9.out 2 _ rfl).at
        have v3 := (H_z9.out 3 _ rfl).at
        have v4 := (H_z9.out 4 _ rfl).at
        have v5 := (H_z9.out 5 _ rfl).at
        have y0 := (H_y9.out 0 _ rfl).at
        have y1 := (H_y9.out 1 _ rfl).at
        have y2 := (H_y9.out 2 _ rfl).at
        go_upto_region 16 with (fail)
        obtain ⟨w10, hw10⟩ : ∃ W, w9.alloc (.cells #[.int .i64 party, .int .i64 ((k : Int) + 1), .int .i64 PT, .int .i64 (1 + xk % 9), .slice PA PN PC] 47) = W := ⟨_, rfl⟩
        rw [hw10]
        have d10 : Below w9.heap.size w9 w10 := by rw [← hw10]; exact (Below.refl _ _).alloc (Nat.le_refl _) _
        have q10 : Blk w10 w9.heap.size #[.int .i64 party, .int .i64 ((k : Int) + 1), .int .i64 PT, .int .i64 (1 + xk % 9), .slice PA PN PC] := by rw [← hw10]; exact blk_new rfl
        have bb10 := H_bb9.out.trans (d10.mono H_bb9.out.size)
        have bz10 := H_bz9.out.trans (d10.mono H_bz9.out.size)
        have k10 := H_k9.out.below d10
        have y10 := H_y9.out.below d10
        have z10 := H_z9.out.below d10
        have x10 := H_x9.out.below d10
        have s10 := d10.size
        clear f0 f1 f2 f3 f4
        clear v0 v1 v2 v3 v4 v5
        clear y0 y1 y2
        have clm := H_cX6.out.mem (r := w3.heap.size) (by omega)
        have kn := putL_blk k10 [.slice (some ⟨b', off', none⟩) (k + 1) c6, .int .i64 a1, .int .i64 a2, .int .u64 a3, .int .i64 a4, .int .i64 a5] (by simp)
        have xn6 := putL_msgs clm.1 clm.2 [.slice (some ⟨b', off', none⟩) (k + 1) c6, .int .i64 a1, .int .i64 a2, .int .u64 a3, .int .i64 a4, .int .i64 a5] w10 0 x10
        have bn : Below w3.heap.size w3 (putL w10 w3.heap.size 0 [.slice (some ⟨b', off', none⟩) (k + 1) c6, .int .i64 a1, .int .i64 a2, .int .u64 a3, .int .i64 a4, .int .i64 a5]) := putL_below (Nat.le_refl _) _ _ _ bz10
        have zn : (putL w10 w3.heap.size 0 [.slice (some ⟨b', off', none⟩) (k + 1) c6, .int .i64 a1, .int .i64 a2, .int .u64 a3, .int .i64 a4, .int .i64 a5]).heap.size = w10.heap.size := putL_size _ _ _
        have zle : w4.heap.size ≤ (putL w10 w3.heap.size 0 [.slice (some ⟨b', off', none⟩) (k + 1) c6, .int .i64 a1, .int .i64 a2, .int .u64 a3, .int .i64 a4, .int .i64 a5]).heap.size := by rw [zn]; omega
        clear zn
        simp only [putL, Nat.reduceAdd] at kn xn6 bn zle
        have hne1 : w6.heap.size ≠ w3.heap.size := by omega
        have ⟨H_hw10, H_d10, H_q10, H_bb10, H_bz10, H_k10, H_y10, H_z10⟩ := hid8 hw10 d10 q10 bb10 bz10 k10 y10 z10; clear hw10 d10 q10 bb10 bz10 k10 y10 z10; have ⟨H_x10, H_clm, H_kn, H_xn6, H_bn, H_zle⟩ := hid6 x10 clm kn xn6 bn zle; clear x10 clm kn xn6 bn zle
        have q0 := (H_q10.out 0 _ rfl).at
        have q1 := (H_q10.out 1 _ rfl).at
        have q2 := (H_q10.out 2 _ rfl).at
        have q3 := (H_q10.out 3 _ rfl).at
        have q4 := (H_q10.out 4 _ rfl).at
        have y0 := (H_y10.out 0 _ rfl).at
        have y1 := (H_y10.out 1 _ rfl).at
        have y2 := (H_y10.out 2 _ rfl).at
        have v0 := (H_z10.out 0 _ rfl).at
        have v1 := (H_z10.out 1 _ rfl).at
        have v2 := (H_z10.out 2 _ rfl).at
        have v3 := (H_z10.out 3 _ rfl).at
        have v4 := (H_z10.out 4 _ rfl).at
        have v5 := (H_z10.out 5 _ rfl).at
        have u0 := (H_k10.out 0 _ rfl).at
        have u1 := (H_k10.out 1 _ rfl).at
        have u2 := (H_k10.out 2 _ rfl).at
        have u3 := (H_k10.out 3 _ rfl).at
        have u4 := (H_k10.out 4 _ rfl).at
        have u5 := (H_k10.out 5 _ rfl).at
        have f0 := (H_k10.out 0 _ rfl).free
        have f1 := (H_k10.out 1 _ rfl).free
        have f2 := (H_k10.out 2 _ rfl).free
        have f3 := (H_k10.out 3 _ rfl).free
        have f4 := (H_k10.out 4 _ rfl).free
        have f5 := (H_k10.out 5 _ rfl).free
        have lz := (H_k10.out 0 _ rfl).lt
        go_wp2_with fail
        go_roundw
        case rel => exact ⟨k + 1, _, c6, M6, H6, by omega, rfl, by go_num, by rw [H_ln6.out, H_ha1.out, H_ha2.out, H_ha3.out, H_ha4.out, H_ha5.out]; exact H_kn.out, H_xn6.out, H_ln6.out, H_hj6.out, H_cX6.out, H_bn.out, H_zle.out, H_cp1.out, H_cp2.out⟩
        case measure => simp [intOf]; omega
      · have g1 : ¬ (k : Int) < (N : Int) := by omega
        have ⟨H_kr, H_lr, H_hm2, H_hjr, H_clr, H_bz, H_tr, H_mr⟩ := hid8 kr lr hm2 hjr clr bz tr mr; clear kr lr hm2 hjr clr bz tr mr; have ⟨H_er, H_cpr1, H_cpr2, H_bbr⟩ := hid4 er cpr1 cpr2 bbr; clear er cpr1 cpr2 bbr
        go_wp2_with fail
        go_ret
        exact ⟨rfl, H_bbr.out⟩
end Go.Proofs.YtmbmejclnagffaaDoor

/- The walk of JournalForks. -/
import Derived.Test.YtmbmejclnagffaaDoorM1
import Derived.Test.YtmbmejclnagffaaDoorM2
import Derived.Test.YtmbmejclnagffaaDoorM3
import Derived.Test.YtmbmejclnagffaaDoorM4
import Derived.Test.YtmbmejclnagffaaDoorM5
import Derived.Test.YtmbmejclnagffaaDoorM6
import Derived.Test.YtmbmejclnagffaaDoorM7
import Derived.Test.YtmbmejclnagffaaDoorM8
import Derived.Test.YtmbmejclnagffaaDoorM9
import Derived.Test.YtmbmejclnagffaaDoorM10
import Derived.Test.YtmbmejclnagffaaDoorM11
import Derived.Test.YtmbmejclnagffaaDoorM12
import Derived.Test.YtmbmejclnagffaaDoorM13
import Derived.Test.YtmbmejclnagffaaDoorM14
import Derived.Test.YtmbmejclnagffaaDoorM15
import Derived.Test.YtmbmejclnagffaaDoorM16
import Derived.Test.YtmbmejclnagffaaDoorM17
import Derived.Test.YtmbmejclnagffaaDoorM18
import Derived.Test.YtmbmejclnagffaaDoorM19
import Derived.Test.YtmbmejclnagffaaDoorM20
import Derived.Test.YtmbmejclnagffaaDoorM21
import Derived.Test.YtmbmejclnagffaaDoorM22
import Derived.Test.YtmbmejclnagffaaDoorM23
import Derived.Test.YtmbmejclnagffaaDoorM24
import Derived.Test.YtmbmejclnagffaaDoorM25
import Derived.Test.YtmbmejclnagffaaDoorM26
import Derived.Test.YtmbmejclnagffaaDoorM27
import Derived.Test.YtmbmejclnagffaaDoorM28
import Derived.Test.YtmbmejclnagffaaDoorM29
import Derived.Test.YtmbmejclnagffaaDoorM30
import Derived.Test.YtmbmejclnagffaaDoorM31
import Derived.Test.YtmbmejclnagffaaDoorM32
import Derived.Test.YtmbmejclnagffaaDoorM33
import Derived.Test.YtmbmejclnagffaaDoorM34
import Derived.Test.YtmbmejclnagffaaDoorM35
import Derived.Test.YtmbmejclnagffaaDoorM36
import Derived.Test.YtmbmejclnagffaaDoorM37
import Derived.Test.YtmbmejclnagffaaDoorM38
import Derived.Test.YtmbmejclnagffaaDoorM39
import Derived.Test.YtmbmejclnagffaaDoorM40
import Derived.Test.YtmbmejclnagffaaDoorM41
import Derived.Test.YtmbmejclnagffaaDoorM42
import Derived.Test.YtmbmejclnagffaaDoorM43
import Derived.Test.YtmbmejclnagffaaDoorM44
import Derived.Test.YtmbmejclnagffaaDoorM45
import Derived.Test.YtmbmejclnagffaaDoorM46
import Derived.Test.YtmbmejclnagffaaDoorM47
import Derived.Test.YtmbmejclnagffaaDoorM48
import Derived.Test.YtmbmejclnagffaaDoorC1
import Derived.Test.YtmbmejclnagffaaDoorC2
set_option linter.unusedSimpArgs false
set_option linter.unusedVariables false
set_option maxRecDepth 100000
namespace Go.Proofs.YtmbmejclnagffaaDoor
open Go.RowKit
set_option maxHeartbeats 32000000 in
set_option maxRecDepth 100000 in
theorem journalForks_walk (party sec : Int) (E : Option Addr) (ce : Nat) (l : List Ent) (F : Option Addr) (cf : Nat) (m : List Ent) (I : Option Addr) (ci : Nat) (o : List Ent) (w : World) (hp0 : (Lit.int .i64 party).wf = true) (_ : (Lit.int .i64 sec).wf = true) (he : EntsArg w E ce l) (hf : EntsArg w F cf m) (hi : EntsArg w I ci o) (ht : JTab w) :
    Calls Tryd.prog 8 #[.int .i64 party, .int .i64 sec, .slice E l.length ce, .slice F m.length cf, .slice I o.length ci] w fun e w' => e = .returned (.bool true) ∧ Below w.heap.size w w' := by
  obtain ⟨N, hN⟩ : ∃ N, l.length = N := ⟨_, rfl⟩
  obtain ⟨M, hM⟩ : ∃ M, m.length = M := ⟨_, rfl⟩
  obtain ⟨O, hO⟩ : ∃ O, o.length = O := ⟨_, rfl⟩
  have hr := he.reach
  have hr2 := hf.reach
  have hr3 := hi.reach
  rw [hN] at hr ⊢
  rw [hM] at hr2 ⊢
  rw [hO] at hr3 ⊢
  have e0 := he.at_
  have f0 := hf.at_
  have i0 := hi.at_
  have t0 := ht.1
  have m0 := ht.2
  have bb0 := Below.refl w.heap.size w
  obtain ⟨w0, hw0⟩ : ∃ W, w = W := ⟨_, rfl⟩
  have q1 := fun W h1 h2 => head39_any W h1 h2
  have q2 := fun W b hc => usableD_any party sec b 3 3 [N, M, O] rfl (by omega) (by rw [sum_three]; omega) W hc
  rw [sum_three] at q2
  have q3 := fun W => public_all sec W
  have hUse := @use_parts party sec (N + (M + O))
  obtain ⟨pub, hpub⟩ : ∃ p, pubV sec = p := ⟨_, rfl⟩
  rw [hpub] at q3
  rw [hw0] at e0 f0 i0 t0 m0 bb0 ⊢
  generalize hUB : useB party sec (N + (M + O)) = UB at *
  have ⟨H_hUB, H_hw0, H_hpub, H_q1, H_q2, H_q3, H_hUse, H_he⟩ := hid8 hUB hw0 hpub q1 q2 q3 hUse he; clear hUB hw0 hpub q1 q2 q3 hUse he; have ⟨H_hf, H_hi, H_ht, H_hN, H_hM, H_hO, H_e0, H_f0⟩ := hid8 hf hi ht hN hM hO e0 f0; clear hf hi ht hN hM hO e0 f0; have ⟨H_i0, H_t0, H_m0, H_bb0, H_hp0⟩ := hid5 i0 t0 m0 bb0 hp0; clear i0 t0 m0 bb0 hp0
  go_enter Tryd.func8, Tryd.ntmps8
  go_wp2_with fail
  (with_reducible refine (H_q1.out _ ?_ ?_).mono ?_)
  · exact H_t0.out.below (show Below w0.heap.size w0 _ from belt)
  · exact H_m0.out.below (show Below w0.heap.size w0 _ from belt)
  rintro e w1 ⟨rfl, b1⟩
  have c1 : Below w0.heap.size w0 w1 := Below.trans belt (b1.mono omh)
  have s1 := c1.size
  have bb1 := H_bb0.out.trans (c1.mono H_bb0.out.size)
  have e1 := H_e0.out.below c1
  have f1 := H_f0.out.below c1
  have i1 := H_i0.out.below c1
  have t1 := H_t0.out.below c1
  have m1 := H_m0.out.below c1
  have ⟨H_b1, H_c1, H_bb1, H_e1, H_f1, H_i1, H_t1, H_m1⟩ := hid8 b1 c1 bb1 e1 f1 i1 t1 m1; clear b1 c1 bb1 e1 f1 i1 t1 m1
  go_wp2_with fail
  (with_reducible refine (H_q2.out _ _ ?_).mono ?_)
  · exact use_three rfl
  rintro e w2 ⟨rfl, b2⟩
  have c2 : Below w1.heap.size w1 w2 := Below.trans belt (b2.mono omh)
  have s2 := c2.size
  have bb2 := H_bb1.out.trans (c2.mono H_bb1.out.size)
  have e2 := H_e1.out.below c2
  have f2 := H_f1.out.below c2
  have i2 := H_i1.out.below c2
  have t2 := H_t1.out.below c2
  have m2 := H_m1.out.below c2
  have ⟨H_b2, H_c2, H_bb2, H_e2, H_f2, H_i2, H_t2, H_m2⟩ := hid8 b2 c2 bb2 e2 f2 i2 t2 m2; clear b2 c2 bb2 e2 f2 i2 t2 m2
  cases UB with
  | false =>
    go_wp2_with fail
    go_ret
    exact ⟨rfl, H_bb2.out⟩
  | true =>
    obtain ⟨hp, hs, hN20⟩ := H_hUse.out rfl
    have e0 : errV (wthB sec 1) = 0 := by rw [hs]; rfl
    have q3 := H_q3.out
    rw [e0] at q3
    have q4 := fun W h1 h2 h3 => jgrown0_any party E ce N l sec H_hN.out (by omega) hp hs W h1 h2 h3
    unfold GrownAt at q4
    have ⟨H_hp, H_hs, H_e0, H_q3, H_q4⟩ := hid5 hp hs e0 q3 q4; clear hp hs e0 q3 q4
    go_wp2_with fail
    (with_reducible refine (H_q3.out _).mono ?_)
    rintro e w3 ⟨rfl, b3⟩
    have c3 : Below w2.heap.size w2 w3 := Below.trans belt (b3.mono omh)
    have s3 := c3.size
    have bb3 := H_bb2.out.trans (c3.mono H_bb2.out.size)
    have e3 := H_e2.out.below c3
    have f3 := H_f2.out.below c3
    have i3 := H_i2.out.below c3
    have t3 := H_t2.out.below c3
    have m3 := H_m2.out.below c3
    have ⟨H_b3, H_c3, H_bb3, H_e3, H_f3, H_i3, H_t3, H_m3⟩ := hid8 b3 c3 bb3 e3 f3 i3 t3 m3; clear b3 c3 bb3 e3 f3 i3 t3 m3
    go_wp2_with fail
    (with_reducible refine (H_q4.out _ H_e3.out H_t3.out H_m3.out).mono ?_)
    rintro e w4 ⟨X, c, ms, H, rfl, x4, b4, _, ln4, hj4, cp1, cp2⟩
    rw [List.length_nil, Nat.zero_add] at ln4
    rw [ln4] at cp1 ⊢
    have bb4 := H_bb3.out.trans (b4.mono H_bb3.out.size)
    have f4 := H_f3.out.below b4
    have i4 := H_i3.out.below b4
    have t4 := H_t3.out.below b4
    have m4 := H_m3.out.below b4
    have q5 := fun W h1 h2 h3 h4 => jgrown_any X c N ms H party F cf M m sec ln4 ⟨cp1, cp2⟩ H_hM.out (by omega) hj4 H_hp.out H_hs.out W h1 h2 h3 h4
    have q8 := fun W h1 h2 h3 h4 => jgrown_any X c N ms H party I ci O o sec ln4 ⟨cp1, cp2⟩ H_hO.out (by omega) hj4 H_hp.out H_hs.out W h1 h2 h3 h4
    unfold GrownAt at q5 q8
    generalize ha1 : H.p = a1 at *
    generalize ha2 : H.n = a2 at *
    generalize ha3 : H.c = a3 at *
    generalize ha4 : H.e = a4 at *
    generalize ha5 : H.s = a5 at *
    have ⟨H_x4, H_b4, H_ln4, H_hj4, H_cp1, H_cp2, H_bb4, H_f4⟩ := hid8 x4 b4 ln4 hj4 cp1 cp2 bb4 f4; clear x4 b4 ln4 hj4 cp1 cp2 bb4 f4; have ⟨H_i4, H_t4, H_m4, H_q5, H_q8, H_ha1, H_ha2, H_ha3⟩ := hid8 i4 t4 m4 q5 q8 ha1 ha2 ha3; clear i4 t4 m4 q5 q8 ha1 ha2 ha3; have ⟨H_ha4, H_ha5⟩ := hid2 ha4 ha5; clear ha4 ha5
    go_upto_region 6 with (fail)
    obtain ⟨w5, hw5⟩ : ∃ W, w4.alloc (.cells #[.slice X N c, .int .i64 a1, .int .i64 a2, .int .u64 a3, .int .i64 a4, .int .i64 a5] 35) = W := ⟨_, rfl⟩
    rw [hw5]
    have d5 : Below w4.heap.size w4 w5 := by rw [← hw5]; exact (Below.refl _ _).alloc (Nat.le_refl _) _
    have k5 : Blk w5 w4.heap.size #[.slice X N c, .int .i64 a1, .int .i64 a2, .int .u64 a3, .int .i64 a4, .int .i64 a5] := by rw [← hw5]; exact blk_new rfl
    have bb5 := H_bb4.out.trans (d5.mono H_bb4.out.size)
    have x5 := H_x4.out.below d5
    have f5 := H_f4.out.below d5
    have i5 := H_i4.out.below d5
    have t5 := H_t4.out.below d5
    have m5 := H_m4.out.below d5
    have ⟨H_hw5, H_d5, H_k5, H_bb5, H_x5, H_f5, H_i5, H_t5⟩ := hid8 hw5 d5 k5 bb5 x5 f5 i5 t5; clear hw5 d5 k5 bb5 x5 f5 i5 t5; have H_m5 := Lib.hid m5; clear m5
    have u0 := (H_k5.out 0 _ rfl).at
    have u1 := (H_k5.out 1 _ rfl).at
    have u2 := (H_k5.out 2 _ rfl).at
    have u3 := (H_k5.out 3 _ rfl).at
    have u4 := (H_k5.out 4 _ rfl).at
    have u5 := (H_k5.out 5 _ rfl).at
    go_wp2_with fail
    (with_reducible refine (H_q5.out _ H_x5.out H_f5.out H_t5.out H_m5.out).mono ?_)
    rintro e w6 ⟨Y, d, ns, G, rfl, y6, b6, _, ln6, hj6, cq1, cq2⟩
    rw [H_ln4.out] at ln6
    rw [ln6] at cq1 ⊢
    have bb6 := H_bb5.out.trans (b6.mono H_bb5.out.size)
    have k6 := H_k5.out.below b6
    have x6 := H_x5.out.below b6
    have i6 := H_i5.out.below b6
    have t6 := H_t5.out.below b6
    have m6 := H_m5.out.below b6
    generalize hb1 : G.p = b1 at *
    generalize hb2 : G.n = b2 at *
    generalize hb3 : G.c = b3 at *
    generalize hb4 : G.e = b4 at *
    generalize hb5 : G.s = b5 at *
    obtain ⟨Q, hQ⟩ : ∃ Q, N + M = Q := ⟨_, rfl⟩
    rw [hQ] at ln6 cq1 ⊢
    clear u0 u1 u2 u3 u4 u5
    have ⟨H_y6, H_b6, H_ln6, H_hj6, H_cq1, H_cq2, H_bb6, H_k6⟩ := hid8 y6 b6 ln6 hj6 cq1 cq2 bb6 k6; clear y6 b6 ln6 hj6 cq1 cq2 bb6 k6; have ⟨H_x6, H_i6, H_t6, H_m6, H_hb1, H_hb2, H_hb3, H_hb4⟩ := hid8 x6 i6 t6 m6 hb1 hb2 hb3 hb4; clear x6 i6 t6 m6 hb1 hb2 hb3 hb4; have ⟨H_hb5, H_hQ⟩ := hid2 hb5 hQ; clear hb5 hQ
    go_upto_region 7 with (fail)
    obtain ⟨w7, hw7⟩ : ∃ W, w6.alloc (.cells #[.slice Y Q d, .int .i64 b1, .int .i64 b2, .int .u64 b3, .int .i64 b4, .int .i64 b5] 35) = W := ⟨_, rfl⟩
    rw [hw7]
    have d7 : Below w6.heap.size w6 w7 := by rw [← hw7]; exact (Below.refl _ _).alloc (Nat.le_refl _) _
    have j7 : Blk w7 w6.heap.size #[.slice Y Q d, .int .i64 b1, .int .i64 b2, .int .u64 b3, .int .i64 b4, .int .i64 b5] := by rw [← hw7]; exact blk_new rfl
    have k7 := H_k6.out.below d7
    have bb7 := H_bb6.out.trans (d7.mono H_bb6.out.size)
    have x7 := H_x6.out.below d7
    have y7 := H_y6.out.below d7
    have i7 := H_i6.out.below d7
    have t7 := H_t6.out.below d7
    have m7 := H_m6.out.below d7
    have ⟨H_hw7, H_d7, H_j7, H_k7, H_bb7, H_x7, H_y7, H_i7⟩ := hid8 hw7 d7 j7 k7 bb7 x7 y7 i7; clear hw7 d7 j7 k7 bb7 x7 y7 i7; have ⟨H_t7, H_m7⟩ := hid2 t7 m7; clear t7 m7
    have u0 := (H_k7.out 0 _ rfl).at
    have u1 := (H_k7.out 1 _ rfl).at
    have u2 := (H_k7.out 2 _ rfl).at
    have u3 := (H_k7.out 3 _ rfl).at
    have u4 := (H_k7.out 4 _ rfl).at
    have u5 := (H_k7.out 5 _ rfl).at
    go_wp2_with fail
    (with_reducible refine (H_q8.out _ H_x7.out H_i7.out H_t7.out H_m7.out).mono ?_)
    rintro e w8 ⟨Z, r, os, V, rfl, z8, b8, _, ln8, hj8, cr1, cr2⟩
    rw [H_ln4.out] at ln8
    rw [ln8] at cr1 ⊢
    have bb8 := H_bb7.out.trans (b8.mono H_bb7.out.size)
    have j8 := H_j7.out.below b8
    have y8 := H_y7.out.below b8
    have t8 := H_t7.out.below b8
    have m8 := H_m7.out.below b8
    obtain ⟨K, hK⟩ : ∃ K, N + O = K := ⟨_, rfl⟩
    rw [hK] at ln8 cr1 ⊢
    have hQn := H_hQ.out
    have q6 := fun W h1 h2 h3 h4 => jforksJ_any Y d Q ns G Z r K os V party sec pub H_hpub.out H_ln6.out ln8 (by omega) (by omega) H_cq1.out cr1 H_hj6.out hj8 H_hp.out H_hs.out W h1 h2 h3 h4
    have q7 := fun W h1 h2 h3 h4 => jforksJ_any Z r K os V Y d Q ns G party sec pub H_hpub.out ln8 H_ln6.out (by omega) (by omega) cr1 H_cq1.out hj8 H_hj6.out H_hp.out H_hs.out W h1 h2 h3 h4
    rw [H_hb1.out, H_hb2.out, H_hb3.out, H_hb4.out, H_hb5.out] at q6 q7
    rw [dif_comm] at q7
    obtain ⟨q, hq⟩ : ∃ q, min Q K = q := ⟨_, rfl⟩
    have hD : difB ns os = !decide ((ns.take q).map msI = (os.take q).map msI) := by rw [difB, H_ln6.out, ln8, hq]
    have hla : ∀ x ∈ ns.take q, x.a.length ≤ 1000000 := fun x hx => H_hj6.out.len x (List.mem_of_mem_take hx)
    have hlb : ∀ x ∈ os.take q, x.a.length ≤ 1000000 := fun x hx => hj8.len x (List.mem_of_mem_take hx)
    have q9 := fun W h1 h2 => rsameMs_any Y d q (ns.take q) Z r q (os.take q) (by rw [List.length_take, H_ln6.out]; omega) (by rw [List.length_take, ln8]; omega) (by omega) (by omega) W h1 h2 hla hlb
    have hD2 : decide ((ns.take q).map msI = (os.take q).map msI) = !difB ns os := by rw [hD, Bool.not_not]
    rw [hD2] at q9
    generalize difB ns os = DF at *
    generalize hc1 : V.p = c1 at *
    generalize hc2 : V.n = c2 at *
    generalize hc3 : V.c = c3 at *
    generalize hc4 : V.e = c4 at *
    generalize hc5 : V.s = c5 at *
    have hmin : min (Q : Int) (K : Int) = (q : Int) := by omega
    have g1 : (q : Int) ≤ (d : Int) := by have := H_cq1.out; omega
    have g2 : (q : Int) ≤ (r : Int) := by omega
    have g3 : (0 : Int) ≤ (q : Int) := by omega
    clear u0 u1 u2 u3 u4 u5
    have ⟨H_z8, H_b8, H_ln8, H_hj8, H_cr1, H_cr2, H_bb8, H_j8⟩ := hid8 z8 b8 ln8 hj8 cr1 cr2 bb8 j8; clear z8 b8 ln8 hj8 cr1 cr2 bb8 j8; have ⟨H_y8, H_t8, H_m8, H_hc1, H_hc2, H_hc3, H_hc4, H_hc5⟩ := hid8 y8 t8 m8 hc1 hc2 hc3 hc4 hc5; clear y8 t8 m8 hc1 hc2 hc3 hc4 hc5; have ⟨H_hK, H_hQn, H_q6, H_q7, H_q9, H_hq, H_hD, H_hD2⟩ := hid8 hK hQn q6 q7 q9 hq hD hD2; clear hK hQn q6 q7 q9 hq hD hD2; have ⟨H_hla, H_hlb⟩ := hid2 hla hlb; clear hla hlb
    go_upto_region 8 with (fail)
    obtain ⟨w9, hw9⟩ : ∃ W, w8.alloc (.cells #[.slice Z K r, .int .i64 c1, .int .i64 c2, .int .u64 c3, .int .i64 c4, .int .i64 c5] 35) = W := ⟨_, rfl⟩
    rw [hw9]
    have d9 : Below w8.heap.size w8 w9 := by rw [← hw9]; exact (Below.refl _ _).alloc (Nat.le_refl _) _
    have k9 : Blk w9 w8.heap.size #[.slice Z K r, .int .i64 c1, .int .i64 c2, .int .u64 c3, .int .i64 c4, .int .i64 c5] := by rw [← hw9]; exact blk_new rfl
    have j9 := H_j8.out.below d9
    have bb9 := H_bb8.out.trans (d9.mono H_bb8.out.size)
    have y9 := H_y8.out.below d9
    have z9 := H_z8.out.below d9
    have t9 := H_t8.out.below d9
    have m9 := H_m8.out.below d9
    have yt9 := y9.take q
    have zt9 := z9.take q
    have ⟨H_hw9, H_d9, H_j9, H_k9, H_bb9, H_y9, H_z9, H_t9⟩ := hid8 hw9 d9 j9 k9 bb9 y9 z9 t9; clear hw9 d9 j9 k9 bb9 y9 z9 t9; have ⟨H_m9, H_yt9, H_zt9⟩ := hid3 m9 yt9 zt9; clear m9 yt9 zt9
    have u0 := (H_j9.out 0 _ rfl).at
    have u1 := (H_j9.out 1 _ rfl).at
    have u2 := (H_j9.out 2 _ rfl).at
    have u3 := (H_j9.out 3 _ rfl).at
    have u4 := (H_j9.out 4 _ rfl).at
    have u5 := (H_j9.out 5 _ rfl).at
    have v0 := (H_k9.out 0 _ rfl).at
    have v1 := (H_k9.out 1 _ rfl).at
    have v2 := (H_k9.out 2 _ rfl).at
    have v3 := (H_k9.out 3 _ rfl).at
    have v4 := (H_k9.out 4 _ rfl).at
    have v5 := (H_k9.out 5 _ rfl).at
    have zk9 := (H_k9.out 0 _ rfl).lt
    have zj9 := (H_j9.out 0 _ rfl).lt
    go_upto_region 11 with (fail)
    refine wp_region_held_drew (S := (fun W => (∀ b o, b < w9.heap.size → W.cell? ⟨b, o, none⟩ = w9.cell? ⟨b, o, none⟩) ∧ Below w9.heap.size w9 W)) (by kernel_rfl) ?_ (fun hHeld => ?_)
    · (try dsimp only); (first | (refine ext_mk ?_; exact belt))
    refine take_at (i := 0) (some 86) rfl rfl (by kernel_rfl) (fun _ _ _ h => h) (by rfl) (v := ?_) ?_ (by assumption) ?_
    rotate_left
    · intro W hSw; (try dsimp only at hSw); go_simp; (try with_reducible rfl)
    (try simp only [apz])
    refine take_at (i := 1) (some 87) rfl rfl (by kernel_rfl) (fun _ _ _ h => h) (by rfl) (v := ?_) ?_ (by assumption) ?_
    rotate_left
    · intro W hSw; (try dsimp only at hSw); go_simp; (try with_reducible rfl)
    (try simp only [apz])
    refine take_at (i := 2) (some 88) rfl rfl (by kernel_rfl) (fun _ _ _ h => h) (by rfl) (v := ?_) ?_ (by assumption) ?_
    rotate_left
    · intro W hSw; (try dsimp only at hSw); go_simp; (try with_reducible rfl)
    (try simp only [apz])
    refine take_at (i := 3) (some 89) rfl rfl (by kernel_rfl) (fun _ _ _ h => h) (by rfl) (v := ?_) ?_ (by assumption) ?_
    rotate_left
    · intro W hSw; (try dsimp only at hSw); go_simp; (try with_reducible rfl)
    (try simp only [apz])
    refine take_at (i := 4) (some 90) rfl rfl (by kernel_rfl) (fun _ _ _ h => h) (by rfl) (v := ?_) ?_ (by assumption) ?_
    rotate_left
    · intro W hSw; (try dsimp only at hSw); go_simp; (try with_reducible rfl)
    (try simp only [apz])
    refine take_at (i := 5) (some 91) rfl rfl (by kernel_rfl) (fun _ _ _ h => h) (by rfl) (v := ?_) ?_ (by assumption) ?_
    rotate_left
    · intro W hSw; (try dsimp only at hSw); go_simp; (try with_reducible rfl)
    (try simp only [apz])
    refine take_at (i := 6) (some 92) rfl rfl (by kernel_rfl) (fun _ _ _ h => h) (by rfl) (v := ?_) ?_ (by assumption) ?_
    rotate_left
    · intro W hSw; (try dsimp only at hSw); go_simp; (try with_reducible rfl)
    (try simp only [apz])
    refine take_at (i := 7) (some 93) rfl rfl (by kernel_rfl) (fun _ _ _ h => h) (by rfl) (v := ?_) ?_ (by assumption) ?_
    rotate_left
    · intro W hSw; (try dsimp only at hSw); go_simp; (try with_reducible rfl)
    (try simp only [apz])
    refine wpAnyH_ready (rs := [8]) (by kernel_rfl) (by simp) ?_
    refine AllReadyH.cons rfl (fun K hK => ?_) AllReadyH.nil
    go_simp
    (go_at_call 13; (with_reducible refine (H_q9.out _ ?_ ?_).mono ?_); (focus (exact H_yt9.out.below (And.right (by assumption : _ ∧ Below w9.heap.size w9 _)))); (focus (exact H_zt9.out.below (And.right (by assumption : _ ∧ Below w9.heap.size w9 _)))); rintro e w10 ⟨rfl, hbw10⟩; have gw10 := Below.trans (And.right (by assumption : _ ∧ Below w9.heap.size w9 _)) (hbw10.mono (Below.size (And.right (by assumption : _ ∧ Below w9.heap.size w9 _)))); have gsw10 := gw10.size; have hcf := bcell hbw10; have hcw10 := hcf.1; have hfw10 := hcf.2; have hsw10 := hbw10.size; (try simp only [World.size_alloc, World.heap_drewN, heap_drew] at hsw10); clear hbw10 hcf; (try have hzw10 : w9.heap.size < w10.heap.size := by omega))
    refine hK.out _ _ ?_ (fun hHeld => ?_)
    · (try dsimp only); (first | (refine ext_mk ?_; exact belt))
    clear hK K
    (try simp only [apz])
    refine take_at (i := 9) (some 95) rfl rfl (by kernel_rfl) (fun _ _ _ h => h) (by rfl) (v := ?_) ?_ (by assumption) ?_
    rotate_left
    · intro W hSw; (try dsimp only at hSw); go_simp; (try with_reducible rfl)
    (try simp only [apz])
    refine take_at (i := 10) (some 21) rfl rfl (by kernel_rfl) (fun _ _ _ h => h) (by rfl) (v := ?_) ?_ (by assumption) ?_
    rotate_left
    · intro W hSw; (try dsimp only at hSw); go_simp; (try with_reducible rfl)
    (try simp only [apz])
    refine wpAnyH_done (by kernel_rfl) ?_ _
    have gF : Below w9.heap.size w9 _ := And.right (by assumption)
    have bb10 := H_bb9.out.trans (gF.mono H_bb9.out.size)
    have k10 := H_k9.out.below gF
    have j10 := H_j9.out.below gF
    have y10 := H_y9.out.below gF
    have z10 := H_z9.out.below gF
    have t10 := H_t9.out.below gF
    have m10 := H_m9.out.below gF
    clear hcw10 hfw10 hHeld
    clear u0 u1 u2 u3 u4 u5
    clear v0 v1 v2 v3 v4 v5
    have ⟨H_gF, H_gw10, H_bb10, H_k10, H_j10, H_y10, H_z10, H_t10⟩ := hid8 gF gw10 bb10 k10 j10 y10 z10 t10; clear gF gw10 bb10 k10 j10 y10 z10 t10; have H_m10 := Lib.hid m10; clear m10
    have u0 := (H_j10.out 0 _ rfl).at
    have u1 := (H_j10.out 1 _ rfl).at
    have u2 := (H_j10.out 2 _ rfl).at
    have u3 := (H_j10.out 3 _ rfl).at
    have u4 := (H_j10.out 4 _ rfl).at
    have u5 := (H_j10.out 5 _ rfl).at
    have v0 := (H_k10.out 0 _ rfl).at
    have v1 := (H_k10.out 1 _ rfl).at
    have v2 := (H_k10.out 2 _ rfl).at
    have v3 := (H_k10.out 3 _ rfl).at
    have v4 := (H_k10.out 4 _ rfl).at
    have v5 := (H_k10.out 5 _ rfl).at
    go_wp2_with fail
    (with_reducible refine (H_q6.out _ ?_ ?_ ?_ ?_).mono ?_)
    · exact H_y10.out.below (show Below w10.heap.size w10 _ from belt)
    · exact H_z10.out.below (show Below w10.heap.size w10 _ from belt)
    · exact H_t10.out.below (show Below w10.heap.size w10 _ from belt)
    · exact H_m10.out.below (show Below w10.heap.size w10 _ from belt)
    rintro e w11 ⟨rfl, b11⟩
    have c11 : Below w10.heap.size w10 w11 := Below.trans belt (b11.mono omh)
    have s11 := c11.size
    have bb11 := H_bb10.out.trans (c11.mono H_bb10.out.size)
    have k11 := H_k10.out.below c11
    have j11 := H_j10.out.below c11
    have y11 := H_y10.out.below c11
    have z11 := H_z10.out.below c11
    have t11 := H_t10.out.below c11
    have m11 := H_m10.out.below c11
    have ⟨H_b11, H_c11, H_bb11, H_k11, H_j11, H_y11, H_z11, H_t11⟩ := hid8 b11 c11 bb11 k11 j11 y11 z11 t11; clear b11 c11 bb11 k11 j11 y11 z11 t11; have H_m11 := Lib.hid m11; clear m11
    clear u0 u1 u2 u3 u4 u5
    clear v0 v1 v2 v3 v4 v5
    have u0 := (H_j11.out 0 _ rfl).at
    have u1 := (H_j11.out 1 _ rfl).at
    have u2 := (H_j11.out 2 _ rfl).at
    have u3 := (H_j11.out 3 _ rfl).at
    have u4 := (H_j11.out 4 _ rfl).at
    have u5 := (H_j11.out 5 _ rfl).at
    have v0 := (H_k11.out 0 _ rfl).at
    have v1 := (H_k11.out 1 _ rfl).at
    have v2 := (H_k11.out 2 _ rfl).at
    have v3 := (H_k11.out 3 _ rfl).at
    have v4 := (H_k11.out 4 _ rfl).at
    have v5 := (H_k11.out 5 _ rfl).at
    go_wp2_with fail
    (with_reducible refine (H_q7.out _ ?_ ?_ ?_ ?_).mono ?_)
    · exact H_z11.out.below (show Below w11.heap.size w11 _ from belt)
    · exact H_y11.out.below (show Below w11.heap.size w11 _ from belt)
    · exact H_t11.out.below (show Below w11.heap.size w11 _ from belt)
    · exact H_m11.out.below (show Below w11.heap.size w11 _ from belt)
    rintro e w12 ⟨rfl, b12⟩
    have c12 : Below w11.heap.size w11 w12 := Below.trans belt (b12.mono omh)
    have s12 := c12.size
    have bb12 := H_bb11.out.trans (c12.mono H_bb11.out.size)
    have ⟨H_b12, H_c12, H_bb12⟩ := hid3 b12 c12 bb12; clear b12 c12 bb12
    clear u0 u1 u2 u3 u4 u5
    clear v0 v1 v2 v3 v4 v5
    cases DF with
    | true =>
      go_wp2_with fail
      go_ret
      exact ⟨rfl, H_bb12.out⟩
    | false =>
      go_wp2_with fail
      go_ret
      exact ⟨rfl, H_bb12.out⟩
end Go.Proofs.YtmbmejclnagffaaDoor

/- The statements about locks: head. -/
import Derived.Test.YtoehobaigfmnpaaGreatDoorMq37
set_option linter.unusedSimpArgs false
set_option linter.unusedVariables false
set_option maxRecDepth 100000
namespace Go.Proofs.YtoehobaigfmnpaaGreatDoor
open Go.RowKit
theorem hpw_fit {l : Lk} (h : lvB l = true) (u : Bool) (hf : SFit l.x ∧ SFit l.y) : SFit (pwR l u).x ∧ SFit (pwR l u).y := by rw [(pw_of h u).1]; exact hf
set_option maxHeartbeats 16000000 in
theorem head37_any (w0 : World) (ht : Tab w0) : Calls Tryz.prog 6 #[] w0 fun e w' => e = .returned (.bool true) ∧ Below w0.heap.size w0 w' := by
 have q1 := fun W h => lguest37_any 1 3 (by omega) (by omega) W h
 have q2 := fun W h => lguest37_any 2 2 (by omega) (by omega) W h
 have q3 := fun W h => lguest37_any 3 4 (by omega) (by omega) W h
 have ha := hcd_at (id := 1) (n := 3) (by omega) (by omega)
 have hb := hcd_at (id := 2) (n := 2) (by omega) (by omega)
 have hc := hcd_at (id := 3) (n := 4) (by omega) (by omega)
 have fa := hcd_fit 1 3 (by omega) (by omega)
 have fb := hcd_fit 2 2 (by omega) (by omega)
 have fc := hcd_fit 3 4 (by omega) (by omega)
 have q4 := fun W h => lnew_any 12 1024 5 W h
 rw [nw_l0.1, nw_l0.2] at q4
 have lL := hlk_l0
 have uL : hl0.up = true := rfl
 have sL : SFit hl0.x ∧ SFit hl0.y := ⟨⟨by simp only [hl0, Slt.made]; omega, by simp only [hl0, Slt.made]; omega, fun x hx => by simp [hl0, Slt.made] at hx, by simp only [hl0, Slt.made]; exact sumS_in _ _ _, by simp [hl0, Slt.made]⟩, sfit_zero⟩
 generalize hcd 1 3 = a at *
 generalize hcd 2 2 = b at *
 generalize hcd 3 4 = c at *
 generalize hl0 = L at *
 have t200 : timeB 200 = true := by decide
 have m200 : askB 200 5 100 900 = true ∧ mayB 200 5 100 900 = true := by decide
 have e5 : shE L a 94 3 = 50 := by rw [hsh lL ha uL (by omega) (by decide) (by omega) (by omega) (by omega), if_neg (by decide)]
 have e6 : shE L a 905 3 = 50 := by rw [hsh lL ha uL (by omega) (by decide) (by omega) (by omega) (by omega), if_neg (by decide)]
 have e7 : shE L a 95 3 = 0 := by rw [hsh lL ha uL (by omega) (by decide) (by omega) (by omega) (by omega), if_pos (by decide)]
 obtain ⟨lM, uM⟩ := hleft lL ha e7
 have o7 := hopen ha e7
 have sM := sh_fit (t := 95) (a := 3) fa sL.1 sL.2
 rw [if_neg (by omega)] at lM
 have q5 := fun W A p B r (h1 : SlotIs W A L.x.l.length L.x) (h2 : SlotIs W B L.y.l.length L.y) (h3 : Tab W) => show_any L a 94 3 A _ p B _ r W h1 h2 h3 fa
 have q6 := fun W A p B r (h1 : SlotIs W A L.x.l.length L.x) (h2 : SlotIs W B L.y.l.length L.y) (h3 : Tab W) => show_any L a 905 3 A _ p B _ r W h1 h2 h3 fa
 have q7 := fun W A p B r (h1 : SlotIs W A L.x.l.length L.x) (h2 : SlotIs W B L.y.l.length L.y) (h3 : Tab W) => show_any L a 95 3 A _ p B _ r W h1 h2 h3 fa
 rw [e5, (sh_err e5 (by omega)).2] at q5
 rw [e6, (sh_err e6 (by omega)).2] at q6
 rw [e7, o7] at q7
 clear e5 e6 e7 o7
 generalize shR L a 94 3 = Z1 at *
 generalize shR L a 905 3 = Z2 at *
 generalize shR L a 95 3 = M at *
 have hM : (max 0 3 : Int) = 3 := rfl
 rw [hM] at lM
 have dM : decide ((3 : Int) = 3) = true := rfl
 have dN : decide ((1 : Int) = 3) = false := rfl
 have dO : decide ((2 : Int) = 3) = false := rfl
 rw [dM] at uM q7
 have e8 : shE M b 200 3 = 50 := by rw [hsh lM hb uM (by omega) t200 (by omega) (by omega) (by omega), if_neg (fun h => by have := h.2; omega)]
 have e9 : shE M c 200 1 = 0 := by rw [hsh lM hc uM (by omega) t200 (by omega) (by omega) (by omega), if_pos ⟨m200, by omega⟩]
 have e10 : shE M c 200 2 = 0 := by rw [hsh lM hc uM (by omega) t200 (by omega) (by omega) (by omega), if_pos ⟨m200, by omega⟩]
 obtain ⟨lN, uN⟩ := hleft lM hc e9
 have o9 := hopen hc e9
 have sN := sh_fit (t := 200) (a := 1) fc sM.1 sM.2
 rw [if_pos (by omega)] at lN
 obtain ⟨lO, uO⟩ := hleft lM hc e10
 have o10 := hopen hc e10
 have sO := sh_fit (t := 200) (a := 2) fc sM.1 sM.2
 rw [if_neg (by omega)] at lO
 have q8 := fun W A p B r (h1 : SlotIs W A M.x.l.length M.x) (h2 : SlotIs W B M.y.l.length M.y) (h3 : Tab W) => show_any M b 200 3 A _ p B _ r W h1 h2 h3 fb
 have q9 := fun W A p B r (h1 : SlotIs W A M.x.l.length M.x) (h2 : SlotIs W B M.y.l.length M.y) (h3 : Tab W) => show_any M c 200 1 A _ p B _ r W h1 h2 h3 fc
 have q10 := fun W A p B r (h1 : SlotIs W A M.x.l.length M.x) (h2 : SlotIs W B M.y.l.length M.y) (h3 : Tab W) => show_any M c 200 2 A _ p B _ r W h1 h2 h3 fc
 rw [e8, (sh_err e8 (by omega)).2] at q8
 rw [e9, o9, dN] at q9
 rw [e10, o10, dO] at q10
 clear e8 e9 e10 o9 o10
 generalize shR M b 200 3 = Z3 at *
 generalize shR M c 200 1 = N at *
 generalize shR M c 200 2 = O at *
 have hO : (max 3 4 : Int) = 4 := rfl
 rw [hO] at lO
 rw [dN] at uN
 rw [dO] at uO
 have e11 := hdark lN hc uN t200
 have q11 := fun W A p B r (h1 : SlotIs W A N.x.l.length N.x) (h2 : SlotIs W B N.y.l.length N.y) (h3 : Tab W) => show_any N c 200 3 A _ p B _ r W h1 h2 h3 fc
 rw [e11, (sh_err e11 (by omega)).2] at q11
 clear e11
 generalize shR N c 200 3 = Z4 at *
 have q12 := fun W A p B r (h1 : SlotIs W A N.x.l.length N.x) (h2 : SlotIs W B N.y.l.length N.y) (h3 : Tab W) => lpower_any N true A _ p B _ r W h1 h2 h3
 obtain ⟨lP, e12, uP⟩ := hpw lN true
 have sP := hpw_fit lN.v true sN
 rw [e12] at q12
 clear e12
 generalize pwR N true = P at *
 have q13 := fun W A p B r (h1 : SlotIs W A O.x.l.length O.x) (h2 : SlotIs W B O.y.l.length O.y) (h3 : Tab W) => lpower_any O true A _ p B _ r W h1 h2 h3
 obtain ⟨lQ, e13, uQ⟩ := hpw lO true
 have sQ := hpw_fit lO.v true sO
 rw [e13] at q13
 clear e13
 generalize pwR O true = Q at *
 have e14 : shE P c 200 3 = 0 := by rw [hsh lP hc uP (by omega) t200 (by omega) (by omega) (by omega), if_pos ⟨m200, by omega⟩]
 have e15 : shE Q c 200 3 = 0 := by rw [hsh lQ hc uQ (by omega) t200 (by omega) (by omega) (by omega), if_pos ⟨m200, by omega⟩]
 have o14 := hopen hc e14
 have o15 := hopen hc e15
 have e16 : shE L Crd.zero 200 3 = 1 := by rw [shE, if_neg (fun h => by have := h.2.1; revert this; decide)]
 have f0 := cfit_zero
 have q14 := fun W A p B r (h1 : SlotIs W A P.x.l.length P.x) (h2 : SlotIs W B P.y.l.length P.y) (h3 : Tab W) => show_any P c 200 3 A _ p B _ r W h1 h2 h3 fc
 have q15 := fun W A p B r (h1 : SlotIs W A Q.x.l.length Q.x) (h2 : SlotIs W B Q.y.l.length Q.y) (h3 : Tab W) => show_any Q c 200 3 A _ p B _ r W h1 h2 h3 fc
 have q16 := fun W A p B r (h1 : SlotIs W A L.x.l.length L.x) (h2 : SlotIs W B L.y.l.length L.y) (h3 : Tab W) => show_any L Crd.zero 200 3 A _ p B _ r W h1 h2 h3 f0
 rw [e14, o14, dM] at q14
 rw [e15, o15, dM] at q15
 rw [e16, (sh_err e16 (by omega)).2] at q16
 clear e14 e15 e16 o14 o15
 generalize shR P c 200 3 = Z5 at *
 generalize shR Q c 200 3 = Z6 at *
 generalize shR L Crd.zero 200 3 = Z7 at *
 have q17 := fun W A p B r (h1 : SlotIs W A N.x.l.length N.x) (h2 : SlotIs W B N.y.l.length N.y) => rlvalid_any N A _ p B _ r W h1 h2
 rw [lN.v] at q17
 have q18 := fun W A p B r (h1 : SlotIs W A O.x.l.length O.x) (h2 : SlotIs W B O.y.l.length O.y) => rlvalid_any O A _ p B _ r W h1 h2
 rw [lO.v] at q18
 have q19 := fun W A p B r (h1 : SlotIs W A M.x.l.length M.x) (h2 : SlotIs W B M.y.l.length M.y) => lkept_any M A _ p B _ r W h1 h2
 rw [lM.c] at q19
 have q20 := fun W A p B r (h1 : SlotIs W A N.x.l.length N.x) (h2 : SlotIs W B N.y.l.length N.y) => lkept_any N A _ p B _ r W h1 h2
 rw [lN.c] at q20
 have q21 := fun W A p B r (h1 : SlotIs W A O.x.l.length O.x) (h2 : SlotIs W B O.y.l.length O.y) => lkept_any O A _ p B _ r W h1 h2
 rw [lO.c] at q21
 have q22 := fun W A p B r (h1 : SlotIs W A L.x.l.length L.x) (h2 : SlotIs W B L.y.l.length L.y) (h3 : Tab W) => lvalid_any L A _ p B _ r W h1 h2 h3
 rw [lL.v] at q22
 have q23 := fun W (h3 : Tab W) => lvalid_any Lk.zero none 0 0 none 0 0 W (slotIs_zero W none) (slotIs_zero W none) h3
 rw [lv_zero] at q23
 clear lL lM lN lO lP lQ uL uM uN uO uP uQ ha hb hc fa fb fc f0 hM hO dM dN dO t200 m200
 unfold ShowPost at q5 q6 q7 q8 q9 q10 q11 q14 q15 q16
 unfold LockErr at q4 q12 q13
 unfold Lk.cells at q4 q5 q6 q7 q8 q9 q10 q11 q12 q13 q14 q15 q16 q17 q18 q19 q20 q21 q22 q23
 unfold Crd.cells at q1 q2 q3 q5 q6 q7 q8 q9 q10 q11 q14 q15 q16
 simp only [Crd.zero] at q16
 simp only [Lk.zero, Slt.zero] at q23
 have bb0 := Below.refl w0.heap.size w0
 have t0 := ht
 have ⟨H_q1, H_q2, H_q3, H_q4, H_q5, H_q6, H_q7, H_q8⟩ := hid8 q1 q2 q3 q4 q5 q6 q7 q8; clear q1 q2 q3 q4 q5 q6 q7 q8; have ⟨H_q9, H_q10, H_q11, H_q12, H_q13, H_q14, H_q15, H_q16⟩ := hid8 q9 q10 q11 q12 q13 q14 q15 q16; clear q9 q10 q11 q12 q13 q14 q15 q16; have ⟨H_q17, H_q18, H_q19, H_q20, H_q21, H_q22, H_q23, H_bb0⟩ := hid8 q17 q18 q19 q20 q21 q22 q23 bb0; clear q17 q18 q19 q20 q21 q22 q23 bb0; have ⟨H_t0, H_ht, H_sL, H_sM, H_sN, H_sO, H_sP, H_sQ⟩ := hid8 t0 ht sL sM sN sO sP sQ; clear t0 ht sL sM sN sO sP sQ
 go_enter Tryz.func6, Tryz.ntmps6
 go_wp2_with fail
 (with_reducible refine (H_q1.out _ ?_).mono ?_)
 ·exact H_t0.out.below (show Below w0.heap.size w0 _ from belt)
 rintro e w1 ⟨rfl, b1⟩
 have c1 : Below w0.heap.size w0 w1 := Below.trans belt (b1.mono omh)
 have s1 := c1.size
 have bb1 := H_bb0.out.trans (c1.mono H_bb0.out.size)
 have t1 := H_t0.out.below c1
 have ⟨H_b1, H_c1, H_bb1, H_t1⟩ := hid4 b1 c1 bb1 t1; clear b1 c1 bb1 t1
 go_wp2_with fail
 (with_reducible refine (H_q2.out _ ?_).mono ?_)
 ·exact H_t1.out.below (show Below w1.heap.size w1 _ from belt)
 rintro e w2 ⟨rfl, b2⟩
 have c2 : Below w1.heap.size w1 w2 := Below.trans belt (b2.mono omh)
 have s2 := c2.size
 have bb2 := H_bb1.out.trans (c2.mono H_bb1.out.size)
 have t2 := H_t1.out.below c2
 have ⟨H_b2, H_c2, H_bb2, H_t2⟩ := hid4 b2 c2 bb2 t2; clear b2 c2 bb2 t2
 have ka2 : Blk w2 w1.heap.size #[.int .i64 a.i, .int .i64 a.k, .int .i64 a.d, .int .i64 a.n, .int .i64 a.f, .int .i64 a.u, .int .i64 a.l, .int .i64 a.e, .int .i64 a.s] := (blk_new rfl).below H_b2.out
 have H_ka2 := Lib.hid ka2; clear ka2
 go_wp2_with fail
 (with_reducible refine (H_q3.out _ ?_).mono ?_)
 ·exact H_t2.out.below (show Below w2.heap.size w2 _ from belt)
 rintro e w3 ⟨rfl, b3⟩
 have c3 : Below w2.heap.size w2 w3 := Below.trans belt (b3.mono omh)
 have s3 := c3.size
 have bb3 := H_bb2.out.trans (c3.mono H_bb2.out.size)
 have t3 := H_t2.out.below c3
 have ka3 := H_ka2.out.below c3
 have ⟨H_b3, H_c3, H_bb3, H_t3, H_ka3⟩ := hid5 b3 c3 bb3 t3 ka3; clear b3 c3 bb3 t3 ka3
 have kb3 : Blk w3 w2.heap.size #[.int .i64 b.i, .int .i64 b.k, .int .i64 b.d, .int .i64 b.n, .int .i64 b.f, .int .i64 b.u, .int .i64 b.l, .int .i64 b.e, .int .i64 b.s] := (blk_new rfl).below H_b3.out
 have H_kb3 := Lib.hid kb3; clear kb3
 go_wp2_with fail
 (with_reducible refine (H_q4.out _ ?_).mono ?_)
 ·exact H_t3.out.below (show Below w3.heap.size w3 _ from belt)
 rintro e w4 ⟨A4, p4, B4, r4, rfl, pa4, pb4, b4⟩
 have c4 : Below w3.heap.size w3 w4 := Below.trans belt (b4.mono omh)
 have s4 := c4.size
 have bb4 := H_bb3.out.trans (c4.mono H_bb3.out.size)
 have t4 := H_t3.out.below c4
 have ka4 := H_ka3.out.below c4
 have kb4 := H_kb3.out.below c4
 have ⟨H_b4, H_c4, H_bb4, H_t4, H_ka4, H_kb4⟩ := hid6 b4 c4 bb4 t4 ka4 kb4; clear b4 c4 bb4 t4 ka4 kb4
 have kc4 : Blk w4 w3.heap.size #[.int .i64 c.i, .int .i64 c.k, .int .i64 c.d, .int .i64 c.n, .int .i64 c.f, .int .i64 c.u, .int .i64 c.l, .int .i64 c.e, .int .i64 c.s] := (blk_new rfl).below H_b4.out
 have sxL4 := H_sL.out.1.is pa4.1
 have syL4 := H_sL.out.2.is pb4.1
 clear pa4 pb4
 have ⟨H_kc4, H_sxL4, H_syL4⟩ := hid3 kc4 sxL4 syL4; clear kc4 sxL4 syL4
 obtain ⟨ya0, ya1, ya2, ya3, ya4, ya5, ya6, ya7, ya8⟩ := at9_of H_ka4.out
 have la4 := (H_ka4.out 0 _ rfl).lt
 go_wp2_with fail
 (with_reducible refine (H_q5.out _ A4 p4 B4 r4 ?_ ?_ ?_).mono ?_)
 ·exact H_sxL4.out.below (show Below w4.heap.size w4 _ from belt)
 ·exact H_syL4.out.below (show Below w4.heap.size w4 _ from belt)
 ·exact H_t4.out.below (show Below w4.heap.size w4 _ from belt)
 rintro e w5 ⟨A5, p5, B5, r5, rfl, pa5, pb5, b5⟩
 have c5 : Below w4.heap.size w4 w5 := Below.trans belt (b5.mono omh)
 have s5 := c5.size
 have bb5 := H_bb4.out.trans (c5.mono H_bb4.out.size)
 have t5 := H_t4.out.below c5
 have ka5 := H_ka4.out.below c5
 have kb5 := H_kb4.out.below c5
 have kc5 := H_kc4.out.below c5
 have sxL5 := H_sxL4.out.below c5
 have syL5 := H_syL4.out.below c5
 have ⟨H_b5, H_c5, H_bb5, H_t5, H_ka5, H_kb5, H_kc5, H_sxL5⟩ := hid8 b5 c5 bb5 t5 ka5 kb5 kc5 sxL5; clear b5 c5 bb5 t5 ka5 kb5 kc5 sxL5; have H_syL5 := Lib.hid syL5; clear syL5
 clear ya0 ya1 ya2 ya3 ya4 ya5 ya6 ya7 ya8
 clear la4
 have kL5 : Blk w5 w4.heap.size #[.int .i64 L.d, .int .i64 L.k, .int .i64 L.r, .int .i64 L.x.s, .int .i64 L.x.c, .slice A4 L.x.l.length p4, .int .u64 L.x.u, .int .i64 L.y.s, .int .i64 L.y.c, .slice B4 L.y.l.length r4, .int .u64 L.y.u, .bool L.up] := (blk_new rfl).below H_b5.out
 clear pa5 pb5
 have H_kL5 := Lib.hid kL5; clear kL5
 obtain ⟨yL0, yL1, yL2, yL3, yL4, yL5, yL6, yL7, yL8, yL9, yL10, yL11⟩ := at12_of H_kL5.out
 have lL5 := (H_kL5.out 0 _ rfl).lt
 obtain ⟨ya0, ya1, ya2, ya3, ya4, ya5, ya6, ya7, ya8⟩ := at9_of H_ka5.out
 have la5 := (H_ka5.out 0 _ rfl).lt
 go_wp2_with fail
 (with_reducible refine (H_q6.out _ A4 p4 B4 r4 ?_ ?_ ?_).mono ?_)
 ·exact H_sxL5.out.below (show Below w5.heap.size w5 _ from belt)
 ·exact H_syL5.out.below (show Below w5.heap.size w5 _ from belt)
 ·exact H_t5.out.below (show Below w5.heap.size w5 _ from belt)
 rintro e w6 ⟨A6, p6, B6, r6, rfl, pa6, pb6, b6⟩
 have c6 : Below w5.heap.size w5 w6 := Below.trans belt (b6.mono omh)
 have s6 := c6.size
 have bb6 := H_bb5.out.trans (c6.mono H_bb5.out.size)
 have t6 := H_t5.out.below c6
 have ka6 := H_ka5.out.below c6
 have kb6 := H_kb5.out.below c6
 have kc6 := H_kc5.out.below c6
 have kL6 := H_kL5.out.below c6
 have sxL6 := H_sxL5.out.below c6
 have syL6 := H_syL5.out.below c6
 have ⟨H_b6, H_c6, H_bb6, H_t6, H_ka6, H_kb6, H_kc6, H_kL6⟩ := hid8 b6 c6 bb6 t6 ka6 kb6 kc6 kL6; clear b6 c6 bb6 t6 ka6 kb6 kc6 kL6; have ⟨H_sxL6, H_syL6⟩ := hid2 sxL6 syL6; clear sxL6 syL6
 clear yL0 yL1 yL2 yL3 yL4 yL5 yL6 yL7 yL8 yL9 yL10 yL11
 clear lL5
 clear ya0 ya1 ya2 ya3 ya4 ya5 ya6 ya7 ya8
 clear la5
 clear pa6 pb6
 obtain ⟨yL0, yL1, yL2, yL3, yL4, yL5, yL6, yL7, yL8, yL9, yL10, yL11⟩ := at12_of H_kL6.out
 have lL6 := (H_kL6.out 0 _ rfl).lt
 obtain ⟨ya0, ya1, ya2, ya3, ya4, ya5, ya6, ya7, ya8⟩ := at9_of H_ka6.out
 have la6 := (H_ka6.out 0 _ rfl).lt
 go_wp2_with fail
 (with_reducible refine (H_q7.out _ A4 p4 B4 r4 ?_ ?_ ?_).mono ?_)
 ·exact H_sxL6.out.below (show Below w6.heap.size w6 _ from belt)
 ·exact H_syL6.out.below (show Below w6.heap.size w6 _ from belt)
 ·exact H_t6.out.below (show Below w6.heap.size w6 _ from belt)
 rintro e w7 ⟨A7, p7, B7, r7, rfl, pa7, pb7, b7⟩
 have c7 : Below w6.heap.size w6 w7 := Below.trans belt (b7.mono omh)
 have s7 := c7.size
 have bb7 := H_bb6.out.trans (c7.mono H_bb6.out.size)
 have t7 := H_t6.out.below c7
 have kb7 := H_kb6.out.below c7
 have kc7 := H_kc6.out.below c7
 have kL7 := H_kL6.out.below c7
 have sxL7 := H_sxL6.out.below c7
 have syL7 := H_syL6.out.below c7
 have ⟨H_b7, H_c7, H_bb7, H_t7, H_kb7, H_kc7, H_kL7, H_sxL7⟩ := hid8 b7 c7 bb7 t7 kb7 kc7 kL7 sxL7; clear b7 c7 bb7 t7 kb7 kc7 kL7 sxL7; have H_syL7 := Lib.hid syL7; clear syL7
 clear yL0 yL1 yL2 yL3 yL4 yL5 yL6 yL7 yL8 yL9 yL10 yL11
 clear lL6
 clear ya0 ya1 ya2 ya3 ya4 ya5 ya6 ya7 ya8
 clear la6
 have sxM7 := H_sM.out.1.is pa7.1
 have syM7 := H_sM.out.2.is pb7.1
 clear pa7 pb7
 have ⟨H_sxM7, H_syM7⟩ := hid2 sxM7 syM7; clear sxM7 syM7
 obtain ⟨yb0, yb1, yb2, yb3, yb4, yb5, yb6, yb7, yb8⟩ := at9_of H_kb7.out
 have lb7 := (H_kb7.out 0 _ rfl).lt
 go_wp2_with fail
 (with_reducible refine (H_q8.out _ A7 p7 B7 r7 ?_ ?_ ?_).mono ?_)
 ·exact H_sxM7.out.below (show Below w7.heap.size w7 _ from belt)
 ·exact H_syM7.out.below (show Below w7.heap.size w7 _ from belt)
 ·exact H_t7.out.below (show Below w7.heap.size w7 _ from belt)
 rintro e w8 ⟨A8, p8, B8, r8, rfl, pa8, pb8, b8⟩
 have c8 : Below w7.heap.size w7 w8 := Below.trans belt (b8.mono omh)
 have s8 := c8.size
 have bb8 := H_bb7.out.trans (c8.mono H_bb7.out.size)
 have t8 := H_t7.out.below c8
 have kc8 := H_kc7.out.below c8
 have kL8 := H_kL7.out.below c8
 have sxL8 := H_sxL7.out.below c8
 have syL8 := H_syL7.out.below c8
 have sxM8 := H_sxM7.out.below c8
 have syM8 := H_syM7.out.below c8
 have ⟨H_b8, H_c8, H_bb8, H_t8, H_kc8, H_kL8, H_sxL8, H_syL8⟩ := hid8 b8 c8 bb8 t8 kc8 kL8 sxL8 syL8; clear b8 c8 bb8 t8 kc8 kL8 sxL8 syL8; have ⟨H_sxM8, H_syM8⟩ := hid2 sxM8 syM8; clear sxM8 syM8
 clear yb0 yb1 yb2 yb3 yb4 yb5 yb6 yb7 yb8
 clear lb7
 have kM8 : Blk w8 w7.heap.size #[.int .i64 M.d, .int .i64 M.k, .int .i64 M.r, .int .i64 M.x.s, .int .i64 M.x.c, .slice A7 M.x.l.length p7, .int .u64 M.x.u, .int .i64 M.y.s, .int .i64 M.y.c, .slice B7 M.y.l.length r7, .int .u64 M.y.u, .bool M.up] := (blk_new rfl).below H_b8.out
 clear pa8 pb8
 have H_kM8 := Lib.hid kM8; clear kM8
 obtain ⟨yM0, yM1, yM2, yM3, yM4, yM5, yM6, yM7, yM8, yM9, yM10, yM11⟩ := at12_of H_kM8.out
 have lM8 := (H_kM8.out 0 _ rfl).lt
 obtain ⟨yc0, yc1, yc2, yc3, yc4, yc5, yc6, yc7, yc8⟩ := at9_of H_kc8.out
 have lc8 := (H_kc8.out 0 _ rfl).lt
 go_wp2_with fail
 (with_reducible refine (H_q9.out _ A7 p7 B7 r7 ?_ ?_ ?_).mono ?_)
 ·exact H_sxM8.out.below (show Below w8.heap.size w8 _ from belt)
 ·exact H_syM8.out.below (show Below w8.heap.size w8 _ from belt)
 ·exact H_t8.out.below (show Below w8.heap.size w8 _ from belt)
 rintro e w9 ⟨A9, p9, B9, r9, rfl, pa9, pb9, b9⟩
 have c9 : Below w8.heap.size w8 w9 := Below.trans belt (b9.mono omh)
 have s9 := c9.size
 have bb9 := H_bb8.out.trans (c9.mono H_bb8.out.size)
 have t9 := H_t8.out.below c9
 have kc9 := H_kc8.out.below c9
 have kL9 := H_kL8.out.below c9
 have kM9 := H_kM8.out.below c9
 have sxL9 := H_sxL8.out.below c9
 have syL9 := H_syL8.out.below c9
 have sxM9 := H_sxM8.out.below c9
 have syM9 := H_syM8.out.below c9
 have ⟨H_b9, H_c9, H_bb9, H_t9, H_kc9, H_kL9, H_kM9, H_sxL9⟩ := hid8 b9 c9 bb9 t9 kc9 kL9 kM9 sxL9; clear b9 c9 bb9 t9 kc9 kL9 kM9 sxL9; have ⟨H_syL9, H_sxM9, H_syM9⟩ := hid3 syL9 sxM9 syM9; clear syL9 sxM9 syM9
 clear yM0 yM1 yM2 yM3 yM4 yM5 yM6 yM7 yM8 yM9 yM10 yM11
 clear lM8
 clear yc0 yc1 yc2 yc3 yc4 yc5 yc6 yc7 yc8
 clear lc8
 have sxN9 := H_sN.out.1.is pa9.1
 have syN9 := H_sN.out.2.is pb9.1
 clear pa9 pb9
 have ⟨H_sxN9, H_syN9⟩ := hid2 sxN9 syN9; clear sxN9 syN9
 obtain ⟨yM0, yM1, yM2, yM3, yM4, yM5, yM6, yM7, yM8, yM9, yM10, yM11⟩ := at12_of H_kM9.out
 have lM9 := (H_kM9.out 0 _ rfl).lt
 obtain ⟨yc0, yc1, yc2, yc3, yc4, yc5, yc6, yc7, yc8⟩ := at9_of H_kc9.out
 have lc9 := (H_kc9.out 0 _ rfl).lt
 go_wp2_with fail
 (with_reducible refine (H_q10.out _ A7 p7 B7 r7 ?_ ?_ ?_).mono ?_)
 ·exact H_sxM9.out.below (show Below w9.heap.size w9 _ from belt)
 ·exact H_syM9.out.below (show Below w9.heap.size w9 _ from belt)
 ·exact H_t9.out.below (show Below w9.heap.size w9 _ from belt)
 rintro e w10 ⟨A10, p10, B10, r10, rfl, pa10, pb10, b10⟩
 have c10 : Below w9.heap.size w9 w10 := Below.trans belt (b10.mono omh)
 have s10 := c10.size
 have bb10 := H_bb9.out.trans (c10.mono H_bb9.out.size)
 have t10 := H_t9.out.below c10
 have kc10 := H_kc9.out.below c10
 have kL10 := H_kL9.out.below c10
 have kM10 := H_kM9.out.below c10
 have sxL10 := H_sxL9.out.below c10
 have syL10 := H_syL9.out.below c10
 have sxM10 := H_sxM9.out.below c10
 have syM10 := H_syM9.out.below c10
 have sxN10 := H_sxN9.out.below c10
 have syN10 := H_syN9.out.below c10
 have ⟨H_b10, H_c10, H_bb10, H_t10, H_kc10, H_kL10, H_kM10, H_sxL10⟩ := hid8 b10 c10 bb10 t10 kc10 kL10 kM10 sxL10; clear b10 c10 bb10 t10 kc10 kL10 kM10 sxL10; have ⟨H_syL10, H_sxM10, H_syM10, H_sxN10, H_syN10⟩ := hid5 syL10 sxM10 syM10 sxN10 syN10; clear syL10 sxM10 syM10 sxN10 syN10
 clear yM0 yM1 yM2 yM3 yM4 yM5 yM6 yM7 yM8 yM9 yM10 yM11
 clear lM9
 clear yc0 yc1 yc2 yc3 yc4 yc5 yc6 yc7 yc8
 clear lc9
 have kN10 : Blk w10 w9.heap.size #[.int .i64 N.d, .int .i64 N.k, .int .i64 N.r, .int .i64 N.x.s, .int .i64 N.x.c, .slice A9 N.x.l.length p9, .int .u64 N.x.u, .int .i64 N.y.s, .int .i64 N.y.c, .slice B9 N.y.l.length r9, .int .u64 N.y.u, .bool N.up] := (blk_new rfl).below H_b10.out
 have sxO10 := H_sO.out.1.is pa10.1
 have syO10 := H_sO.out.2.is pb10.1
 clear pa10 pb10
 have ⟨H_kN10, H_sxO10, H_syO10⟩ := hid3 kN10 sxO10 syO10; clear kN10 sxO10 syO10
 obtain ⟨yN0, yN1, yN2, yN3, yN4, yN5, yN6, yN7, yN8, yN9, yN10, yN11⟩ := at12_of H_kN10.out
 have lN10 := (H_kN10.out 0 _ rfl).lt
 obtain ⟨yc0, yc1, yc2, yc3, yc4, yc5, yc6, yc7, yc8⟩ := at9_of H_kc10.out
 have lc10 := (H_kc10.out 0 _ rfl).lt
 go_wp2_with fail
 (with_reducible refine (H_q11.out _ A9 p9 B9 r9 ?_ ?_ ?_).mono ?_)
 ·exact H_sxN10.out.below (show Below w10.heap.size w10 _ from belt)
 ·exact H_syN10.out.below (show Below w10.heap.size w10 _ from belt)
 ·exact H_t10.out.below (show Below w10.heap.size w10 _ from belt)
 rintro e w11 ⟨A11, p11, B11, r11, rfl, pa11, pb11, b11⟩
 have c11 : Below w10.heap.size w10 w11 := Below.trans belt (b11.mono omh)
 have s11 := c11.size
 have bb11 := H_bb10.out.trans (c11.mono H_bb10.out.size)
 have t11 := H_t10.out.below c11
 have kc11 := H_kc10.out.below c11
 have kL11 := H_kL10.out.below c11
 have kM11 := H_kM10.out.below c11
 have kN11 := H_kN10.out.below c11
 have sxL11 := H_sxL10.out.below c11
 have syL11 := H_syL10.out.below c11
 have sxM11 := H_sxM10.out.below c11
 have syM11 := H_syM10.out.below c11
 have sxN11 := H_sxN10.out.below c11
 have syN11 := H_syN10.out.below c11
 have sxO11 := H_sxO10.out.below c11
 have syO11 := H_syO10.out.below c11
 have ⟨H_b11, H_c11, H_bb11, H_t11, H_kc11, H_kL11, H_kM11, H_kN11⟩ := hid8 b11 c11 bb11 t11 kc11 kL11 kM11 kN11; clear b11 c11 bb11 t11 kc11 kL11 kM11 kN11; have ⟨H_sxL11, H_syL11, H_sxM11, H_syM11, H_sxN11, H_syN11, H_sxO11, H_syO11⟩ := hid8 sxL11 syL11 sxM11 syM11 sxN11 syN11 sxO11 syO11; clear sxL11 syL11 sxM11 syM11 sxN11 syN11 sxO11 syO11
 clear yN0 yN1 yN2 yN3 yN4 yN5 yN6 yN7 yN8 yN9 yN10 yN11
 clear lN10
 clear yc0 yc1 yc2 yc3 yc4 yc5 yc6 yc7 yc8
 clear lc10
 have kO11 : Blk w11 w10.heap.size #[.int .i64 O.d, .int .i64 O.k, .int .i64 O.r, .int .i64 O.x.s, .int .i64 O.x.c, .slice A10 O.x.l.length p10, .int .u64 O.x.u, .int .i64 O.y.s, .int .i64 O.y.c, .slice B10 O.y.l.length r10, .int .u64 O.y.u, .bool O.up] := (blk_new rfl).below H_b11.out
 clear pa11 pb11
 have H_kO11 := Lib.hid kO11; clear kO11
 obtain ⟨yN0, yN1, yN2, yN3, yN4, yN5, yN6, yN7, yN8, yN9, yN10, yN11⟩ := at12_of H_kN11.out
 have lN11 := (H_kN11.out 0 _ rfl).lt
 go_wp2_with fail
 (with_reducible refine (H_q12.out _ A9 p9 B9 r9 ?_ ?_ ?_).mono ?_)
 ·exact H_sxN11.out.below (show Below w11.heap.size w11 _ from belt)
 ·exact H_syN11.out.below (show Below w11.heap.size w11 _ from belt)
 ·exact H_t11.out.below (show Below w11.heap.size w11 _ from belt)
 rintro e w12 ⟨A12, p12, B12, r12, rfl, pa12, pb12, b12⟩
 have c12 : Below w11.heap.size w11 w12 := Below.trans belt (b12.mono omh)
 have s12 := c12.size
 have bb12 := H_bb11.out.trans (c12.mono H_bb11.out.size)
 have t12 := H_t11.out.below c12
 have kc12 := H_kc11.out.below c12
 have kL12 := H_kL11.out.below c12
 have kM12 := H_kM11.out.below c12
 have kN12 := H_kN11.out.below c12
 have kO12 := H_kO11.out.below c12
 have sxL12 := H_sxL11.out.below c12
 have syL12 := H_syL11.out.below c12
 have sxM12 := H_sxM11.out.below c12
 have syM12 := H_syM11.out.below c12
 have sxN12 := H_sxN11.out.below c12
 have syN12 := H_syN11.out.below c12
 have sxO12 := H_sxO11.out.below c12
 have syO12 := H_syO11.out.below c12
 have ⟨H_b12, H_c12, H_bb12, H_t12, H_kc12, H_kL12, H_kM12, H_kN12⟩ := hid8 b12 c12 bb12 t12 kc12 kL12 kM12 kN12; clear b12 c12 bb12 t12 kc12 kL12 kM12 kN12; have ⟨H_kO12, H_sxL12, H_syL12, H_sxM12, H_syM12, H_sxN12, H_syN12, H_sxO12⟩ := hid8 kO12 sxL12 syL12 sxM12 syM12 sxN12 syN12 sxO12; clear kO12 sxL12 syL12 sxM12 syM12 sxN12 syN12 sxO12; have H_syO12 := Lib.hid syO12; clear syO12
 clear yN0 yN1 yN2 yN3 yN4 yN5 yN6 yN7 yN8 yN9 yN10 yN11
 clear lN11
 have sxP12 := H_sP.out.1.is pa12.1
 have syP12 := H_sP.out.2.is pb12.1
 clear pa12 pb12
 have ⟨H_sxP12, H_syP12⟩ := hid2 sxP12 syP12; clear sxP12 syP12
 obtain ⟨yO0, yO1, yO2, yO3, yO4, yO5, yO6, yO7, yO8, yO9, yO10, yO11⟩ := at12_of H_kO12.out
 have lO12 := (H_kO12.out 0 _ rfl).lt
 go_wp2_with fail
 (with_reducible refine (H_q13.out _ A10 p10 B10 r10 ?_ ?_ ?_).mono ?_)
 ·exact H_sxO12.out.below (show Below w12.heap.size w12 _ from belt)
 ·exact H_syO12.out.below (show Below w12.heap.size w12 _ from belt)
 ·exact H_t12.out.below (show Below w12.heap.size w12 _ from belt)
 rintro e w13 ⟨A13, p13, B13, r13, rfl, pa13, pb13, b13⟩
 have c13 : Below w12.heap.size w12 w13 := Below.trans belt (b13.mono omh)
 have s13 := c13.size
 have bb13 := H_bb12.out.trans (c13.mono H_bb12.out.size)
 have t13 := H_t12.out.below c13
 have kc13 := H_kc12.out.below c13
 have kL13 := H_kL12.out.below c13
 have kM13 := H_kM12.out.below c13
 have kN13 := H_kN12.out.below c13
 have kO13 := H_kO12.out.below c13
 have sxL13 := H_sxL12.out.below c13
 have syL13 := H_syL12.out.below c13
 have sxM13 := H_sxM12.out.below c13
 have syM13 := H_syM12.out.below c13
 have sxN13 := H_sxN12.out.below c13
 have syN13 := H_syN12.out.below c13
 have sxO13 := H_sxO12.out.below c13
 have syO13 := H_syO12.out.below c13
 have sxP13 := H_sxP12.out.below c13
 have syP13 := H_syP12.out.below c13
 have ⟨H_b13, H_c13, H_bb13, H_t13, H_kc13, H_kL13, H_kM13, H_kN13⟩ := hid8 b13 c13 bb13 t13 kc13 kL13 kM13 kN13; clear b13 c13 bb13 t13 kc13 kL13 kM13 kN13; have ⟨H_kO13, H_sxL13, H_syL13, H_sxM13, H_syM13, H_sxN13, H_syN13, H_sxO13⟩ := hid8 kO13 sxL13 syL13 sxM13 syM13 sxN13 syN13 sxO13; clear kO13 sxL13 syL13 sxM13 syM13 sxN13 syN13 sxO13; have ⟨H_syO13, H_sxP13, H_syP13⟩ := hid3 syO13 sxP13 syP13; clear syO13 sxP13 syP13
 clear yO0 yO1 yO2 yO3 yO4 yO5 yO6 yO7 yO8 yO9 yO10 yO11
 clear lO12
 have kP13 : Blk w13 w12.heap.size #[.int .i64 P.d, .int .i64 P.k, .int .i64 P.r, .int .i64 P.x.s, .int .i64 P.x.c, .slice A12 P.x.l.length p12, .int .u64 P.x.u, .int .i64 P.y.s, .int .i64 P.y.c, .slice B12 P.y.l.length r12, .int .u64 P.y.u, .bool P.up] := (blk_new rfl).below H_b13.out
 have sxQ13 := H_sQ.out.1.is pa13.1
 have syQ13 := H_sQ.out.2.is pb13.1
 clear pa13 pb13
 have ⟨H_kP13, H_sxQ13, H_syQ13⟩ := hid3 kP13 sxQ13 syQ13; clear kP13 sxQ13 syQ13
 obtain ⟨yP0, yP1, yP2, yP3, yP4, yP5, yP6, yP7, yP8, yP9, yP10, yP11⟩ := at12_of H_kP13.out
 have lP13 := (H_kP13.out 0 _ rfl).lt
 obtain ⟨yc0, yc1, yc2, yc3, yc4, yc5, yc6, yc7, yc8⟩ := at9_of H_kc13.out
 have lc13 := (H_kc13.out 0 _ rfl).lt
 go_wp2_with fail
 (with_reducible refine (H_q14.out _ A12 p12 B12 r12 ?_ ?_ ?_).mono ?_)
 ·exact H_sxP13.out.below (show Below w13.heap.size w13 _ from belt)
 ·exact H_syP13.out.below (show Below w13.heap.size w13 _ from belt)
 ·exact H_t13.out.below (show Below w13.heap.size w13 _ from belt)
 rintro e w14 ⟨A14, p14, B14, r14, rfl, pa14, pb14, b14⟩
 have c14 : Below w13.heap.size w13 w14 := Below.trans belt (b14.mono omh)
 have s14 := c14.size
 have bb14 := H_bb13.out.trans (c14.mono H_bb13.out.size)
 have t14 := H_t13.out.below c14
 have kc14 := H_kc13.out.below c14
 have kL14 := H_kL13.out.below c14
 have kM14 := H_kM13.out.below c14
 have kN14 := H_kN13.out.below c14
 have kO14 := H_kO13.out.below c14
 have sxL14 := H_sxL13.out.below c14
 have syL14 := H_syL13.out.below c14
 have sxM14 := H_sxM13.out.below c14
 have syM14 := H_syM13.out.below c14
 have sxN14 := H_sxN13.out.below c14
 have syN14 := H_syN13.out.below c14
 have sxO14 := H_sxO13.out.below c14
 have syO14 := H_syO13.out.below c14
 have sxQ14 := H_sxQ13.out.below c14
 have syQ14 := H_syQ13.out.below c14
 have ⟨H_b14, H_c14, H_bb14, H_t14, H_kc14, H_kL14, H_kM14, H_kN14⟩ := hid8 b14 c14 bb14 t14 kc14 kL14 kM14 kN14; clear b14 c14 bb14 t14 kc14 kL14 kM14 kN14; have ⟨H_kO14, H_sxL14, H_syL14, H_sxM14, H_syM14, H_sxN14, H_syN14, H_sxO14⟩ := hid8 kO14 sxL14 syL14 sxM14 syM14 sxN14 syN14 sxO14; clear kO14 sxL14 syL14 sxM14 syM14 sxN14 syN14 sxO14; have ⟨H_syO14, H_sxQ14, H_syQ14⟩ := hid3 syO14 sxQ14 syQ14; clear syO14 sxQ14 syQ14
 clear yP0 yP1 yP2 yP3 yP4 yP5 yP6 yP7 yP8 yP9 yP10 yP11
 clear lP13
 clear yc0 yc1 yc2 yc3 yc4 yc5 yc6 yc7 yc8
 clear lc13
 have kQ14 : Blk w14 w13.heap.size #[.int .i64 Q.d, .int .i64 Q.k, .int .i64 Q.r, .int .i64 Q.x.s, .int .i64 Q.x.c, .slice A13 Q.x.l.length p13, .int .u64 Q.x.u, .int .i64 Q.y.s, .int .i64 Q.y.c, .slice B13 Q.y.l.length r13, .int .u64 Q.y.u, .bool Q.up] := (blk_new rfl).below H_b14.out
 clear pa14 pb14
 have H_kQ14 := Lib.hid kQ14; clear kQ14
 obtain ⟨yQ0, yQ1, yQ2, yQ3, yQ4, yQ5, yQ6, yQ7, yQ8, yQ9, yQ10, yQ11⟩ := at12_of H_kQ14.out
 have lQ14 := (H_kQ14.out 0 _ rfl).lt
 obtain ⟨yc0, yc1, yc2, yc3, yc4, yc5, yc6, yc7, yc8⟩ := at9_of H_kc14.out
 have lc14 := (H_kc14.out 0 _ rfl).lt
 go_wp2_with fail
 (with_reducible refine (H_q15.out _ A13 p13 B13 r13 ?_ ?_ ?_).mono ?_)
 ·exact H_sxQ14.out.below (show Below w14.heap.size w14 _ from belt)
 ·exact H_syQ14.out.below (show Below w14.heap.size w14 _ from belt)
 ·exact H_t14.out.below (show Below w14.heap.size w14 _ from belt)
 rintro e w15 ⟨A15, p15, B15, r15, rfl, pa15, pb15, b15⟩
 have c15 : Below w14.heap.size w14 w15 := Below.trans belt (b15.mono omh)
 have s15 := c15.size
 have bb15 := H_bb14.out.trans (c15.mono H_bb14.out.size)
 have t15 := H_t14.out.below c15
 have kL15 := H_kL14.out.below c15
 have kM15 := H_kM14.out.below c15
 have kN15 := H_kN14.out.below c15
 have kO15 := H_kO14.out.below c15
 have sxL15 := H_sxL14.out.below c15
 have syL15 := H_syL14.out.below c15
 have sxM15 := H_sxM14.out.below c15
 have syM15 := H_syM14.out.below c15
 have sxN15 := H_sxN14.out.below c15
 have syN15 := H_syN14.out.below c15
 have sxO15 := H_sxO14.out.below c15
 have syO15 := H_syO14.out.below c15
 have ⟨H_b15, H_c15, H_bb15, H_t15, H_kL15, H_kM15, H_kN15, H_kO15⟩ := hid8 b15 c15 bb15 t15 kL15 kM15 kN15 kO15; clear b15 c15 bb15 t15 kL15 kM15 kN15 kO15; have ⟨H_sxL15, H_syL15, H_sxM15, H_syM15, H_sxN15, H_syN15, H_sxO15, H_syO15⟩ := hid8 sxL15 syL15 sxM15 syM15 sxN15 syN15 sxO15 syO15; clear sxL15 syL15 sxM15 syM15 sxN15 syN15 sxO15 syO15
 clear yQ0 yQ1 yQ2 yQ3 yQ4 yQ5 yQ6 yQ7 yQ8 yQ9 yQ10 yQ11
 clear lQ14
 clear yc0 yc1 yc2 yc3 yc4 yc5 yc6 yc7 yc8
 clear lc14
 clear pa15 pb15
 obtain ⟨yL0, yL1, yL2, yL3, yL4, yL5, yL6, yL7, yL8, yL9, yL10, yL11⟩ := at12_of H_kL15.out
 have lL15 := (H_kL15.out 0 _ rfl).lt
 go_wp2_with fail
 (with_reducible refine (H_q16.out _ A4 p4 B4 r4 ?_ ?_ ?_).mono ?_)
 ·exact H_sxL15.out.below (show Below w15.heap.size w15 _ from belt)
 ·exact H_syL15.out.below (show Below w15.heap.size w15 _ from belt)
 ·exact H_t15.out.below (show Below w15.heap.size w15 _ from belt)
 rintro e w16 ⟨A16, p16, B16, r16, rfl, pa16, pb16, b16⟩
 have c16 : Below w15.heap.size w15 w16 := Below.trans belt (b16.mono omh)
 have s16 := c16.size
 have bb16 := H_bb15.out.trans (c16.mono H_bb15.out.size)
 have t16 := H_t15.out.below c16
 have kL16 := H_kL15.out.below c16
 have kM16 := H_kM15.out.below c16
 have kN16 := H_kN15.out.below c16
 have kO16 := H_kO15.out.below c16
 have sxL16 := H_sxL15.out.below c16
 have syL16 := H_syL15.out.below c16
 have sxM16 := H_sxM15.out.below c16
 have syM16 := H_syM15.out.below c16
 have sxN16 := H_sxN15.out.below c16
 have syN16 := H_syN15.out.below c16
 have sxO16 := H_sxO15.out.below c16
 have syO16 := H_syO15.out.below c16
 have ⟨H_b16, H_c16, H_bb16, H_t16, H_kL16, H_kM16, H_kN16, H_kO16⟩ := hid8 b16 c16 bb16 t16 kL16 kM16 kN16 kO16; clear b16 c16 bb16 t16 kL16 kM16 kN16 kO16; have ⟨H_sxL16, H_syL16, H_sxM16, H_syM16, H_sxN16, H_syN16, H_sxO16, H_syO16⟩ := hid8 sxL16 syL16 sxM16 syM16 sxN16 syN16 sxO16 syO16; clear sxL16 syL16 sxM16 syM16 sxN16 syN16 sxO16 syO16
 clear yL0 yL1 yL2 yL3 yL4 yL5 yL6 yL7 yL8 yL9 yL10 yL11
 clear lL15
 clear pa16 pb16
 obtain ⟨yN0, yN1, yN2, yN3, yN4, yN5, yN6, yN7, yN8, yN9, yN10, yN11⟩ := at12_of H_kN16.out
 have lN16 := (H_kN16.out 0 _ rfl).lt
 go_wp2_with fail
 (with_reducible refine (H_q17.out _ A9 p9 B9 r9 ?_ ?_).mono ?_)
 ·exact H_sxN16.out.below (show Below w16.heap.size w16 _ from belt)
 ·exact H_syN16.out.below (show Below w16.heap.size w16 _ from belt)
 rintro e w17 ⟨rfl, b17⟩
 have c17 : Below w16.heap.size w16 w17 := Below.trans belt (b17.mono omh)
 have s17 := c17.size
 have bb17 := H_bb16.out.trans (c17.mono H_bb16.out.size)
 have t17 := H_t16.out.below c17
 have kL17 := H_kL16.out.below c17
 have kM17 := H_kM16.out.below c17
 have kN17 := H_kN16.out.below c17
 have kO17 := H_kO16.out.below c17
 have sxL17 := H_sxL16.out.below c17
 have syL17 := H_syL16.out.below c17
 have sxM17 := H_sxM16.out.below c17
 have syM17 := H_syM16.out.below c17
 have sxN17 := H_sxN16.out.below c17
 have syN17 := H_syN16.out.below c17
 have sxO17 := H_sxO16.out.below c17
 have syO17 := H_syO16.out.below c17
 have ⟨H_b17, H_c17, H_bb17, H_t17, H_kL17, H_kM17, H_kN17, H_kO17⟩ := hid8 b17 c17 bb17 t17 kL17 kM17 kN17 kO17; clear b17 c17 bb17 t17 kL17 kM17 kN17 kO17; have ⟨H_sxL17, H_syL17, H_sxM17, H_syM17, H_sxN17, H_syN17, H_sxO17, H_syO17⟩ := hid8 sxL17 syL17 sxM17 syM17 sxN17 syN17 sxO17 syO17; clear sxL17 syL17 sxM17 syM17 sxN17 syN17 sxO17 syO17
 clear yN0 yN1 yN2 yN3 yN4 yN5 yN6 yN7 yN8 yN9 yN10 yN11
 clear lN16
 obtain ⟨yO0, yO1, yO2, yO3, yO4, yO5, yO6, yO7, yO8, yO9, yO10, yO11⟩ := at12_of H_kO17.out
 have lO17 := (H_kO17.out 0 _ rfl).lt
 go_wp2_with fail
 (with_reducible refine (H_q18.out _ A10 p10 B10 r10 ?_ ?_).mono ?_)
 ·exact H_sxO17.out.below (show Below w17.heap.size w17 _ from belt)
 ·exact H_syO17.out.below (show Below w17.heap.size w17 _ from belt)
 rintro e w18 ⟨rfl, b18⟩
 have c18 : Below w17.heap.size w17 w18 := Below.trans belt (b18.mono omh)
 have s18 := c18.size
 have bb18 := H_bb17.out.trans (c18.mono H_bb17.out.size)
 have t18 := H_t17.out.below c18
 have kL18 := H_kL17.out.below c18
 have kM18 := H_kM17.out.below c18
 have kN18 := H_kN17.out.below c18
 have kO18 := H_kO17.out.below c18
 have sxL18 := H_sxL17.out.below c18
 have syL18 := H_syL17.out.below c18
 have sxM18 := H_sxM17.out.below c18
 have syM18 := H_syM17.out.below c18
 have sxN18 := H_sxN17.out.below c18
 have syN18 := H_syN17.out.below c18
 have sxO18 := H_sxO17.out.below c18
 have syO18 := H_syO17.out.below c18
 have ⟨H_b18, H_c18, H_bb18, H_t18, H_kL18, H_kM18, H_kN18, H_kO18⟩ := hid8 b18 c18 bb18 t18 kL18 kM18 kN18 kO18; clear b18 c18 bb18 t18 kL18 kM18 kN18 kO18; have ⟨H_sxL18, H_syL18, H_sxM18, H_syM18, H_sxN18, H_syN18, H_sxO18, H_syO18⟩ := hid8 sxL18 syL18 sxM18 syM18 sxN18 syN18 sxO18 syO18; clear sxL18 syL18 sxM18 syM18 sxN18 syN18 sxO18 syO18
 clear yO0 yO1 yO2 yO3 yO4 yO5 yO6 yO7 yO8 yO9 yO10 yO11
 clear lO17
 obtain ⟨yM0, yM1, yM2, yM3, yM4, yM5, yM6, yM7, yM8, yM9, yM10, yM11⟩ := at12_of H_kM18.out
 have lM18 := (H_kM18.out 0 _ rfl).lt
 go_wp2_with fail
 (with_reducible refine (H_q19.out _ A7 p7 B7 r7 ?_ ?_).mono ?_)
 ·exact H_sxM18.out.below (show Below w18.heap.size w18 _ from belt)
 ·exact H_syM18.out.below (show Below w18.heap.size w18 _ from belt)
 rintro e w19 ⟨rfl, b19⟩
 have c19 : Below w18.heap.size w18 w19 := Below.trans belt (b19.mono omh)
 have s19 := c19.size
 have bb19 := H_bb18.out.trans (c19.mono H_bb18.out.size)
 have t19 := H_t18.out.below c19
 have kL19 := H_kL18.out.below c19
 have kN19 := H_kN18.out.below c19
 have kO19 := H_kO18.out.below c19
 have sxL19 := H_sxL18.out.below c19
 have syL19 := H_syL18.out.below c19
 have sxN19 := H_sxN18.out.below c19
 have syN19 := H_syN18.out.below c19
 have sxO19 := H_sxO18.out.below c19
 have syO19 := H_syO18.out.below c19
 have ⟨H_b19, H_c19, H_bb19, H_t19, H_kL19, H_kN19, H_kO19, H_sxL19⟩ := hid8 b19 c19 bb19 t19 kL19 kN19 kO19 sxL19; clear b19 c19 bb19 t19 kL19 kN19 kO19 sxL19; have ⟨H_syL19, H_sxN19, H_syN19, H_sxO19, H_syO19⟩ := hid5 syL19 sxN19 syN19 sxO19 syO19; clear syL19 sxN19 syN19 sxO19 syO19
 clear yM0 yM1 yM2 yM3 yM4 yM5 yM6 yM7 yM8 yM9 yM10 yM11
 clear lM18
 obtain ⟨yN0, yN1, yN2, yN3, yN4, yN5, yN6, yN7, yN8, yN9, yN10, yN11⟩ := at12_of H_kN19.out
 have lN19 := (H_kN19.out 0 _ rfl).lt
 go_wp2_with fail
 (with_reducible refine (H_q20.out _ A9 p9 B9 r9 ?_ ?_).mono ?_)
 ·exact H_sxN19.out.below (show Below w19.heap.size w19 _ from belt)
 ·exact H_syN19.out.below (show Below w19.heap.size w19 _ from belt)
 rintro e w20 ⟨rfl, b20⟩
 have c20 : Below w19.heap.size w19 w20 := Below.trans belt (b20.mono omh)
 have s20 := c20.size
 have bb20 := H_bb19.out.trans (c20.mono H_bb19.out.size)
 have t20 := H_t19.out.below c20
 have kL20 := H_kL19.out.below c20
 have kO20 := H_kO19.out.below c20
 have sxL20 := H_sxL19.out.below c20
 have syL20 := H_syL19.out.below c20
 have sxO20 := H_sxO19.out.below c20
 have syO20 := H_syO19.out.below c20
 have ⟨H_b20, H_c20, H_bb20, H_t20, H_kL20, H_kO20, H_sxL20, H_syL20⟩ := hid8 b20 c20 bb20 t20 kL20 kO20 sxL20 syL20; clear b20 c20 bb20 t20 kL20 kO20 sxL20 syL20; have ⟨H_sxO20, H_syO20⟩ := hid2 sxO20 syO20; clear sxO20 syO20
 clear yN0 yN1 yN2 yN3 yN4 yN5 yN6 yN7 yN8 yN9 yN10 yN11
 clear lN19
 obtain ⟨yO0, yO1, yO2, yO3, yO4, yO5, yO6, yO7, yO8, yO9, yO10, yO11⟩ := at12_of H_kO20.out
 have lO20 := (H_kO20.out 0 _ rfl).lt
 go_wp2_with fail
 (with_reducible refine (H_q21.out _ A10 p10 B10 r10 ?_ ?_).mono ?_)
 ·exact H_sxO20.out.below (show Below w20.heap.size w20 _ from belt)
 ·exact H_syO20.out.below (show Below w20.heap.size w20 _ from belt)
 rintro e w21 ⟨rfl, b21⟩
 have c21 : Below w20.heap.size w20 w21 := Below.trans belt (b21.mono omh)
 have s21 := c21.size
 have bb21 := H_bb20.out.trans (c21.mono H_bb20.out.size)
 have t21 := H_t20.out.below c21
 have kL21 := H_kL20.out.below c21
 have sxL21 := H_sxL20.out.below c21
 have syL21 := H_syL20.out.below c21
 have ⟨H_b21, H_c21, H_bb21, H_t21, H_kL21, H_sxL21, H_syL21⟩ := hid7 b21 c21 bb21 t21 kL21 sxL21 syL21; clear b21 c21 bb21 t21 kL21 sxL21 syL21
 clear yO0 yO1 yO2 yO3 yO4 yO5 yO6 yO7 yO8 yO9 yO10 yO11
 clear lO20
 obtain ⟨yL0, yL1, yL2, yL3, yL4, yL5, yL6, yL7, yL8, yL9, yL10, yL11⟩ := at12_of H_kL21.out
 have lL21 := (H_kL21.out 0 _ rfl).lt
 go_wp2_with fail
 (with_reducible refine (H_q22.out _ A4 p4 B4 r4 ?_ ?_ ?_).mono ?_)
 ·exact H_sxL21.out.below (show Below w21.heap.size w21 _ from belt)
 ·exact H_syL21.out.below (show Below w21.heap.size w21 _ from belt)
 ·exact H_t21.out.below (show Below w21.heap.size w21 _ from belt)
 rintro e w22 ⟨rfl, b22⟩
 have c22 : Below w21.heap.size w21 w22 := Below.trans belt (b22.mono omh)
 have s22 := c22.size
 have bb22 := H_bb21.out.trans (c22.mono H_bb21.out.size)
 have t22 := H_t21.out.below c22
 have ⟨H_b22, H_c22, H_bb22, H_t22⟩ := hid4 b22 c22 bb22 t22; clear b22 c22 bb22 t22
 clear yL0 yL1 yL2 yL3 yL4 yL5 yL6 yL7 yL8 yL9 yL10 yL11
 clear lL21
 go_wp2_with fail
 (with_reducible refine (H_q23.out _ ?_).mono ?_)
 ·exact H_t22.out.below (show Below w22.heap.size w22 _ from belt)
 rintro e w23 ⟨rfl, b23⟩
 have c23 : Below w22.heap.size w22 w23 := Below.trans belt (b23.mono omh)
 have s23 := c23.size
 have bb23 := H_bb22.out.trans (c23.mono H_bb22.out.size)
 have t23 := H_t22.out.below c23
 have ⟨H_b23, H_c23, H_bb23, H_t23⟩ := hid4 b23 c23 bb23 t23; clear b23 c23 bb23 t23
 go_wp2_with fail
 go_ret
 exact ⟨rfl, H_bb23.out⟩
end Go.Proofs.YtoehobaigfmnpaaGreatDoor

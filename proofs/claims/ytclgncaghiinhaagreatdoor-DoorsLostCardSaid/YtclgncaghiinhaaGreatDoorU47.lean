/- The statements about doors: head. -/
import Derived.Test.YtclgncaghiinhaaGreatDoorU46
set_option linter.unusedSimpArgs false
set_option linter.unusedVariables false
set_option maxRecDepth 100000
namespace Go.Proofs.YtclgncaghiinhaaGreatDoor
open Go.RowKit
theorem bls_lit (w : World) (l : List Bool) (vs : Array Value) (t : TypeId) (n : Nat) (hn : w.heap.size = n) (hv : vs.toList = l.flatMap boolC) : Bls (w.alloc (.cells vs t)) (some ⟨n, 0, none⟩) l := rows_lit w l vs t n hn boolC_len hv (fun _ _ => rfl)
theorem locks_one (w : World) (P : LkP) (vs : Array Value) (t : TypeId) (n : Nat) (hn : w.heap.size = n) (hv : vs.toList = P.cells) (ho : P.Ok w) : Locks (w.alloc (.cells vs t)) (some ⟨n, 0, none⟩) [P] :=
 rows_lit w [P] vs t n hn LkP.len (by rw [hv]; simp) (fun z hz => by rw [List.mem_singleton] at hz; rw [hz]; exact ⟨rfl, ho.below ((Below.refl _ _).alloc (Nat.le_refl _) _)⟩)
theorem shows_lit (w : World) (l : List Sh4) (vs : Array Value) (t : TypeId) (n : Nat) (hn : w.heap.size = n) (hv : vs.toList = l.flatMap Sh4.cells) : Shows (w.alloc (.cells vs t)) (some ⟨n, 0, none⟩) l := rows_lit w l vs t n hn sh4_len hv (fun _ _ => rfl)
theorem cards_lit (w : World) (l : List Crd) (vs : Array Value) (t : TypeId) (n : Nat) (hn : w.heap.size = n) (hv : vs.toList = l.flatMap Crd.cells) (hf : ∀ c ∈ l, CFit c) : Cards (w.alloc (.cells vs t)) (some ⟨n, 0, none⟩) l := rows_lit w l vs t n hn Crd.cells_len hv (fun z hz => ⟨rfl, hf z hz⟩)
theorem alloc_below (w : World) (x : Obj) : Below w.heap.size w (w.alloc x) := (Below.refl _ _).alloc (Nat.le_refl _) x
set_option maxRecDepth 100000 in
set_option maxHeartbeats 32000000 in
theorem head38_any (w0 : World) (ht : Tab w0) : Calls Tryz.prog 7 #[] w0 fun e w' => e = .returned (.bool true) ∧ Below w0.heap.size w0 w' := by
 have q1 := fun W h => lnew_any 4 1024 0 W h
 rw [(nw_nl (d := 4) (by omega)).1, (nw_nl (d := 4) (by omega)).2] at q1
 have q2 := fun W h => lguest38_any 7 3 (by omega) (by omega) W h
 have q3 := fun W h => lguest38_any 8 4 (by omega) (by omega) W h
 have ha := hc4_at (id := 7) (n := 3) (by omega) (by omega)
 have hb := hc4_at (id := 8) (n := 4) (by omega) (by omega)
 have fa := hc4_fit 7 3 (by omega) (by omega)
 have fb := hc4_fit 8 4 (by omega) (by omega)
 have e1 := ex_run (ss := sh1) ha hb (by decide) (by decide)
 have e2 := ex_run (ss := sh2) ha hb (by decide) (by decide)
 have e3 := ex_run (ss := sh3) ha hb (by decide) (by decide)
 have hv := ex_vals ha hb
 rw [hv.1] at e1
 rw [hv.2.1] at e2
 rw [hv.2.2] at e3
 have e4 : ∀ L : List Lk, L.length = 1 → ∀ c : List Crd, c.length = 2 → runB L c sh4 = false := fun L h1 c h2 => by
  have : noneW 1 2 sh4 = false := by decide
  rw [runB, h1, h2, this, Bool.and_false]
 have em := ex_may ha hb
 have sx : SFit (nl 4).x := sfit_made1
 have sy : SFit (nl 4).y := sfit_zero
 clear hv ha hb
 generalize hc4 7 3 = a at *
 generalize hc4 8 4 = b at *
 generalize nl 4 = L at *
 have bd : ∀ (l : Nat), l ≤ 10 → l ≤ 100 := fun l h => by omega
 have r1 := fun W X cx A p B r (b1 b2 : Nat) (h1 : Locks W (some ⟨b1, 0, none⟩) [⟨L, A, p, B, r⟩]) (h2 : Cards W X [a, b]) (h3 : Shows W (some ⟨b2, 0, none⟩) sh1) (h4 : Tab W) => drun_any (some ⟨b1, 0, none⟩) 1 1 [⟨L, A, p, B, r⟩] X cx 2 [a, b] (some ⟨b2, 0, none⟩) 4 4 sh1 W rfl rfl rfl (by omega) (by omega) (by omega) h1 h2 h3 h4
 simp only [List.map_cons, List.map_nil] at r1
 rw [e1.1, e1.2] at r1
 generalize runL [L] [a, b] sh1 = R1 at r1
 unfold RunRes at r1
 simp only [List.length_cons, List.length_nil, Nat.zero_add, Nat.reduceAdd] at r1
 have r2 := fun W X cx A p B r (b1 b2 : Nat) (h1 : Locks W (some ⟨b1, 0, none⟩) [⟨L, A, p, B, r⟩]) (h2 : Cards W X [a, b]) (h3 : Shows W (some ⟨b2, 0, none⟩) sh2) (h4 : Tab W) => drun_any (some ⟨b1, 0, none⟩) 1 1 [⟨L, A, p, B, r⟩] X cx 2 [a, b] (some ⟨b2, 0, none⟩) 3 3 sh2 W rfl rfl rfl (by omega) (by omega) (by omega) h1 h2 h3 h4
 simp only [List.map_cons, List.map_nil] at r2
 rw [e2.1, e2.2] at r2
 generalize runL [L] [a, b] sh2 = R2 at r2
 unfold RunRes at r2
 simp only [List.length_cons, List.length_nil, Nat.zero_add, Nat.reduceAdd] at r2
 have r3 := fun W X cx A p B r (b1 b2 : Nat) (h1 : Locks W (some ⟨b1, 0, none⟩) [⟨L, A, p, B, r⟩]) (h2 : Cards W X [a, b]) (h3 : Shows W (some ⟨b2, 0, none⟩) sh3) (h4 : Tab W) => drun_any (some ⟨b1, 0, none⟩) 1 1 [⟨L, A, p, B, r⟩] X cx 2 [a, b] (some ⟨b2, 0, none⟩) 4 4 sh3 W rfl rfl rfl (by omega) (by omega) (by omega) h1 h2 h3 h4
 simp only [List.map_cons, List.map_nil] at r3
 rw [e3.1, e3.2] at r3
 generalize runL [L] [a, b] sh3 = R3 at r3
 unfold RunRes at r3
 simp only [List.length_cons, List.length_nil, Nat.zero_add, Nat.reduceAdd] at r3
 have r4 := fun W X cx A p B r (b1 b2 : Nat) (h1 : Locks W (some ⟨b1, 0, none⟩) [⟨L, A, p, B, r⟩]) (h2 : Cards W X [a, b]) (h3 : Shows W (some ⟨b2, 0, none⟩) sh4) (h4 : Tab W) => drun_bad (some ⟨b1, 0, none⟩) 1 1 [⟨L, A, p, B, r⟩] X cx 2 [a, b] (some ⟨b2, 0, none⟩) 1 1 sh4 W rfl rfl rfl (by omega) (by omega) (by omega) h1 h2 h3 h4 (e4 _ rfl _ rfl)
 unfold RunRes at r4
 simp only [List.length_nil] at r4
 have m1 := fun W X cx (h : Cards W X [a]) (h4 : Tab W) => dmay_any a 1024 X cx 1 [a] 50 W fa rfl (by omega) h h4
 have m2 := fun W X cx (h : Cards W X [a, b]) (h4 : Tab W) => dmay_any a 1024 X cx 2 [a, b] 50 W fa rfl (by omega) h h4
 rw [em.1, em.2.1] at m1
 rw [em.2.2.1, em.2.2.2] at m2
 have s1 := fun W O k b (h1 : Bls W O [true, true, false, false]) (h2 : Bls W (some ⟨b, 0, none⟩) [true, true, false, false]) => rdbools_any O k 4 [true, true, false, false] (some ⟨b, 0, none⟩) 4 4 [true, true, false, false] W rfl rfl (by omega) (by omega) h1 h2
 have s2 := fun W O k b (h1 : Bls W O [true, false, true]) (h2 : Bls W (some ⟨b, 0, none⟩) [true, false, true]) => rdbools_any O k 3 [true, false, true] (some ⟨b, 0, none⟩) 3 3 [true, false, true] W rfl rfl (by omega) (by omega) h1 h2
 have s3 := fun W O k b (h1 : Bls W O [true, false, false, true]) (h2 : Bls W (some ⟨b, 0, none⟩) [true, false, false, true]) => rdbools_any O k 4 [true, false, false, true] (some ⟨b, 0, none⟩) 4 4 [true, false, false, true] W rfl rfl (by omega) (by omega) h1 h2
 rw [decide_eq_true rfl] at s1 s2 s3
 clear e1 e2 e3 e4 em bd
 unfold LockErr Lk.cells at q1
 unfold Crd.cells at q2 q3 m1 m2
 have bb0 := Below.refl w0.heap.size w0
 have t0 := ht
 have ⟨Hq1, Hq2, Hq3, Hr1, Hr2, Hr3, Hr4, Hm1⟩ := hid8 q1 q2 q3 r1 r2 r3 r4 m1; clear q1 q2 q3 r1 r2 r3 r4 m1; have ⟨Hm2, Hs1, Hs2, Hs3, Hbb0, Ht0, Hht, Hsx⟩ := hid8 m2 s1 s2 s3 bb0 t0 ht sx; clear m2 s1 s2 s3 bb0 t0 ht sx; have ⟨Hsy, Hfa, Hfb⟩ := hid3 sy fa fb; clear sy fa fb
 go_enter Tryz.func7, Tryz.ntmps7
 go_wp2_with fail
 (with_reducible refine (Hq1.out _ ?_).mono ?_)
 ·exact Ht0.out.below (show Below w0.heap.size w0 _ from belt)
 rintro e w1 ⟨A1, p1, B1, n1, rfl, pa1, pb1, b1⟩
 have c1 : Below w0.heap.size w0 w1 := Below.trans belt (b1.mono omh)
 have s1 := c1.size
 have bb1 := Hbb0.out.trans (c1.mono Hbb0.out.size)
 have t1 := Ht0.out.below c1
 have ⟨Hb1, Hc1, Hbb1, Ht1⟩ := hid4 b1 c1 bb1 t1; clear b1 c1 bb1 t1
 have okL1 : LkP.Ok ⟨L, A1, p1, B1, n1⟩ w1 := ⟨pa1.1, pb1.1, Hsx.out, Hsy.out⟩
 clear pa1 pb1
 have HokL1 := Lib.hid okL1; clear okL1
 go_wp2_with fail
 (with_reducible refine (Hq2.out _ ?_).mono ?_)
 ·exact Ht1.out.below (show Below w1.heap.size w1 _ from belt)
 rintro e w2 ⟨rfl, b2⟩
 have c2 : Below w1.heap.size w1 w2 := Below.trans belt (b2.mono omh)
 have s2 := c2.size
 have bb2 := Hbb1.out.trans (c2.mono Hbb1.out.size)
 have t2 := Ht1.out.below c2
 have okL2 := HokL1.out.below c2
 have ⟨Hb2, Hc2, Hbb2, Ht2, HokL2⟩ := hid5 b2 c2 bb2 t2 okL2; clear b2 c2 bb2 t2 okL2
 have kL2 : Blk w2 w1.heap.size #[.int .i64 L.d, .int .i64 L.k, .int .i64 L.r, .int .i64 L.x.s, .int .i64 L.x.c, .slice A1 L.x.l.length p1, .int .u64 L.x.u, .int .i64 L.y.s, .int .i64 L.y.c, .slice B1 L.y.l.length n1, .int .u64 L.y.u, .bool L.up] := (blk_new rfl).below Hb2.out
 have HkL2 := Lib.hid kL2; clear kL2
 go_wp2_with fail
 (with_reducible refine (Hq3.out _ ?_).mono ?_)
 ·exact Ht2.out.below (show Below w2.heap.size w2 _ from belt)
 rintro e w3 ⟨rfl, b3⟩
 have c3 : Below w2.heap.size w2 w3 := Below.trans belt (b3.mono omh)
 have s3 := c3.size
 have bb3 := Hbb2.out.trans (c3.mono Hbb2.out.size)
 have t3 := Ht2.out.below c3
 have okL3 := HokL2.out.below c3
 have kL3 := HkL2.out.below c3
 have ⟨Hb3, Hc3, Hbb3, Ht3, HokL3, HkL3⟩ := hid6 b3 c3 bb3 t3 okL3 kL3; clear b3 c3 bb3 t3 okL3 kL3
 have ka3 : Blk w3 w2.heap.size #[.int .i64 a.i, .int .i64 a.k, .int .i64 a.d, .int .i64 a.n, .int .i64 a.f, .int .i64 a.u, .int .i64 a.l, .int .i64 a.e, .int .i64 a.s] := (blk_new rfl).below Hb3.out
 have Hka3 := Lib.hid ka3; clear ka3
 obtain ⟨y0, y1, y2, y3, y4, y5, y6, y7, y8⟩ := at9_of Hka3.out
 have ly := (Hka3.out 0 _ rfl).lt
 go_upto_region 5 with (fail)
 clear y0 y1 y2 y3 y4 y5 y6 y7 y8 ly
 obtain ⟨w4, hw4⟩ : ∃ W, (w3.alloc (.cells #[.int .i64 b.i, .int .i64 b.k, .int .i64 b.d, .int .i64 b.n, .int .i64 b.f, .int .i64 b.u, .int .i64 b.l, .int .i64 b.e, .int .i64 b.s] 28)).alloc (.cells #[.int .i64 a.i, .int .i64 a.k, .int .i64 a.d, .int .i64 a.n, .int .i64 a.f, .int .i64 a.u, .int .i64 a.l, .int .i64 a.e, .int .i64 a.s, .int .i64 b.i, .int .i64 b.k, .int .i64 b.d, .int .i64 b.n, .int .i64 b.f, .int .i64 b.u, .int .i64 b.l, .int .i64 b.e, .int .i64 b.s] 28) = W := ⟨_, rfl⟩
 rw [hw4]
 have c4 : Below w3.heap.size w3 w4 := by rw [← hw4]; exact (alloc_below _ _).trans ((alloc_below _ _).mono (by simp))
 have bb4 := Hbb3.out.trans (c4.mono Hbb3.out.size)
 have t4 := Ht3.out.below c4
 have okL4 := HokL3.out.below c4
 have kL4 := HkL3.out.below c4
 have ka4 := Hka3.out.below c4
 have cd4 : Cards w4 (some ⟨w3.heap.size + 1, 0, none⟩) [a, b] := by rw [← hw4]; exact cards_lit _ [a, b] _ _ _ (by simp) rfl (fun c hc => by simp at hc; rcases hc with rfl | rfl; exact Hfa.out; exact Hfb.out)
 have ⟨Hhw4, Hc4, Hbb4, Ht4, HokL4, HkL4, Hka4, Hcd4⟩ := hid8 hw4 c4 bb4 t4 okL4 kL4 ka4 cd4; clear hw4 c4 bb4 t4 okL4 kL4 ka4 cd4
 obtain ⟨y0, y1, y2, y3, y4, y5, y6, y7, y8, y9, y10, y11⟩ := at12_of HkL4.out
 have ly := (HkL4.out 0 _ rfl).lt
 go_wp2_with fail
 (with_reducible refine (Hr1.out _ (some ⟨w3.heap.size + 1, 0, none⟩) 2 A1 p1 B1 n1 _ _ ?_ ?_ ?_ ?_).mono ?_)
 ·exact (locks_one w4 _ _ _ _ rfl rfl HokL4.out).below (alloc_below _ _)
 ·exact Hcd4.out.below (show Below w4.heap.size w4 _ from belt)
 ·exact shows_lit _ sh1 _ _ _ (by simp) rfl
 ·exact Ht4.out.below (show Below w4.heap.size w4 _ from belt)
 rintro e w5 ⟨X5, cc5, PP5, OO5, kk5, rfl, _, _, ob5, _, _, b5⟩
 have c5 : Below w4.heap.size w4 w5 := Below.trans belt (b5.mono omh)
 have s5 := c5.size
 have bb5 := Hbb4.out.trans (c5.mono Hbb4.out.size)
 have t5 := Ht4.out.below c5
 have okL5 := HokL4.out.below c5
 have kL5 := HkL4.out.below c5
 have ka5 := Hka4.out.below c5
 have cd5 := Hcd4.out.below c5
 have ⟨Hb5, Hc5, Hbb5, Ht5, HokL5, HkL5, Hka5, Hcd5⟩ := hid8 b5 c5 bb5 t5 okL5 kL5 ka5 cd5; clear b5 c5 bb5 t5 okL5 kL5 ka5 cd5
 clear ly y0 y1 y2 y3 y4 y5 y6 y7 y8 y9 y10 y11
 have oA5 := ob5
 clear ob5
 have HoA5 := Lib.hid oA5; clear oA5
 obtain ⟨y0, y1, y2, y3, y4, y5, y6, y7, y8, y9, y10, y11⟩ := at12_of HkL5.out
 have ly := (HkL5.out 0 _ rfl).lt
 go_wp2_with fail
 (with_reducible refine (Hr2.out _ (some ⟨w3.heap.size + 1, 0, none⟩) 2 A1 p1 B1 n1 _ _ ?_ ?_ ?_ ?_).mono ?_)
 ·exact (locks_one w5 _ _ _ _ rfl rfl HokL5.out).below (alloc_below _ _)
 ·exact Hcd5.out.below (show Below w5.heap.size w5 _ from belt)
 ·exact shows_lit _ sh2 _ _ _ (by simp) rfl
 ·exact Ht5.out.below (show Below w5.heap.size w5 _ from belt)
 rintro e w6 ⟨X6, cc6, PP6, OO6, kk6, rfl, _, _, ob6, _, _, b6⟩
 have c6 : Below w5.heap.size w5 w6 := Below.trans belt (b6.mono omh)
 have s6 := c6.size
 have bb6 := Hbb5.out.trans (c6.mono Hbb5.out.size)
 have t6 := Ht5.out.below c6
 have okL6 := HokL5.out.below c6
 have kL6 := HkL5.out.below c6
 have ka6 := Hka5.out.below c6
 have cd6 := Hcd5.out.below c6
 have oA6 := HoA5.out.below c6
 have ⟨Hb6, Hc6, Hbb6, Ht6, HokL6, HkL6, Hka6, Hcd6⟩ := hid8 b6 c6 bb6 t6 okL6 kL6 ka6 cd6; clear b6 c6 bb6 t6 okL6 kL6 ka6 cd6; have HoA6 := Lib.hid oA6; clear oA6
 clear ly y0 y1 y2 y3 y4 y5 y6 y7 y8 y9 y10 y11
 have oB6 := ob6
 clear ob6
 have HoB6 := Lib.hid oB6; clear oB6
 obtain ⟨y0, y1, y2, y3, y4, y5, y6, y7, y8, y9, y10, y11⟩ := at12_of HkL6.out
 have ly := (HkL6.out 0 _ rfl).lt
 go_wp2_with fail
 (with_reducible refine (Hr3.out _ (some ⟨w3.heap.size + 1, 0, none⟩) 2 A1 p1 B1 n1 _ _ ?_ ?_ ?_ ?_).mono ?_)
 ·exact (locks_one w6 _ _ _ _ rfl rfl HokL6.out).below (alloc_below _ _)
 ·exact Hcd6.out.below (show Below w6.heap.size w6 _ from belt)
 ·exact shows_lit _ sh3 _ _ _ (by simp) rfl
 ·exact Ht6.out.below (show Below w6.heap.size w6 _ from belt)
 rintro e w7 ⟨X7, cc7, PP7, OO7, kk7, rfl, _, _, ob7, _, _, b7⟩
 have c7 : Below w6.heap.size w6 w7 := Below.trans belt (b7.mono omh)
 have s7 := c7.size
 have bb7 := Hbb6.out.trans (c7.mono Hbb6.out.size)
 have t7 := Ht6.out.below c7
 have okL7 := HokL6.out.below c7
 have kL7 := HkL6.out.below c7
 have ka7 := Hka6.out.below c7
 have cd7 := Hcd6.out.below c7
 have oA7 := HoA6.out.below c7
 have oB7 := HoB6.out.below c7
 have ⟨Hb7, Hc7, Hbb7, Ht7, HokL7, HkL7, Hka7, Hcd7⟩ := hid8 b7 c7 bb7 t7 okL7 kL7 ka7 cd7; clear b7 c7 bb7 t7 okL7 kL7 ka7 cd7; have ⟨HoA7, HoB7⟩ := hid2 oA7 oB7; clear oA7 oB7
 clear ly y0 y1 y2 y3 y4 y5 y6 y7 y8 y9 y10 y11
 have oC7 := ob7
 clear ob7
 have HoC7 := Lib.hid oC7; clear oC7
 obtain ⟨y0, y1, y2, y3, y4, y5, y6, y7, y8⟩ := at9_of Hka7.out
 have ly := (Hka7.out 0 _ rfl).lt
 go_wp2_with fail
 (with_reducible refine (Hm1.out _ _ _ ?_ ?_).mono ?_)
 ·exact cards_lit w7 [a] _ _ _ rfl rfl (fun c hc => by simp at hc; rw [hc]; exact Hfa.out)
 ·exact Ht7.out.below (show Below w7.heap.size w7 _ from belt)
 rintro e w8 ⟨rfl, b8⟩
 have c8 : Below w7.heap.size w7 w8 := Below.trans belt (b8.mono omh)
 have s8 := c8.size
 have bb8 := Hbb7.out.trans (c8.mono Hbb7.out.size)
 have t8 := Ht7.out.below c8
 have okL8 := HokL7.out.below c8
 have kL8 := HkL7.out.below c8
 have ka8 := Hka7.out.below c8
 have cd8 := Hcd7.out.below c8
 have oA8 := HoA7.out.below c8
 have oB8 := HoB7.out.below c8
 have oC8 := HoC7.out.below c8
 have ⟨Hb8, Hc8, Hbb8, Ht8, HokL8, HkL8, Hka8, Hcd8⟩ := hid8 b8 c8 bb8 t8 okL8 kL8 ka8 cd8; clear b8 c8 bb8 t8 okL8 kL8 ka8 cd8; have ⟨HoA8, HoB8, HoC8⟩ := hid3 oA8 oB8 oC8; clear oA8 oB8 oC8
 clear ly y0 y1 y2 y3 y4 y5 y6 y7 y8
 obtain ⟨y0, y1, y2, y3, y4, y5, y6, y7, y8⟩ := at9_of Hka8.out
 have ly := (Hka8.out 0 _ rfl).lt
 go_wp2_with fail
 (with_reducible refine (Hm2.out _ _ _ ?_ ?_).mono ?_)
 ·exact Hcd8.out.below (show Below w8.heap.size w8 _ from belt)
 ·exact Ht8.out.below (show Below w8.heap.size w8 _ from belt)
 rintro e w9 ⟨rfl, b9⟩
 have c9 : Below w8.heap.size w8 w9 := Below.trans belt (b9.mono omh)
 have s9 := c9.size
 have bb9 := Hbb8.out.trans (c9.mono Hbb8.out.size)
 have t9 := Ht8.out.below c9
 have okL9 := HokL8.out.below c9
 have kL9 := HkL8.out.below c9
 have ka9 := Hka8.out.below c9
 have cd9 := Hcd8.out.below c9
 have oA9 := HoA8.out.below c9
 have oB9 := HoB8.out.below c9
 have oC9 := HoC8.out.below c9
 have ⟨Hb9, Hc9, Hbb9, Ht9, HokL9, HkL9, Hka9, Hcd9⟩ := hid8 b9 c9 bb9 t9 okL9 kL9 ka9 cd9; clear b9 c9 bb9 t9 okL9 kL9 ka9 cd9; have ⟨HoA9, HoB9, HoC9⟩ := hid3 oA9 oB9 oC9; clear oA9 oB9 oC9
 clear ly y0 y1 y2 y3 y4 y5 y6 y7 y8
 obtain ⟨y0, y1, y2, y3, y4, y5, y6, y7, y8, y9, y10, y11⟩ := at12_of HkL9.out
 have ly := (HkL9.out 0 _ rfl).lt
 go_wp2_with fail
 (with_reducible refine (Hr4.out _ (some ⟨w3.heap.size + 1, 0, none⟩) 2 A1 p1 B1 n1 _ _ ?_ ?_ ?_ ?_).mono ?_)
 ·exact (locks_one w9 _ _ _ _ rfl rfl HokL9.out).below (alloc_below _ _)
 ·exact Hcd9.out.below (show Below w9.heap.size w9 _ from belt)
 ·exact shows_lit _ sh4 _ _ _ (by simp) rfl
 ·exact Ht9.out.below (show Below w9.heap.size w9 _ from belt)
 rintro e w10 ⟨X10, cc10, PP10, OO10, kk10, rfl, _, _, ob10, _, _, b10⟩
 have c10 : Below w9.heap.size w9 w10 := Below.trans belt (b10.mono omh)
 have s10 := c10.size
 have bb10 := Hbb9.out.trans (c10.mono Hbb9.out.size)
 have t10 := Ht9.out.below c10
 have okL10 := HokL9.out.below c10
 have kL10 := HkL9.out.below c10
 have ka10 := Hka9.out.below c10
 have cd10 := Hcd9.out.below c10
 have oA10 := HoA9.out.below c10
 have oB10 := HoB9.out.below c10
 have oC10 := HoC9.out.below c10
 have ⟨Hb10, Hc10, Hbb10, Ht10, HokL10, HkL10, Hka10, Hcd10⟩ := hid8 b10 c10 bb10 t10 okL10 kL10 ka10 cd10; clear b10 c10 bb10 t10 okL10 kL10 ka10 cd10; have ⟨HoA10, HoB10, HoC10⟩ := hid3 oA10 oB10 oC10; clear oA10 oB10 oC10
 clear ly y0 y1 y2 y3 y4 y5 y6 y7 y8 y9 y10 y11 ob10
 go_wp2_with fail
 (with_reducible refine (Hs1.out _ _ _ _ ?_ ?_).mono ?_)
 ·exact HoA10.out.below (show Below w10.heap.size w10 _ from belt)
 ·exact bls_lit w10 _ _ _ _ rfl rfl
 rintro e w11 ⟨rfl, b11⟩
 have c11 : Below w10.heap.size w10 w11 := Below.trans belt (b11.mono omh)
 have s11 := c11.size
 have bb11 := Hbb10.out.trans (c11.mono Hbb10.out.size)
 have oB11 := HoB10.out.below c11
 have oC11 := HoC10.out.below c11
 have ⟨Hb11, Hc11, Hbb11, HoB11, HoC11⟩ := hid5 b11 c11 bb11 oB11 oC11; clear b11 c11 bb11 oB11 oC11
 go_wp2_with fail
 (with_reducible refine (Hs2.out _ _ _ _ ?_ ?_).mono ?_)
 ·exact HoB11.out.below (show Below w11.heap.size w11 _ from belt)
 ·exact bls_lit w11 _ _ _ _ rfl rfl
 rintro e w12 ⟨rfl, b12⟩
 have c12 : Below w11.heap.size w11 w12 := Below.trans belt (b12.mono omh)
 have s12 := c12.size
 have bb12 := Hbb11.out.trans (c12.mono Hbb11.out.size)
 have oC12 := HoC11.out.below c12
 have ⟨Hb12, Hc12, Hbb12, HoC12⟩ := hid4 b12 c12 bb12 oC12; clear b12 c12 bb12 oC12
 go_wp2_with fail
 (with_reducible refine (Hs3.out _ _ _ _ ?_ ?_).mono ?_)
 ·exact HoC12.out.below (show Below w12.heap.size w12 _ from belt)
 ·exact bls_lit w12 _ _ _ _ rfl rfl
 rintro e w13 ⟨rfl, b13⟩
 have c13 : Below w12.heap.size w12 w13 := Below.trans belt (b13.mono omh)
 have s13 := c13.size
 have bb13 := Hbb12.out.trans (c13.mono Hbb12.out.size)
 have ⟨Hb13, Hc13, Hbb13⟩ := hid3 b13 c13 bb13; clear b13 c13 bb13
 go_wp2_with fail
 go_ret
 exact ⟨rfl, Hbb13.out⟩
end Go.Proofs.YtclgncaghiinhaaGreatDoor

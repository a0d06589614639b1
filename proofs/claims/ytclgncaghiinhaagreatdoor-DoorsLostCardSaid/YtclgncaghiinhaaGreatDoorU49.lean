/- The walk of DoorsLost. -/
import Derived.Deep.CutRange
import Derived.Test.YtclgncaghiinhaaGreatDoorU16
import Derived.Test.YtclgncaghiinhaaGreatDoorU37
import Derived.Test.YtclgncaghiinhaaGreatDoorU48
set_option linter.unusedSimpArgs false
set_option linter.unusedVariables false
set_option maxRecDepth 100000
namespace Go.Proofs.YtclgncaghiinhaaGreatDoor
open Go.RowKit
theorem locksArg_one (w : World) (P : LkP) (vs : Array Value) (t : TypeId) (n : Nat) (hn : w.heap.size = n) (hv : vs.toList = P.cells) (ho : P.Arg w) : LocksArg (w.alloc (.cells vs t)) (some ⟨n, 0, none⟩) [P] :=
 rows_lit w [P] vs t n hn LkP.len (by rw [hv]; simp) (fun z hz => by rw [List.mem_singleton] at hz; rw [hz]; exact ⟨rfl, ho.x.below ((Below.refl _ _).alloc (Nat.le_refl _) _), ho.y.below ((Below.refl _ _).alloc (Nat.le_refl _) _)⟩)
theorem ownS_lit {w : World} {base : Nat} (l : List Sh4) (hb : base ≤ w.heap.size) (hl : l.length ≤ 1000) {vs : Array Value} (hv : vs.toList = l.flatMap Sh4.cells) {n : Nat} (hn : w.heap.size = n) : OwnS (w.alloc (.cells vs 53)) base (some ⟨n, 0, none⟩) l.length l := by
 subst hn
 have hs : vs.size = l.length * 4 := by rw [← Array.length_toList, hv, flat_len sh4_len]
 have := World.ownsRow_lit (base := base) (e := 53) (size := 4) w vs l.length hb (by unfold maxLen; omega) hs
 rw [hv] at this; exact this
set_option maxRecDepth 100000 in
set_option maxHeartbeats 64000000 in
theorem doorsLost_walk (l : Lk) (A : Option Addr) (n p : Nat) (B : Option Addr) (m q : Nat) (d : Crd) (o ct : Int) (Y : Option Addr) (cy : Nat) (ss : List Sh4) (w : World) (hx : SlotArg w A n p l.x) (hy : SlotArg w B m q l.y) (hlf : LFit l) (hd : CFit d) (ho : (Lit.int .i64 o).wf = true) (hct : (Lit.int .i64 ct).wf = true) (hss : Shows w Y ss) (hsc : ss.length ≤ cy) (hsm : cy ≤ maxLen) (ht : Tab w) :
  Calls Tryz.prog 6 #[.agg (l.cells A n p B m q).toArray, .agg d.cells.toArray, .int .i64 o, .int .i64 ct, .slice Y ss.length cy] w fun e w' => e = .returned (.bool true) ∧ Below w.heap.size w w' := by
 unfold maxLen at hsm
 obtain ⟨k, hk⟩ : ∃ n, ss.length = n := ⟨_, rfl⟩
 rw [hk] at hsc ⊢
 have hn := hx.len
 have hm := hy.len
 subst hn hm
 obtain ⟨w0, hw0⟩ : ∃ W, (w.alloc (.cells (l.cells A l.x.l.length p B l.y.l.length q).toArray 48)).alloc (.cells d.cells.toArray 28) = W := ⟨_, rfl⟩
 have bb0 : Below w.heap.size w w0 := by rw [← hw0]; exact ((Below.refl _ _).alloc (Nat.le_refl _) _).alloc (by simp) _
 have k0 : Blk w0 w.heap.size (l.cells A l.x.l.length p B l.y.l.length q).toArray := by rw [← hw0]; exact (blk_new rfl).alloc _
 have g0 : Blk w0 (w.heap.size + 1) d.cells.toArray := by rw [← hw0]; exact blk_new (by simp)
 have s0 : w.heap.size + 2 ≤ w0.heap.size := by rw [← hw0]; simp
 have q1 := head38_any w0 (ht.below bb0)
 have di := hd.i
 have q2 := fun W (h : Below w.heap.size w W) => cmake_any (rvC (max 1 (min d.i 900000))) 5 o (rvC_fit (by omega)) W (ht.below h)
 have fC := mkd_fit 5 o (rvC_fit (x := max 1 (min d.i 900000)) (by omega))
 obtain ⟨C, hC⟩ : ∃ c, mkdC (rvC (max 1 (min d.i 900000))) 5 o = c := ⟨_, rfl⟩
 obtain ⟨E, hE⟩ : ∃ c, mkdE (rvC (max 1 (min d.i 900000))) 5 o = c := ⟨_, rfl⟩
 rw [hC] at fC
 rw [hC, hE] at q2
 simp only [rvC] at q2
 obtain ⟨P, hP⟩ : ∃ P : LkP, (⟨{ l with k := 1024, r := 0 }, A, p, B, q⟩ : LkP) = P := ⟨_, rfl⟩
 have hA : P.Arg w := by rw [← hP]; exact ⟨hx, hy⟩
 have hPc : P.cells = [.int .i64 l.d, .int .i64 1024, .int .i64 0, .int .i64 l.x.s, .int .i64 l.x.c, .slice A l.x.l.length p, .int .u64 l.x.u, .int .i64 l.y.s, .int .i64 l.y.c, .slice B l.y.l.length q, .int .u64 l.y.u, .bool l.up] := by rw [← hP]; rfl
 have q3 := fun W b (h : LocksArg W (some ⟨b, 0, none⟩) [P]) => rdfew_any (some ⟨b, 0, none⟩) 1 1 [P] none 0 0 Y cy k W rfl (by omega) (by omega) (by omega) h
 obtain ⟨F, hF⟩ : ∃ x, fewD [P] 1 0 k = x := ⟨_, rfl⟩
 rw [hF] at q3
 have q4 := fun W (h : Below w.heap.size w W) (h1 : l.x.l.length ≤ 40) (h2 : l.y.l.length ≤ 40) => lvalid_any { l with k := 1024, r := 0 } A l.x.l.length p B l.y.l.length q W ((hx.below h).is h1) ((hy.below h).is h2) (ht.below h)
 obtain ⟨V, hV⟩ : ∃ x, lvB { l with k := 1024, r := 0 } = x := ⟨_, rfl⟩
 rw [hV] at q4
 have q5 := fun W => rcvalid_any d hd W
 obtain ⟨Z, hZ⟩ : ∃ x, cvB d = x := ⟨_, rfl⟩
 rw [hZ] at q5
 have e01 : E = 0 ∨ E = 1 := by rw [← hE, mkdE]; split <;> simp
 unfold Lk.cells at k0 hw0 q4 ⊢
 unfold Crd.cells at g0 hw0 q2 q5 ⊢
 have ⟨Hbb0, Hk0, Hg0, Hhw0, Hq1, Hq2, Hq3, Hq4⟩ := hid8 bb0 k0 g0 hw0 q1 q2 q3 q4; clear bb0 k0 g0 hw0 q1 q2 q3 q4; have ⟨Hq5, Hhx, Hhy, Hhlf, Hhd, Hho, Hhct, Hht⟩ := hid8 q5 hx hy hlf hd ho hct ht; clear q5 hx hy hlf hd ho hct ht; have ⟨Hhss, Hhk, Hs0, HfC, HhC, HhE, HhP, HhA⟩ := hid8 hss hk s0 fC hC hE hP hA; clear hss hk s0 fC hC hE hP hA; have ⟨HhPc, HhF, HhV, HhZ, He01⟩ := hid5 hPc hF hV hZ e01; clear hPc hF hV hZ e01
 go_enter Tryz.func6, Tryz.ntmps6
 go_wp2_with fail
 rw [Hhw0.out]
 go_wp2_with fail
 (with_reducible refine (Hq1.out).mono ?_)
 rintro e w1 ⟨rfl, b1⟩
 have c1 : Below w0.heap.size w0 w1 := Below.trans belt (b1.mono omh)
 have s1 := c1.size
 have bb1 := Hbb0.out.trans (c1.mono Hbb0.out.size)
 have k1 := Hk0.out.below c1
 have g1 := Hg0.out.below c1
 have ⟨Hb1, Hc1, Hbb1, Hk1, Hg1⟩ := hid5 b1 c1 bb1 k1 g1; clear b1 c1 bb1 k1 g1
 obtain ⟨y0, y1, y2, y3, y4, y5, y6, y7, y8, y9, y10, y11⟩ := at12_of Hk1.out
 obtain ⟨f0, f1, f2, f3, f4, f5, f6, f7, f8, f9, f10, f11⟩ := free12_of Hk1.out
 go_upto_region 3 with (fail)
 obtain ⟨w2, hw2⟩ : ∃ W, w1.setCell ⟨w.heap.size, 2, none⟩ (.int .i64 0) = W := ⟨_, rfl⟩
 rw [hw2]
 have bb2 : Below w.heap.size w w2 := by rw [← hw2]; exact below_set Hbb1.out (Nat.le_refl _) _ _
 have k2 : Blk w2 w.heap.size #[.int .i64 l.d, .int .i64 l.k, .int .i64 0, .int .i64 l.x.s, .int .i64 l.x.c, .slice A l.x.l.length p, .int .u64 l.x.u, .int .i64 l.y.s, .int .i64 l.y.c, .slice B l.y.l.length q, .int .u64 l.y.u, .bool l.up] := by rw [← hw2]; exact Hk1.out.set 2 _ (by simp)
 have g2 : Blk w2 (w.heap.size + 1) #[.int .i64 d.i, .int .i64 d.k, .int .i64 d.d, .int .i64 d.n, .int .i64 d.f, .int .i64 d.u, .int .i64 d.l, .int .i64 d.e, .int .i64 d.s] := by rw [← hw2]; exact Hg1.out.far (by omega) _
 have s2 : w.heap.size + 2 ≤ w2.heap.size := by rw [← hw2]; have := Hs0.out; simp; omega
 clear y0 y1 y2 y3 y4 y5 y6 y7 y8 y9 y10 y11 f0 f1 f2 f3 f4 f5 f6 f7 f8 f9 f10 f11
 have ⟨Hhw2, Hbb2, Hk2, Hg2, Hs2⟩ := hid5 hw2 bb2 k2 g2 s2; clear hw2 bb2 k2 g2 s2
 obtain ⟨z0, z1, z2, z3, z4, z5, z6, z7, z8⟩ := at9_of Hg2.out
 go_wp2_with fail
 (with_reducible refine (Hq2.out _ ?_).mono ?_)
 ·exact Hbb2.out.trans ((show Below w2.heap.size w2 _ from belt).mono Hbb2.out.size)
 rintro e w3 ⟨rfl, b3⟩
 have c3 : Below w2.heap.size w2 w3 := Below.trans belt (b3.mono omh)
 have s3 := c3.size
 have bb3 := Hbb2.out.trans (c3.mono Hbb2.out.size)
 have k3 := Hk2.out.below c3
 have g3 := Hg2.out.below c3
 have ⟨Hb3, Hc3, Hbb3, Hk3, Hg3⟩ := hid5 b3 c3 bb3 k3 g3; clear b3 c3 bb3 k3 g3
 clear z0 z1 z2 z3 z4 z5 z6 z7 z8
 obtain ⟨y0, y1, y2, y3, y4, y5, y6, y7, y8, y9, y10, y11⟩ := at12_of Hk3.out
 obtain ⟨f0, f1, f2, f3, f4, f5, f6, f7, f8, f9, f10, f11⟩ := free12_of Hk3.out
 have s23 := Hs2.out
 have ne3 : ¬ w.heap.size = w3.heap.size := by omega
 have lt3 : w.heap.size < w3.heap.size := by omega
 go_upto_region 5 with (fail)
 obtain ⟨w4, hw4⟩ : ∃ W, (w3.setCell ⟨w.heap.size, 1, none⟩ (.int .i64 1024)).alloc (.cells #[.int .i64 C.i, .int .i64 C.k, .int .i64 C.d, .int .i64 C.n, .int .i64 C.f, .int .i64 C.u, .int .i64 C.l, .int .i64 C.e, .int .i64 C.s] 28) = W := ⟨_, rfl⟩
 rw [hw4]
 have bb4 : Below w.heap.size w w4 := by rw [← hw4]; exact (below_set Hbb3.out (Nat.le_refl _) _ _).alloc (by simp; exact Hbb3.out.size) _
 have k4 : Blk w4 w.heap.size #[.int .i64 l.d, .int .i64 1024, .int .i64 0, .int .i64 l.x.s, .int .i64 l.x.c, .slice A l.x.l.length p, .int .u64 l.x.u, .int .i64 l.y.s, .int .i64 l.y.c, .slice B l.y.l.length q, .int .u64 l.y.u, .bool l.up] := by rw [← hw4]; exact (Hk3.out.set 1 _ (by simp)).alloc _
 have g4 : Blk w4 (w.heap.size + 1) #[.int .i64 d.i, .int .i64 d.k, .int .i64 d.d, .int .i64 d.n, .int .i64 d.f, .int .i64 d.u, .int .i64 d.l, .int .i64 d.e, .int .i64 d.s] := by rw [← hw4]; exact (Hg3.out.far (by omega) _).alloc _
 have u4 : Blk w4 w3.heap.size #[.int .i64 C.i, .int .i64 C.k, .int .i64 C.d, .int .i64 C.n, .int .i64 C.f, .int .i64 C.u, .int .i64 C.l, .int .i64 C.e, .int .i64 C.s] := by rw [← hw4]; exact blk_new (by simp)
 have z4 : w4.heap.size = w3.heap.size + 1 := by rw [← hw4]; simp
 have s34 : w3.heap.size < w4.heap.size := by omega
 have s04 : w.heap.size + 2 ≤ w3.heap.size := by omega
 clear y0 y1 y2 y3 y4 y5 y6 y7 y8 y9 y10 y11 f0 f1 f2 f3 f4 f5 f6 f7 f8 f9 f10 f11 ne3 lt3 z4 s23 s3
 have hA4 := (⟨HhA.out.x.below bb4, HhA.out.y.below bb4⟩ : P.Arg w4)
 have ⟨Hhw4, Hbb4, Hk4, Hg4, Hu4, HhA4⟩ := hid6 hw4 bb4 k4 g4 u4 hA4; clear hw4 bb4 k4 g4 u4 hA4
 obtain ⟨y0, y1, y2, y3, y4, y5, y6, y7, y8, y9, y10, y11⟩ := at12_of Hk4.out
 obtain ⟨z0, z1, z2, z3, z4, z5, z6, z7, z8⟩ := at9_of Hg4.out
 cases F with
 | false =>
  go_wp2_with fail
  (with_reducible refine (Hq3.out _ _ ?_).mono ?_)
  ·exact locksArg_one w4 P _ _ _ rfl HhPc.out.symm HhA4.out
  rintro e w5 ⟨rfl, b5⟩
  have c5 : Below w4.heap.size w4 w5 := Below.trans belt (b5.mono omh)
  have s5 := c5.size
  have bb5 := Hbb4.out.trans (c5.mono Hbb4.out.size)
  have ⟨Hb5, Hc5, Hbb5⟩ := hid3 b5 c5 bb5; clear b5 c5 bb5
  go_wp2_with fail
  go_ret
  exact ⟨rfl, Hbb5.out⟩
 | true =>
 have hF2 := HhF.out
 simp only [fewD, fewL, List.take, List.all_cons, List.all_nil, few1, ← HhP.out, Bool.and_eq_true, decide_eq_true_eq, len40B, and_true] at hF2
 obtain ⟨n40, _, k20⟩ := hF2
 go_wp2_with fail
 (with_reducible refine (Hq3.out _ _ ?_).mono ?_)
 ·exact locksArg_one w4 P _ _ _ rfl HhPc.out.symm HhA4.out
 rintro e w5 ⟨rfl, b5⟩
 have c5 : Below w4.heap.size w4 w5 := Below.trans belt (b5.mono omh)
 have s5 := c5.size
 have bb5 := Hbb4.out.trans (c5.mono Hbb4.out.size)
 have k5 := Hk4.out.below c5
 have g5 := Hg4.out.below c5
 have u5 := Hu4.out.below c5
 have ⟨Hb5, Hc5, Hbb5, Hk5, Hg5, Hu5⟩ := hid6 b5 c5 bb5 k5 g5 u5; clear b5 c5 bb5 k5 g5 u5
 clear y0 y1 y2 y3 y4 y5 y6 y7 y8 y9 y10 y11 z0 z1 z2 z3 z4 z5 z6 z7 z8
 obtain ⟨y0, y1, y2, y3, y4, y5, y6, y7, y8, y9, y10, y11⟩ := at12_of Hk5.out
 cases V with
 | false =>
  go_wp2_with fail
  (with_reducible refine (Hq4.out _ ?_ n40.1 n40.2).mono ?_)
  ·exact Hbb5.out.trans ((show Below w5.heap.size w5 _ from belt).mono Hbb5.out.size)
  rintro e w6 ⟨rfl, b6⟩
  have c6 : Below w5.heap.size w5 w6 := Below.trans belt (b6.mono omh)
  have s6 := c6.size
  have bb6 := Hbb5.out.trans (c6.mono Hbb5.out.size)
  have ⟨Hb6, Hc6, Hbb6⟩ := hid3 b6 c6 bb6; clear b6 c6 bb6
  go_wp2_with fail
  go_ret
  exact ⟨rfl, Hbb6.out⟩
 | true =>
 go_wp2_with fail
 (with_reducible refine (Hq4.out _ ?_ n40.1 n40.2).mono ?_)
 ·exact Hbb5.out.trans ((show Below w5.heap.size w5 _ from belt).mono Hbb5.out.size)
 rintro e w6 ⟨rfl, b6⟩
 have c6 : Below w5.heap.size w5 w6 := Below.trans belt (b6.mono omh)
 have s6 := c6.size
 have bb6 := Hbb5.out.trans (c6.mono Hbb5.out.size)
 have k6 := Hk5.out.below c6
 have g6 := Hg5.out.below c6
 have u6 := Hu5.out.below c6
 have ⟨Hb6, Hc6, Hbb6, Hk6, Hg6, Hu6⟩ := hid6 b6 c6 bb6 k6 g6 u6; clear b6 c6 bb6 k6 g6 u6
 clear y0 y1 y2 y3 y4 y5 y6 y7 y8 y9 y10 y11
 rcases He01.out with e0 | e1
 rotate_left
 ·subst e1
  go_wp2_with fail
  go_ret
  exact ⟨rfl, Hbb6.out⟩
 subst e0
 obtain ⟨z0, z1, z2, z3, z4, z5, z6, z7, z8⟩ := at9_of Hg6.out
 cases Z with
 | false =>
  go_wp2_with fail
  (with_reducible refine (Hq5.out _).mono ?_)
  rintro e w7 ⟨rfl, b7⟩
  have c7 : Below w6.heap.size w6 w7 := Below.trans belt (b7.mono omh)
  have s7 := c7.size
  have bb7 := Hbb6.out.trans (c7.mono Hbb6.out.size)
  have ⟨Hb7, Hc7, Hbb7⟩ := hid3 b7 c7 bb7; clear b7 c7 bb7
  go_wp2_with fail
  go_ret
  exact ⟨rfl, Hbb7.out⟩
 | true =>
 go_wp2_with fail
 (with_reducible refine (Hq5.out _).mono ?_)
 rintro e w7 ⟨rfl, b7⟩
 have c7 : Below w6.heap.size w6 w7 := Below.trans belt (b7.mono omh)
 have s7 := c7.size
 have bb7 := Hbb6.out.trans (c7.mono Hbb6.out.size)
 have k7 := Hk6.out.below c7
 have g7 := Hg6.out.below c7
 have u7 := Hu6.out.below c7
 have ⟨Hb7, Hc7, Hbb7, Hk7, Hg7, Hu7⟩ := hid6 b7 c7 bb7 k7 g7 u7; clear b7 c7 bb7 k7 g7 u7
 clear z0 z1 z2 z3 z4 z5 z6 z7 z8
 obtain ⟨z0, z1, z2, z3, z4, z5, z6, z7, z8⟩ := at9_of Hg7.out
 by_cases hi : d.i ≤ 900000
 rotate_left
 ·have hi1 : (900000 : Int) < d.i := by omega
  have hi2 : decide ((900000 : Int) < d.i) = true := decide_eq_true hi1
  go_wp2_with fail
  go_ret
  exact ⟨rfl, Hbb7.out⟩
 have hi1 : ¬ (900000 : Int) < d.i := by omega
 have hi2 : decide ((900000 : Int) < d.i) = false := decide_eq_false hi1
 have hm : mayMk (rvC d.i) 5 o = true := by
  obtain ⟨⟨_, _, h3, _⟩, _⟩ := cvB_iff.1 HhZ.out
  have h4 := HhE.out
  rw [show max 1 (min d.i 900000) = d.i by omega, mkdE] at h4
  split at h4
  ·assumption
  ·cases h4
 have hC2 : mkdC (rvC d.i) 5 o = C := by
  obtain ⟨⟨_, _, h3, _⟩, _⟩ := cvB_iff.1 HhZ.out
  rw [← HhC.out, show max 1 (min d.i 900000) = d.i by omega]
 obtain ⟨N, hN⟩ : ∃ N, (if d.k = 1 then max 1 (min ct 1000000000) else d.n) = N := ⟨_, rfl⟩
 have hN2 : if d.k = 1 then 1 ≤ N ∧ N ≤ 1000000000 else N = d.n := by
  rw [← hN]; split
  ·omega
  ·rfl
 obtain ⟨pl1, pl2, pl3⟩ := lost_plain (L := { l with k := 1024, r := 0 }) (o := o) HhV.out rfl rfl hm HhZ.out hi hN2 (ss.map lsS) (fun s hs => by
  obtain ⟨z, _, rfl⟩ := List.mem_map.1 hs
  exact lsS_good z)
 have hNf : -9223372036854775808 ≤ N ∧ N ≤ 9223372036854775807 := by
  have := Hhd.out.n
  split at hN2 <;> omega
 have fN : CFit ({ d with n := N } : Crd) := ⟨Hhd.out.i, Hhd.out.k, Hhd.out.d, hNf, Hhd.out.f, Hhd.out.u, Hhd.out.l, Hhd.out.e, Hhd.out.s⟩
 have q6 := fun W (h : Below w.heap.size w W) => cmake_any ({ d with n := N } : Crd) 5 o fN W (Hht.out.below h)
 rw [show mkdE ({ d with n := N } : Crd) 5 o = 0 by rw [mkdE, if_pos pl1]] at q6
 have fC2 := mkd_fit 5 o fN
 rw [lostC, hC2] at pl2 pl3
 obtain ⟨C2, hC3⟩ : ∃ c, mkdC ({ d with n := N } : Crd) 5 o = c := ⟨_, rfl⟩
 rw [hC3] at q6 pl2 pl3 fC2
 unfold Crd.cells at q6
 dsimp only at q6
 have cID : C.i = 900001 := by rw [← hC2]; exact (mkd_fld hm).1
 obtain ⟨r1, r2, r3, r4, r5⟩ := ran pl2
 rw [List.length_cons, List.length_map, Hhk.out] at r2
 have okP : P.Ok w := by
  have h1 := HhA.out
  rw [← HhP.out] at h1 ⊢
  exact ⟨h1.x.ints, h1.y.ints, h1.x.sfit n40.1, h1.y.sfit n40.2⟩
 have hPL : P.L = { l with k := 1024, r := 0 } := by rw [← HhP.out]
 generalize hL : ({ l with k := 1024, r := 0 } : Lk) = L at *
 have z07 := Hbb7.out.size
 have lg : w.heap.size + 1 < w7.heap.size := by omega
 have lw : w.heap.size < w7.heap.size := by omega
 have ⟨Hhm, HhC2, HhN, HhN2, Hpl1, Hpl2, Hpl3, HfN⟩ := hid8 hm hC2 hN hN2 pl1 pl2 pl3 fN; clear hm hC2 hN hN2 pl1 pl2 pl3 fN; have ⟨Hq6, HfC2, HhC3, HcID, Hr1, Hr2, Hr3, Hr4⟩ := hid8 q6 fC2 hC3 cID r1 r2 r3 r4; clear q6 fC2 hC3 cID r1 r2 r3 r4; have ⟨Hr5, HokP, HhPL, HhL, HhNf⟩ := hid5 r5 okP hPL hL hNf; clear r5 okP hPL hL hNf
 go_upto_region 9 with (fail)
 obtain ⟨w8, hw8⟩ : ∃ W, w7.alloc (.cells #[.int .i64 d.i, .int .i64 d.k, .int .i64 d.d, .int .i64 (max 1 (min ct 1000000000)), .int .i64 d.f, .int .i64 d.u, .int .i64 d.l, .int .i64 d.e, .int .i64 d.s] 28) = W := ⟨_, rfl⟩
 rw [hw8]
 have f8 : Blk w8 w7.heap.size #[.int .i64 d.i, .int .i64 d.k, .int .i64 d.d, .int .i64 (max 1 (min ct 1000000000)), .int .i64 d.f, .int .i64 d.u, .int .i64 d.l, .int .i64 d.e, .int .i64 d.s] := by rw [← hw8]; exact blk_new rfl
 have b78 : Below w7.heap.size w7 w8 := by rw [← hw8]; exact alloc_below _ _
 have y3 := keepc b78 lg z3
 have y1 := keepc b78 lg z1
 clear z0 z1 z2 z3 z4 z5 z6 z7 z8
 have ⟨Hhw8, Hf8, Hb78⟩ := hid3 hw8 f8 b78; clear hw8 f8 b78
 go_upto_if 75 with (fail)
 go_cut [14] from 75 to 78 (fun c14 wx => c14 = .pointer (some ⟨w7.heap.size, 0, none⟩) ∧ Blk wx w7.heap.size #[.int .i64 d.i, .int .i64 d.k, .int .i64 d.d, .int .i64 N, .int .i64 d.f, .int .i64 d.u, .int .i64 d.l, .int .i64 d.e, .int .i64 d.s] ∧ Below w7.heap.size w7 wx)
 case first =>
  by_cases hk1 : d.k = 1
  ·have e1 : (d.k != 1) = false := by simp [hk1]
   have eN : max 1 (min ct 1000000000) = N := by rw [← HhN.out, if_pos hk1]
   have ⟨Hhk1, HeN⟩ := hid2 hk1 eN; clear hk1 eN
   go_wp2_with fail
   go_meet
   case rel => exact ⟨rfl, by rw [← HeN.out]; exact Hf8.out, Hb78.out⟩
  ·have e1 : (d.k != 1) = true := by simp [hk1]
   have eN : d.n = N := by rw [← HhN.out, if_neg hk1]
   have ⟨Hhk1, HeN⟩ := hid2 hk1 eN; clear hk1 eN
   obtain ⟨v0, v1, v2, v3, v4, v5, v6, v7, v8⟩ := at9_of Hf8.out
   obtain ⟨f0, f1, f2, f3, f4, f5, f6, f7, f8⟩ := free9_of Hf8.out
   have sz8 : w7.heap.size < w8.heap.size := (Hf8.out 0 _ rfl).lt
   have l1 : w.heap.size + 1 < w8.heap.size := by omega
   go_wp2_with fail
   go_meet
   case rel => exact ⟨rfl, by rw [← HeN.out]; exact Hf8.out.set 3 _ (by simp), below_set Hb78.out (Nat.le_refl _) _ _⟩
 case rest =>
  obtain ⟨rfl, f9, b9⟩ := hcut
  obtain ⟨w9, hw9⟩ : ∃ W, wc = W := ⟨_, rfl⟩
  rw [hw9] at f9 b9 ⊢
  have bb9 := Hbb7.out.trans (b9.mono z07)
  have k9 := Hk7.out.below b9
  have g9 := Hg7.out.below b9
  have u9 := Hu7.out.below b9
  have s9 := (f9 0 _ rfl).lt
  have e9 := b9.size
  clear y1 y3
  have ⟨Hhw9, Hf9, Hb9, Hbb9, Hk9, Hg9, Hu9⟩ := hid7 hw9 f9 b9 bb9 k9 g9 u9; clear hw9 f9 b9 bb9 k9 g9 u9
  obtain ⟨z0, z1, z2, z3, z4, z5, z6, z7, z8⟩ := at9_of Hf9.out
  go_wp2_with fail
  (with_reducible refine (Hq6.out _ ?_).mono ?_)
  ·exact Hbb9.out.trans ((show Below w9.heap.size w9 _ from belt).mono Hbb9.out.size)
  rintro e w10 ⟨rfl, b10⟩
  have c10 : Below w9.heap.size w9 w10 := Below.trans belt (b10.mono omh)
  have s10 := c10.size
  have bb10 := Hbb9.out.trans (c10.mono Hbb9.out.size)
  have k10 := Hk9.out.below c10
  have g10 := Hg9.out.below c10
  have u10 := Hu9.out.below c10
  have ⟨Hb10, Hc10, Hbb10, Hk10, Hg10, Hu10⟩ := hid6 b10 c10 bb10 k10 g10 u10; clear b10 c10 bb10 k10 g10 u10
  clear z0 z1 z2 z3 z4 z5 z6 z7 z8
  go_upto_region 12 with (fail)
  obtain ⟨w11, hw11⟩ : ∃ W, w10.alloc (.cells #[.int .i64 C2.i, .int .i64 C2.k, .int .i64 C2.d, .int .i64 C2.n, .int .i64 C2.f, .int .i64 C2.u, .int .i64 C2.l, .int .i64 C2.e, .int .i64 C2.s] 28) = W := ⟨_, rfl⟩
  rw [hw11]
  have b11 : Below w10.heap.size w10 w11 := by rw [← hw11]; exact alloc_below _ _
  have n11 : Blk w11 w10.heap.size #[.int .i64 C2.i, .int .i64 C2.k, .int .i64 C2.d, .int .i64 C2.n, .int .i64 C2.f, .int .i64 C2.u, .int .i64 C2.l, .int .i64 C2.e, .int .i64 C2.s] := by rw [← hw11]; exact blk_new rfl
  have bb11 := Hbb10.out.trans (b11.mono Hbb10.out.size)
  have k11 := Hk10.out.below b11
  have g11 := Hg10.out.below b11
  have u11 := Hu10.out.below b11
  have l11a := (n11 0 _ rfl).lt
  have l11b := (u11 0 _ rfl).lt
  have l11c := (g11 0 _ rfl).lt
  have l11d := (k11 0 _ rfl).lt
  have ⟨Hhw11, Hb11, Hn11, Hbb11, Hk11, Hg11, Hu11⟩ := hid7 hw11 b11 n11 bb11 k11 g11 u11; clear hw11 b11 n11 bb11 k11 g11 u11
  obtain ⟨x0, x1, x2, x3, x4, x5, x6, x7, x8⟩ := at9_of Hu11.out
  obtain ⟨z0, z1, z2, z3, z4, z5, z6, z7, z8⟩ := at9_of Hg11.out
  obtain ⟨v0, v1, v2, v3, v4, v5, v6, v7, v8⟩ := at9_of Hn11.out
  go_upto_region 13 with (fail)
  obtain ⟨w12, hw12⟩ : ∃ W, w11.alloc (.cells #[.int .i64 C.i, .int .i64 C.k, .int .i64 C.d, .int .i64 C.n, .int .i64 C.f, .int .i64 C.u, .int .i64 C.l, .int .i64 C.e, .int .i64 C.s, .int .i64 d.i, .int .i64 d.k, .int .i64 d.d, .int .i64 d.n, .int .i64 d.f, .int .i64 d.u, .int .i64 d.l, .int .i64 d.e, .int .i64 d.s, .int .i64 C2.i, .int .i64 C2.k, .int .i64 C2.d, .int .i64 C2.n, .int .i64 C2.f, .int .i64 C2.u, .int .i64 C2.l, .int .i64 C2.e, .int .i64 C2.s] 28) = W := ⟨_, rfl⟩
  rw [hw12]
  have b12 : Below w11.heap.size w11 w12 := by rw [← hw12]; exact alloc_below _ _
  have cs12 : Cards w12 (some ⟨w11.heap.size, 0, none⟩) [C, d, C2] := by
   rw [← hw12]
   refine cards_lit w11 [C, d, C2] _ _ _ rfl rfl (fun x hx => ?_)
   rcases List.mem_cons.1 hx with rfl | hx
   ·exact HfC.out
   ·rcases List.mem_cons.1 hx with rfl | hx
    ·exact Hhd.out
    ·rw [List.mem_singleton] at hx; rw [hx]; exact HfC2.out
  have bb12 := Hbb11.out.trans (b12.mono Hbb11.out.size)
  have k12 := Hk11.out.below b12
  have l12 := b12.size
  have u12 := Hu11.out.below b12
  clear x0 x1 x2 x3 x4 x5 x6 x7 x8 z0 z1 z2 z3 z4 z5 z6 z7 z8 v0 v1 v2 v3 v4 v5 v6 v7 v8
  have ⟨Hhw12, Hb12, Hcs12, Hbb12, Hk12, Hu12⟩ := hid6 hw12 b12 cs12 bb12 k12 u12; clear hw12 b12 cs12 bb12 k12 u12
  go_upto_region 14 with (fail)
  obtain ⟨w13, hw13⟩ : ∃ W, w12.alloc (.cells #[.int .i64 0, .int .i64 0, .int .i64 50, .int .i64 3] 53) = W := ⟨_, rfl⟩
  rw [hw13]
  have b13 : Below w12.heap.size w12 w13 := by rw [← hw13]; exact alloc_below _ _
  have ow13 : OwnS w13 w12.heap.size (some ⟨w12.heap.size, 0, none⟩) 1 [⟨0, 0, 50, 3⟩] := by rw [← hw13]; exact ownS_lit [⟨0, 0, 50, 3⟩] (Nat.le_refl _) (by simp) rfl rfl
  have ⟨Hhw13, Hb13, How13⟩ := hid3 hw13 b13 ow13; clear hw13 b13 ow13
  go_upto_region 15 with (fail)
  go_loopw [18, 19] (fun u i wr => ∃ (j : Nat) (A5 : Option Addr) (c5 : Nat), j ≤ k ∧ u = .slice A5 (j + 1) c5 ∧ i = .int .i64 j ∧ OwnS wr w12.heap.size A5 c5 (⟨0, 0, 50, 3⟩ :: (ss.take j).map lsS) ∧ Below w12.heap.size w12 wr) (fun _ i _ => k - (intOf i).toNat)
  case atStart => exact ⟨0, _, 1, by omega, rfl, rfl, How13.out, Hb13.out⟩
  case round =>
   obtain ⟨j, A5, c5, hj, rfl, rfl, ow5, bz⟩ := hrel
   have szw := bz.size
   have l5 : (⟨0, 0, 50, 3⟩ :: (ss.take j).map lsS : List Sh4).length = j + 1 := by rw [List.length_cons, List.length_map, List.length_take, Hhk.out]; omega
   obtain ⟨w14, hw14⟩ : ∃ W, wr = W := ⟨_, rfl⟩
   rw [hw14] at ow5 bz szw ⊢
   have bw := Hbb12.out.trans (bz.mono Hbb12.out.size)
   have bb14 := bw
   have s014 := bw.size
   have Hbb14 := Lib.hid bb14; clear bb14
   by_cases hlt : j < k
   ·have g1 : (j : Int) < (k : Int) := by omega
    have g0 : (0 : Int) ≤ (j : Int) := by omega
    obtain ⟨z, hz⟩ : ∃ s, ss[j]? = some s := ⟨_, List.getElem?_eq_getElem (by rw [Hhk.out]; exact hlt)⟩
    obtain ⟨bs, os, rfl, zs, c0, c1, c2, c3⟩ := (Hhss.out.below bw).at hz
    have e5 : (⟨0, 0, 50, 3⟩ :: (ss.take (j + 1)).map lsS : List Sh4) = (⟨0, 0, 50, 3⟩ :: (ss.take j).map lsS) ++ [⟨0, rm z.b 3, rm z.c 1000000000, rm z.d 4⟩] := by rw [List.take_add_one, hz, List.map_append]; rfl
    obtain ⟨pa, qa, a1, a2, a3, a4, a5⟩ := rm_walk (a := z.b) (n := 3) (by omega)
    obtain ⟨pb, qb, d1, d2, d3, d4, d5⟩ := rm_walk (a := z.c) (n := 1000000000) (by omega)
    obtain ⟨pc, qc, f1, f2, f3, f4, f5⟩ := rm_walk (a := z.d) (n := 4) (by omega)
    generalize (⟨0, 0, 50, 3⟩ :: (ss.take j).map lsS : List Sh4) = L5 at *
    generalize rm z.b 3 = xa at *
    generalize rm z.c 1000000000 = xb at *
    generalize rm z.d 4 = xc at *
    have ⟨How5, Hbz, Hbw, Hhz, He5, Hl5, Hhw14⟩ := hid7 ow5 bz bw hz e5 l5 hw14; clear ow5 bz bw hz e5 l5 hw14
    go_upto_region 18 with (fail)
    obtain ⟨w15, hw15⟩ : ∃ W, w14.alloc (.cells #[.int .i64 z.a, .int .i64 z.b, .int .i64 z.c, .int .i64 z.d] 53) = W := ⟨_, rfl⟩
    rw [hw15]
    clear c0 c1 c2 c3
    have d15 : Below w14.heap.size w14 w15 := by rw [← hw15]; exact alloc_below _ _
    have y15 : Blk w15 w14.heap.size #[.int .i64 z.a, .int .i64 z.b, .int .i64 z.c, .int .i64 z.d] := by rw [← hw15]; exact blk_new rfl
    have ow15 := OwnRows.below How5.out d15
    have b15 := Hbz.out.trans (d15.mono szw)
    have s15 := b15.size
    have ⟨Hhw15, Hd15, Hy15, How15, Hb15⟩ := hid5 hw15 d15 y15 ow15 b15; clear hw15 d15 y15 ow15 b15
    obtain ⟨y0, y1, y2, y3⟩ := at4_of Hy15.out
    go_wp2_with (at_builtin; refine wp_app_show _ rfl (.tmp 101) (.tmp 118) rfl w12.heap.size A5 (some ⟨w15.heap.size, 0, none⟩) c5 1 (j + 1) L5 ⟨0, xa, xb, xc⟩ Hl5.out (by omega) rfl rfl (OwnRows.alloc How15.out _) (shows_new w15 ⟨0, xa, xb, xc⟩ _ _ rfl) (by simp; omega) ?_)
    intro A9 c9 w16 ow16 gr16
    have b16 : Below w12.heap.size w12 w16 := (Hb15.out.alloc s15 _).grown gr16 (by simp; omega) (fun r e => (OwnRows.lt How15.out r e).1)
    clear y0 y1 y2 y3
    have ⟨How16, Hgr16, Hb16⟩ := hid3 ow16 gr16 b16; clear ow16 gr16 b16
    go_wp2_with fail
    go_roundw
    case rel => exact ⟨j + 1, A9, c9, by omega, rfl, by go_num, by rw [He5.out]; exact How16.out, Hb16.out⟩
    case measure => simp [intOf]; omega
   ·have g1 : ¬ (j : Int) < (k : Int) := by omega
    have ej : k = j := by omega
    subst ej
    rw [List.take_of_length_le (by rw [Hhk.out]; exact Nat.le_refl _)] at ow5 l5
    have k14 := Hk12.out.below bz
    have u14 := Hu12.out.below bz
    have sh14 := ow5.shows
    have ok14 := HokP.out.below bw
    have q7 := fun W b (h1 : Locks W (some ⟨b, 0, none⟩) [P]) (h : Below w12.heap.size w12 W) (h2 : Shows W A5 (⟨0, 0, 50, 3⟩ :: ss.map lsS)) (h3 : Below w.heap.size w W) => drun_any (some ⟨b, 0, none⟩) 1 1 [P] (some ⟨w11.heap.size, 0, none⟩) 3 3 [C, d, C2] A5 c5 (k + 1) (⟨0, 0, 50, 3⟩ :: ss.map lsS) W rfl rfl l5 (by omega) (by omega) (by omega) h1 (Hcs12.out.below h) h2 (Hht.out.below h3)
    simp only [List.map_cons, List.map_nil, HhPL.out] at q7
    have r2 := Hr2.out
    have r3 := Hr3.out
    have r5 : (runL [L] [C, d, C2] (⟨0, 0, 50, 3⟩ :: ss.map lsS)).length = 1 := Hr5.out
    have pl3 := Hpl3.out
    rw [r3] at q7
    unfold RunRes at q7
    rw [r2, r5] at q7
    generalize runL [L] [C, d, C2] (⟨0, 0, 50, 3⟩ :: ss.map lsS) = RL at *
    generalize runW [L] [C, d, C2] (⟨0, 0, 50, 3⟩ :: ss.map lsS) = RW at *
    obtain ⟨M, hM⟩ : ∃ M, k + 1 = M := ⟨_, rfl⟩
    rw [hM] at q7 r2 ⊢
    have e1 : ((M : Int) != (M : Int)) = false := by simp
    have hM20 : M ≤ 21 := by omega
    have z14 : w.heap.size + 2 ≤ w14.heap.size := by omega
    have bz14 := bz
    have ⟨Hq7, Hr2, Hr3, Hr5, Hpl3, HhM, Hk14, Hu14⟩ := hid8 q7 r2 r3 r5 pl3 hM k14 u14; clear q7 r2 r3 r5 pl3 hM k14 u14; have ⟨Hsh14, Hok14, Hbz14, How5, Hl5, Hbw, Hhw14, Hbz⟩ := hid8 sh14 ok14 bz14 ow5 l5 bw hw14 bz; clear sh14 ok14 bz14 ow5 l5 bw hw14 bz
    obtain ⟨y0, y1, y2, y3, y4, y5, y6, y7, y8, y9, y10, y11⟩ := at12_of Hk14.out
    go_wp2_with fail
    (with_reducible refine (Hq7.out _ _ ?_ ?_ ?_ ?_).mono ?_)
    ·exact locks_one w14 P _ _ _ rfl HhPc.out.symm Hok14.out
    ·exact Hbz14.out.trans ((show Below w14.heap.size w14 _ from belt).mono szw)
    ·exact Hsh14.out.below (show Below w14.heap.size w14 _ from belt)
    ·exact Hbw.out.trans ((show Below w14.heap.size w14 _ from belt).mono s014)
    rintro e w17 ⟨A7, cc7, P7, O7, kk7, rfl, _, _, ob17, _, _, b17⟩
    have c17 : Below w14.heap.size w14 w17 := Below.trans belt (b17.mono omh)
    have s17 := c17.size
    have bb17 := Hbb14.out.trans (c17.mono Hbb14.out.size)
    have k17 := Hk14.out.below c17
    have u17 := Hu14.out.below c17
    have ⟨Hb17, Hc17, Hbb17, Hk17, Hu17⟩ := hid5 b17 c17 bb17 k17 u17; clear b17 c17 bb17 k17 u17
    clear y0 y1 y2 y3 y4 y5 y6 y7 y8 y9 y10 y11
    obtain ⟨KX, hKX⟩ : ∃ x, kpB false l.x = x := ⟨_, rfl⟩
    obtain ⟨KF, hKF⟩ : ∃ x, kpB KX l.y = x := ⟨_, rfl⟩
    have pl4 : ∀ b ∈ RW, b = false ∨ KF = true := by
     rcases Hpl3.out with h | h
     ·intro b _
      rw [← HhL.out, hKX, hKF] at h
      exact .inr h
     ·exact fun b hb => .inl (h b hb)
    have s017 := Hbb17.out.size
    have ⟨HhKX, HhKF, Hpl4, Hob17⟩ := hid4 hKX hKF pl4 ob17; clear hKX hKF pl4 ob17
    obtain ⟨y0, y1, y2, y3, y4, y5, y6, y7, y8, y9, y10, y11⟩ := at12_of Hk17.out
    have ix0 : ∀ W, (Instr.index 46 (.agg #[.int .i64 l.x.s, .int .i64 l.x.c, .slice A l.x.l.length p, .int .u64 l.x.u, .int .i64 l.y.s, .int .i64 l.y.c, .slice B l.y.l.length q, .int .u64 l.y.u]) (.int .i64 0)).run Tryz.prog W = .ok (.agg #[.int .i64 l.x.s, .int .i64 l.x.c, .slice A l.x.l.length p, .int .u64 l.x.u]) W := fun _ => by kernel_rfl
    have ix1 : ∀ W, (Instr.index 46 (.agg #[.int .i64 l.x.s, .int .i64 l.x.c, .slice A l.x.l.length p, .int .u64 l.x.u, .int .i64 l.y.s, .int .i64 l.y.c, .slice B l.y.l.length q, .int .u64 l.y.u]) (.int .i64 1)).run Tryz.prog W = .ok (.agg #[.int .i64 l.y.s, .int .i64 l.y.c, .slice B l.y.l.length q, .int .u64 l.y.u]) W := fun _ => by kernel_rfl
    go_upto_region 24 with (fail)
    go_loopw [24, 149] (fun u i wr => ∃ (j : Int) (K : Bool), 0 ≤ j ∧ j ≤ 2 ∧ u = .bool K ∧ i = .int .i64 j ∧ (j = 0 → K = false) ∧ (j = 1 → K = KX) ∧ (j = 2 → K = KF) ∧ Below w17.heap.size w17 wr) (fun _ i _ => 2 - (intOf i).toNat)
    case atStart => exact ⟨0, false, by omega, by omega, rfl, rfl, fun _ => rfl, by omega, by omega, Below.refl _ _⟩
    case round =>
     obtain ⟨j, K, hj0, hj2, rfl, rfl, h0, h1, h2, b18⟩ := hrel
     obtain ⟨w18, hw18⟩ : ∃ W, wr = W := ⟨_, rfl⟩
     rw [hw18] at b18 ⊢
     have bb18 := Hbb17.out.trans (b18.mono s017)
     have u18 := Hu17.out.below b18
     have s018 := bb18.size
     have s1718 := b18.size
     clear y0 y1 y2 y3 y4 y5 y6 y7 y8 y9 y10 y11
     have ⟨Hhw18, Hb18, Hbb18, Hu18⟩ := hid4 hw18 b18 bb18 u18; clear hw18 b18 bb18 u18
     rcases (show j = 0 ∨ j = 1 ∨ j = 2 by omega) with rfl | rfl | rfl
     ·have eK : K = false := h0 rfl
      subst eK
      clear h0 h1 h2
      go_upto_region 26 with (fail)
      obtain ⟨w19, hw19⟩ : ∃ W, w18.alloc (.cells #[.int .i64 l.x.s, .int .i64 l.x.c, .slice A l.x.l.length p, .int .u64 l.x.u] 45) = W := ⟨_, rfl⟩
      rw [hw19]
      have b19 : Below w18.heap.size w18 w19 := by rw [← hw19]; exact alloc_below _ _
      have y19 : Blk w19 w18.heap.size #[.int .i64 l.x.s, .int .i64 l.x.c, .slice A l.x.l.length p, .int .u64 l.x.u] := by rw [← hw19]; exact blk_new rfl
      have bb19 := Hbb18.out.trans (b19.mono s018)
      have i19 := Hhx.out.ints.below bb19
      have u19 := Hu18.out.below b19
      have bb1719 := Hb18.out.trans (b19.mono Hb18.out.size)
      have ly := (y19 0 _ rfl).lt
      have lu := (u19 0 _ rfl).lt
      have ⟨Hhw19, Hb19, Hy19, Hbb19, Hi19, Hu19, Hbb1719⟩ := hid7 hw19 b19 y19 bb19 i19 u19 bb1719; clear hw19 b19 y19 bb19 i19 u19 bb1719
      obtain ⟨y0, y1, y2, y3⟩ := at4_of Hy19.out
      go_upto_region 27 with (fail)
      go_loopw [24, 155] (fun u i wr => ∃ (i2 : Nat) (KK : Bool), i2 ≤ l.x.l.length ∧ u = .bool KK ∧ i = .int .i64 i2 ∧ KK = (false || (l.x.l.take i2).any (· == 900001)) ∧ Below w19.heap.size w19 wr) (fun _ i _ => l.x.l.length - (intOf i).toNat)
      case atStart => exact ⟨0, false, by omega, rfl, rfl, by simp, Below.refl _ _⟩
      case round =>
       obtain ⟨i2, KK, hi2, rfl, rfl, hKK, bz3⟩ := hrel
       obtain ⟨w20, hw20⟩ : ∃ W, wr = W := ⟨_, rfl⟩
       rw [hw20] at bz3 ⊢
       have s20 := bz3.size
       have i20 := Hi19.out.below bz3
       have u20 := Hu19.out.below bz3
       have y20 := Hy19.out.below bz3
       clear y0 y1 y2 y3
       by_cases hlt2 : i2 < l.x.l.length
       ·have g1 : (i2 : Int) < (l.x.l.length : Int) := by omega
        have g0 : (0 : Int) ≤ (i2 : Int) := by omega
        obtain ⟨bI, oI, rfl, hbI, hcI⟩ := i20 i2 hlt2
        obtain ⟨vI, hvI⟩ : ∃ x, l.x.l.getD i2 0 = x := ⟨_, rfl⟩
        rw [hvI] at hcI
        have hgI : l.x.l[i2]? = some vI := by rw [← hvI, List.getD_eq_getElem?_getD, List.getElem?_eq_getElem hlt2]; rfl
        obtain ⟨tb, htb⟩ : ∃ x, (vI == C.i) = x := ⟨_, rfl⟩
        have e6 : (false || (l.x.l.take (i2 + 1)).any (· == 900001)) = (KK || tb) := by
         rw [List.take_add_one, hgI, hKK, ← htb, HcID.out, List.any_append]
         simp [Bool.or_assoc]
        have tu := (u20 0 _ rfl).at
        have ⟨Hbz3, Hi20, Hu20, Hy20, HhvI, HhgI, HhKK, He6⟩ := hid8 bz3 i20 u20 y20 hvI hgI hKK e6; clear bz3 i20 u20 y20 hvI hgI hKK e6; have Hhw20 := Lib.hid hw20; clear hw20
        cases KK
        all_goals
         go_wp2_with fail
         go_roundw
         case rel => exact ⟨i2 + 1, _, by omega, rfl, by go_num, by rw [He6.out]; simp, Hbz3.out⟩
         case measure => simp [intOf]; omega
       ·have g1 : ¬ (i2 : Int) < (l.x.l.length : Int) := by omega
        have ei : i2 = l.x.l.length := by omega
        subst ei
        rw [List.take_of_length_le (by omega)] at hKK
        obtain ⟨ta, hta⟩ : ∃ x, decide ((999999970 : Int) ≤ l.x.s) = x := ⟨_, rfl⟩
        obtain ⟨tc, htc⟩ : ∃ x, decide ((500 : Int) ≤ (l.x.l.length : Int)) = x := ⟨_, rfl⟩
        have e7 : ((KK || ta) || tc) = KX := by
         rw [hKK, ← hta, ← htc, ← HhKX.out, kpB]
         congr 1
         rw [Bool.eq_iff_iff]; simp
         omega
        have ⟨Hbz3, Hi20, Hu20, Hy20, HhKK, He7, Hhw20⟩ := hid7 bz3 i20 u20 y20 hKK e7 hw20; clear bz3 i20 u20 y20 hKK e7 hw20
        obtain ⟨y0, y1, y2, y3⟩ := at4_of Hy20.out
        cases KK
        ·cases ta
         all_goals
          go_wp2_with fail
          go_roundw
          case rel => exact ⟨1, _, by omega, by omega, rfl, rfl, by omega, by first | omega | (intro _; rw [← He7.out]; simp), by first | omega | (intro _; rw [← He7.out]; simp), Hbb1719.out.trans (Hbz3.out.mono Hbb1719.out.size)⟩
          case measure => simp [intOf]
        ·go_wp2_with fail
         go_roundw
         case rel => exact ⟨1, _, by omega, by omega, rfl, rfl, by omega, by first | omega | (intro _; rw [← He7.out]; simp), by first | omega | (intro _; rw [← He7.out]; simp), Hbb1719.out.trans (Hbz3.out.mono Hbb1719.out.size)⟩
         case measure => simp [intOf]
     ·have eK : K = KX := h1 rfl
      clear h0 h1 h2
      have hKFK : kpB K l.y = KF := by rw [eK]; exact HhKF.out
      clear eK
      have HhKFK := Lib.hid hKFK; clear hKFK
      go_upto_region 26 with (fail)
      obtain ⟨w19, hw19⟩ : ∃ W, w18.alloc (.cells #[.int .i64 l.y.s, .int .i64 l.y.c, .slice B l.y.l.length q, .int .u64 l.y.u] 45) = W := ⟨_, rfl⟩
      rw [hw19]
      have b19 : Below w18.heap.size w18 w19 := by rw [← hw19]; exact alloc_below _ _
      have y19 : Blk w19 w18.heap.size #[.int .i64 l.y.s, .int .i64 l.y.c, .slice B l.y.l.length q, .int .u64 l.y.u] := by rw [← hw19]; exact blk_new rfl
      have bb19 := Hbb18.out.trans (b19.mono s018)
      have i19 := Hhy.out.ints.below bb19
      have u19 := Hu18.out.below b19
      have bb1719 := Hb18.out.trans (b19.mono Hb18.out.size)
      have ly := (y19 0 _ rfl).lt
      have lu := (u19 0 _ rfl).lt
      have ⟨Hhw19, Hb19, Hy19, Hbb19, Hi19, Hu19, Hbb1719⟩ := hid7 hw19 b19 y19 bb19 i19 u19 bb1719; clear hw19 b19 y19 bb19 i19 u19 bb1719
      obtain ⟨y0, y1, y2, y3⟩ := at4_of Hy19.out
      go_upto_region 27 with (fail)
      go_loopw [24, 155] (fun u i wr => ∃ (i2 : Nat) (KK : Bool), i2 ≤ l.y.l.length ∧ u = .bool KK ∧ i = .int .i64 i2 ∧ KK = (K || (l.y.l.take i2).any (· == 900001)) ∧ Below w19.heap.size w19 wr) (fun _ i _ => l.y.l.length - (intOf i).toNat)
      case atStart => exact ⟨0, K, by omega, rfl, rfl, by simp, Below.refl _ _⟩
      case round =>
       obtain ⟨i2, KK, hi2, rfl, rfl, hKK, bz3⟩ := hrel
       obtain ⟨w20, hw20⟩ : ∃ W, wr = W := ⟨_, rfl⟩
       rw [hw20] at bz3 ⊢
       have s20 := bz3.size
       have i20 := Hi19.out.below bz3
       have u20 := Hu19.out.below bz3
       have y20 := Hy19.out.below bz3
       clear y0 y1 y2 y3
       by_cases hlt2 : i2 < l.y.l.length
       ·have g1 : (i2 : Int) < (l.y.l.length : Int) := by omega
        have g0 : (0 : Int) ≤ (i2 : Int) := by omega
        obtain ⟨bI, oI, rfl, hbI, hcI⟩ := i20 i2 hlt2
        obtain ⟨vI, hvI⟩ : ∃ x, l.y.l.getD i2 0 = x := ⟨_, rfl⟩
        rw [hvI] at hcI
        have hgI : l.y.l[i2]? = some vI := by rw [← hvI, List.getD_eq_getElem?_getD, List.getElem?_eq_getElem hlt2]; rfl
        obtain ⟨tb, htb⟩ : ∃ x, (vI == C.i) = x := ⟨_, rfl⟩
        have e6 : (K || (l.y.l.take (i2 + 1)).any (· == 900001)) = (KK || tb) := by
         rw [List.take_add_one, hgI, hKK, ← htb, HcID.out, List.any_append]
         simp [Bool.or_assoc]
        have tu := (u20 0 _ rfl).at
        have ⟨Hbz3, Hi20, Hu20, Hy20, HhvI, HhgI, HhKK, He6⟩ := hid8 bz3 i20 u20 y20 hvI hgI hKK e6; clear bz3 i20 u20 y20 hvI hgI hKK e6; have Hhw20 := Lib.hid hw20; clear hw20
        cases KK
        all_goals
         go_wp2_with fail
         go_roundw
         case rel => exact ⟨i2 + 1, _, by omega, rfl, by go_num, by rw [He6.out]; simp, Hbz3.out⟩
         case measure => simp [intOf]; omega
       ·have g1 : ¬ (i2 : Int) < (l.y.l.length : Int) := by omega
        have ei : i2 = l.y.l.length := by omega
        subst ei
        rw [List.take_of_length_le (by omega)] at hKK
        obtain ⟨ta, hta⟩ : ∃ x, decide ((999999970 : Int) ≤ l.y.s) = x := ⟨_, rfl⟩
        obtain ⟨tc, htc⟩ : ∃ x, decide ((500 : Int) ≤ (l.y.l.length : Int)) = x := ⟨_, rfl⟩
        have e7 : ((KK || ta) || tc) = KF := by
         rw [hKK, ← hta, ← htc, ← HhKFK.out, kpB]
         congr 1
         rw [Bool.eq_iff_iff]; simp
         omega
        have ⟨Hbz3, Hi20, Hu20, Hy20, HhKK, He7, Hhw20⟩ := hid7 bz3 i20 u20 y20 hKK e7 hw20; clear bz3 i20 u20 y20 hKK e7 hw20
        obtain ⟨y0, y1, y2, y3⟩ := at4_of Hy20.out
        cases KK
        ·cases ta
         all_goals
          go_wp2_with fail
          go_roundw
          case rel => exact ⟨2, _, by omega, by omega, rfl, rfl, by omega, by first | omega | (intro _; rw [← He7.out]; simp), by first | omega | (intro _; rw [← He7.out]; simp), Hbb1719.out.trans (Hbz3.out.mono Hbb1719.out.size)⟩
          case measure => simp [intOf]
        ·go_wp2_with fail
         go_roundw
         case rel => exact ⟨2, _, by omega, by omega, rfl, rfl, by omega, by first | omega | (intro _; rw [← He7.out]; simp), by first | omega | (intro _; rw [← He7.out]; simp), Hbb1719.out.trans (Hbz3.out.mono Hbb1719.out.size)⟩
         case measure => simp [intOf]
     ·have eK : K = KF := h2 rfl
      subst eK
      clear h0 h1 h2
      have ob18 := Hob17.out.below Hb18.out
      have Hob18 := Lib.hid ob18; clear ob18
      go_upto_region 34 with (fail)
      go_loopw [11, 29] (fun u i wr => ∃ (j : Nat), j ≤ M ∧ u = .bool true ∧ i = .int .i64 j ∧ Below w18.heap.size w18 wr) (fun _ i _ => M - (intOf i).toNat)
      case atStart => exact ⟨0, by omega, rfl, rfl, Below.refl _ _⟩
      case round =>
       obtain ⟨j, hj, rfl, rfl, bz4⟩ := hrel
       obtain ⟨w21, hw21⟩ : ∃ W, wr = W := ⟨_, rfl⟩
       rw [hw21] at bz4 ⊢
       by_cases hlt : j < M
       ·have g1 : (j : Int) < (M : Int) := by omega
        have g0 : (0 : Int) ≤ (j : Int) := by omega
        obtain ⟨b, hb⟩ : ∃ b, RW[j]? = some b := ⟨_, List.getElem?_eq_getElem (by rw [Hr2.out]; exact hlt)⟩
        obtain ⟨bo, oo, rfl, zo, d0⟩ := (Hob18.out.below bz4).at hb
        have hb2 := Hpl4.out b (List.mem_of_getElem? hb)
        have ⟨Hbz4, Hhb, Hhw21⟩ := hid3 bz4 hb hw21; clear bz4 hb hw21
        rcases hb2 with rfl | hKt
        ·go_wp2_with fail
         go_roundw
         case rel => exact ⟨j + 1, by omega, rfl, by go_num, Hbz4.out⟩
         case measure => simp [intOf]; omega
        ·subst hKt
         cases b
         all_goals
          go_wp2_with fail
          go_roundw
          case rel => exact ⟨j + 1, by omega, rfl, by go_num, Hbz4.out⟩
          case measure => simp [intOf]; omega
       ·have g1 : ¬ (j : Int) < (M : Int) := by omega
        have ⟨Hbz4, Hhw21⟩ := hid2 bz4 hw21; clear bz4 hw21
        go_wp2_with fail
        go_ret
        exact ⟨rfl, Hbb18.out.trans (Hbz4.out.mono s018)⟩
end Go.Proofs.YtclgncaghiinhaaGreatDoor

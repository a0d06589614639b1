/- Contracts of the reference of slot: SameBoth, Says, Few, Make. -/
import Derived.Test.YtclgncaghiinhaaGreatDoorT8
set_option linter.unusedSimpArgs false
set_option linter.unusedVariables false
set_option maxRecDepth 100000
namespace Go.Proofs.YtclgncaghiinhaaGreatDoor
open Go.RowKit
/-- two slots are equal -/
def sameS (x y : Slt) : Bool := decide (x = y)
theorem sameS_iff {x y : Slt} : sameS x y = true ↔ x = y := by simp [sameS]
theorem sameS_self (x : Slt) : sameS x x = true := by simp [sameS]
theorem sameS_no {xs xc xu ys yc yu : Int} {l k : List Int} (h : ¬ (xs = ys ∧ xc = yc ∧ xu = yu ∧ l.length = k.length)) : sameS ⟨xs, xc, l, xu⟩ ⟨ys, yc, k, yu⟩ = false := by
 rw [Bool.eq_false_iff]; intro h2; rw [sameS_iff] at h2; injection h2 with h1 h2 h3 h4; exact h ⟨h1, h2, h4, by rw [h3]⟩
theorem sameS_l {s c u : Int} {l k : List Int} : sameS ⟨s, c, l, u⟩ ⟨s, c, k, u⟩ = sameB l k := by
 rw [Bool.eq_iff_iff, sameS_iff, sameB_iff]; constructor
 ·intro h; injection h
 ·rintro rfl; rfl
set_option maxHeartbeats 4000000 in
theorem rsame_no (xs xc xu ys yc yu : Int) (A : Option Addr) (n p : Nat) (l : List Int) (hln : l.length = n) (B : Option Addr) (m q : Nat) (k : List Int) (hkm : k.length = m) (w : World) (hn : n ≤ 100000) (hm : m ≤ 100000) (h : ¬ (xs = ys ∧ xc = yc ∧ xu = yu ∧ n = m)) :
  Calls Tryz.prog 93 #[.agg #[.int .i64 xs, .int .i64 xc, .slice A n p, .int .u64 xu], .agg #[.int .i64 ys, .int .i64 yc, .slice B m q, .int .u64 yu]] w fun e w' => e = .returned (.bool (sameS ⟨xs, xc, l, xu⟩ ⟨ys, yc, k, yu⟩)) ∧ Below w.heap.size w w' := by
 rw [sameS_no (by rw [hln, hkm]; exact h)]
 by_cases a0 : xs = ys
 rotate_left
 ·have d0 : (xs != ys) = true := by rw [bne_iff_ne]; omega
  clear h a0
  go_enter Tryz.func93, Tryz.ntmps93
  go_wp2_with fail
  go_ret
  exact ⟨rfl, belt⟩
 have d0 : (xs != ys) = false := by rw [bne_eq_false_iff_eq]; omega
 have a0 := Lib.hid a0
 by_cases a1 : xc = yc
 rotate_left
 ·have d1 : (xc != yc) = true := by rw [bne_iff_ne]; omega
  clear h a1
  go_enter Tryz.func93, Tryz.ntmps93
  go_wp2_with fail
  go_ret
  exact ⟨rfl, belt⟩
 have d1 : (xc != yc) = false := by rw [bne_eq_false_iff_eq]; omega
 have a1 := Lib.hid a1
 by_cases a2 : xu = yu
 rotate_left
 ·have d2 : (xu != yu) = true := by rw [bne_iff_ne]; omega
  clear h a2
  go_enter Tryz.func93, Tryz.ntmps93
  go_wp2_with fail
  go_ret
  exact ⟨rfl, belt⟩
 have d2 : (xu != yu) = false := by rw [bne_eq_false_iff_eq]; omega
 have a2 := Lib.hid a2
 by_cases a3 : n = m
 rotate_left
 ·have d3 : ((n : Int) != (m : Int)) = true := by rw [bne_iff_ne]; omega
  clear h a3
  go_enter Tryz.func93, Tryz.ntmps93
  go_wp2_with fail
  go_ret
  exact ⟨rfl, belt⟩
 have d3 : ((n : Int) != (m : Int)) = false := by rw [bne_eq_false_iff_eq]; omega
 have a3 := Lib.hid a3
 exact absurd ⟨a0.out, a1.out, a2.out, a3.out⟩ h
set_option maxHeartbeats 8000000 in
theorem rsame_yes (s c u : Int) (A : Option Addr) (n p : Nat) (l : List Int) (hln : l.length = n) (B : Option Addr) (q : Nat) (k : List Int) (hkn : k.length = n) (w : World) (hn : n ≤ 100000) (hl : IntsAt w A .i64 l) (hk : IntsAt w B .i64 k) :
  Calls Tryz.prog 93 #[.agg #[.int .i64 s, .int .i64 c, .slice A n p, .int .u64 u], .agg #[.int .i64 s, .int .i64 c, .slice B n q, .int .u64 u]] w fun e w' => e = .returned (.bool (sameS ⟨s, c, l, u⟩ ⟨s, c, k, u⟩)) ∧ Below w.heap.size w w' := by
 rw [sameS_l]
 have hof := @list_eq_of l k
 have hne := fun j => @list_ne_at l k j
 generalize sameB l k = R at *
 have d0 : (s != s) = false := by simp
 have d1 : (c != c) = false := by simp
 have d2 : (u != u) = false := by simp
 have d3 : ((n : Int) != (n : Int)) = false := by simp
 obtain ⟨w1, hw1⟩ : ∃ w1, (w.alloc (.cells #[.int .i64 s, .int .i64 c, .slice A n p, .int .u64 u] 45)).alloc (.cells #[.int .i64 s, .int .i64 c, .slice B n q, .int .u64 u] 45) = w1 := ⟨_, rfl⟩
 have b1 : Below w.heap.size w w1 := by rw [← hw1]; exact ((Below.refl _ _).alloc (Nat.le_refl _) _).alloc (by simp) _
 have k2 : Cel w1 w.heap.size 2 (.slice A n p) := by rw [← hw1]; exact (cel_new rfl rfl).alloc _
 have m2 : Cel w1 (w.heap.size + 1) 2 (.slice B n q) := by rw [← hw1]; exact cel_new (by simp) rfl
 have l1 := hl.below b1
 have j1 := hk.below b1
 have ⟨Hhl, Hhk, Hhln, Hhkn, Hhof, Hhne, Hb1, Hk2⟩ := hid8 hl hk hln hkn hof hne b1 k2; clear hl hk hln hkn hof hne b1 k2; have ⟨Hm2, Hl1, Hj1, Hhw1⟩ := hid4 m2 l1 j1 hw1; clear m2 l1 j1 hw1
 go_enter Tryz.func93, Tryz.ntmps93
 go_wp2_with fail
 clear d0 d1 d2 d3
 rw [Hhw1.out]
 go_loopw [5] (fun i wr => ∃ j : Nat, j ≤ n ∧ i = .int .i64 j ∧ Below w1.heap.size w1 wr ∧ ∀ i, i < j → l.getD i 0 = k.getD i 0) (fun i _ => n - (intOf i).toNat)
 case atStart => exact ⟨0, by omega, rfl, Below.refl _ _, fun i hi => by omega⟩
 case round =>
  obtain ⟨j, hj, rfl, hb, hp⟩ := hrel
  have c2 := (Hk2.out.below hb).at
  have e2 := (Hm2.out.below hb).at
  by_cases hlt : j < n
  ·have g1 : (j : Int) < (n : Int) := by omega
   have g0 : (0 : Int) ≤ (j : Int) := by omega
   obtain ⟨b, off, rfl, hbl, hc⟩ := (Hl1.out.below hb) j (by rw [Hhln.out]; exact hlt)
   obtain ⟨b', off', rfl, hbl', hc'⟩ := (Hj1.out.below hb) j (by rw [Hhkn.out]; exact hlt)
   have hx := Hhne.out j
   generalize hX : l.getD j 0 = x at *
   generalize hY : k.getD j 0 = y at *
   have ⟨Hhp, Hhb, Hhx, HhX, HhY⟩ := hid5 hp hb hx hX hY; clear hp hb hx hX hY
   by_cases he : x = y
   ·have e1 : (x != y) = false := by rw [bne_eq_false_iff_eq]; exact he
    have Hhe := Lib.hid he; clear he
    go_wp2_with fail
    go_quiet (fail)
    go_wp2_with fail
    go_roundw
    case rel =>
     refine ⟨j + 1, by omega, by go_num, below_drewN Hhb.out _, fun i hi => ?_⟩
     rcases Nat.lt_or_ge i j with h | h
     ·exact Hhp.out i h
     ·obtain rfl : i = j := by omega
      rw [HhX.out, HhY.out]; exact Hhe.out
    case measure => simp [intOf]; omega
   ·have e1 : (x != y) = true := by rw [bne_iff_ne]; exact he
    have hF : R = false := Hhx.out he
    have ⟨Hhe, HhF⟩ := hid2 he hF; clear he hF
    go_wp2_with fail
    go_quiet (fail)
    go_wp2_with fail
    go_ret
    exact ⟨ret_bool HhF.out.symm, below_drewN (Hb1.out.trans (Hhb.out.mono Hb1.out.size)) _⟩
  ·have g1 : ¬ (j : Int) < (n : Int) := by omega
   have hF : R = true := Hhof.out (by rw [Hhln.out, Hhkn.out]) fun i hi => hp i (by rw [Hhln.out] at hi; omega)
   have ⟨Hhp, Hhb, HhF⟩ := hid3 hp hb hF; clear hp hb hF
   go_wp2_with fail
   go_ret
   exact ⟨ret_bool HhF.out.symm, Hb1.out.trans (Hhb.out.mono Hb1.out.size)⟩
theorem rsame_at (x y : Slt) (A : Option Addr) (n p : Nat) (hx : x.l.length = n) (B : Option Addr) (m q : Nat) (hy : y.l.length = m) (w : World) (hn : n ≤ 100000) (hm : m ≤ 100000) (hl : IntsAt w A .i64 x.l) (hk : IntsAt w B .i64 y.l) :
  Calls Tryz.prog 93 #[.agg #[.int .i64 x.s, .int .i64 x.c, .slice A n p, .int .u64 x.u], .agg #[.int .i64 y.s, .int .i64 y.c, .slice B m q, .int .u64 y.u]] w fun e w' => e = .returned (.bool (sameS x y)) ∧ Below w.heap.size w w' := by
 obtain ⟨xs, xc, l, xu⟩ := x
 obtain ⟨ys, yc, k, yu⟩ := y
 dsimp only at *
 by_cases h : xs = ys ∧ xc = yc ∧ xu = yu ∧ n = m
 ·obtain ⟨rfl, rfl, rfl, rfl⟩ := h
  exact rsame_yes xs xc xu A n p l hx B q k hy w hn hl hk
 ·exact rsame_no xs xc xu ys yc yu A n p l hx B m q k hy w hn hm h
set_option maxHeartbeats 4000000 in
theorem rsameBoth_any (x0 x1 y0 y1 : Slt) (A : Option Addr) (n p : Nat) (hx0 : x0.l.length = n) (A' : Option Addr) (n' p' : Nat) (hx1 : x1.l.length = n') (B : Option Addr) (m q : Nat) (hy0 : y0.l.length = m) (B' : Option Addr) (m' q' : Nat) (hy1 : y1.l.length = m') (w : World)
  (hn : n ≤ 100000) (hn' : n' ≤ 100000) (hm : m ≤ 100000) (hm' : m' ≤ 100000) (hl : IntsAt w A .i64 x0.l) (hl' : IntsAt w A' .i64 x1.l) (hk : IntsAt w B .i64 y0.l) (hk' : IntsAt w B' .i64 y1.l) :
  Calls Tryz.prog 69 #[.agg #[.int .i64 x0.s, .int .i64 x0.c, .slice A n p, .int .u64 x0.u, .int .i64 x1.s, .int .i64 x1.c, .slice A' n' p', .int .u64 x1.u], .agg #[.int .i64 y0.s, .int .i64 y0.c, .slice B m q, .int .u64 y0.u, .int .i64 y1.s, .int .i64 y1.c, .slice B' m' q', .int .u64 y1.u]] w
   fun e w' => e = .returned (.bool (sameS x0 y0 && sameS x1 y1)) ∧ Below w.heap.size w w' := by
 obtain ⟨w1, hw1⟩ : ∃ w1, (w.alloc (.cells #[.int .i64 x0.s, .int .i64 x0.c, .slice A n p, .int .u64 x0.u, .int .i64 x1.s, .int .i64 x1.c, .slice A' n' p', .int .u64 x1.u] 46)).alloc (.cells #[.int .i64 y0.s, .int .i64 y0.c, .slice B m q, .int .u64 y0.u, .int .i64 y1.s, .int .i64 y1.c, .slice B' m' q', .int .u64 y1.u] 46) = w1 := ⟨_, rfl⟩
 have b1 : Below w.heap.size w w1 := by rw [← hw1]; exact ((Below.refl _ _).alloc (Nat.le_refl _) _).alloc (by simp) _
 have q1 := rsame_at x0 y0 A n p hx0 B m q hy0 w1 hn hm (hl.below b1) (hk.below b1)
 have q2 := fun W (h : IntsAt W A' .i64 x1.l) (h2 : IntsAt W B' .i64 y1.l) => rsame_at x1 y1 A' n' p' hx1 B' m' q' hy1 W hn' hm' h h2
 rw [← hw1] at q1
 generalize sameS x0 y0 = R at *
 generalize sameS x1 y1 = R' at *
 have ⟨Hhx0, Hhx1, Hhy0, Hhy1, Hhl, Hhl', Hhk, Hhk'⟩ := hid8 hx0 hx1 hy0 hy1 hl hl' hk hk'; clear hx0 hx1 hy0 hy1 hl hl' hk hk'; have ⟨Hhw1, Hb1, Hq1, Hq2⟩ := hid4 hw1 b1 q1 q2; clear hw1 b1 q1 q2
 go_enter Tryz.func69, Tryz.ntmps69
 go_wp2_with fail
 refine (Hq1.out).mono ?_; rintro e w2 ⟨rfl, hbw2⟩
 have hsw2 := hbw2.size; (try simp only [World.size_alloc, World.heap_drewN, World.size_setCell, heap_drew] at hsw2)
 have gw2 : Below w.heap.size w w2 := belt
 obtain ⟨kw2x0x0, kw2x0x1, kw2x0x2, kw2x0x3, kw2x0x4, kw2x0x5, kw2x0x6, kw2x0x7⟩ := kc8 hbw2 w.heap.size
 have zw2x0 : w.heap.size < w2.heap.size := by omega
 obtain ⟨kw2x1x0, kw2x1x1, kw2x1x2, kw2x1x3, kw2x1x4, kw2x1x5, kw2x1x6, kw2x1x7⟩ := kc8 hbw2 (w.heap.size + 1)
 have zw2x1 : w.heap.size + 1 < w2.heap.size := by omega
 have Hhbw2 := Lib.hid hbw2; clear hbw2
 cases R with
 | false =>
  go_wp2_with fail
  go_ret
  exact ⟨rfl, gw2⟩
 | true =>
  have q2 := Hq2.out w2 (Hhl'.out.below gw2) (Hhk'.out.below gw2)
  have Hq2 := Lib.hid q2; clear q2
  go_wp2_with fail
  refine (Hq2.out).mono ?_; rintro e w3 ⟨rfl, hbw3⟩
  have hsw3 := hbw3.size; (try simp only [World.size_alloc, World.heap_drewN, World.size_setCell, heap_drew] at hsw3)
  have gw3 : Below w.heap.size w w3 := belt
  have kw3x0x0 := keepc hbw3 (b := w.heap.size) (o := 0) omg (by go_simp; with_reducible rfl)
  have zw3x0 : w.heap.size < w3.heap.size := by omega
  have Hhbw3 := Lib.hid hbw3; clear hbw3
  clear gw2 kw2x0x0 kw2x0x1 kw2x0x2 kw2x0x3 kw2x0x4 kw2x0x5 kw2x0x6 kw2x0x7 kw2x1x0 kw2x1x1 kw2x1x2 kw2x1x3 kw2x1x4 kw2x1x5 kw2x1x6 kw2x1x7
  go_wp2_with fail
  go_ret
  exact ⟨rfl, gw3⟩
/-- a slot says a counter and lost cards -/
def saysS (x : Slt) (c : Int) (l : List Int) : Bool := sameS ⟨0, x.c, x.l, 0⟩ ⟨0, c, l, 0⟩
theorem saysS_iff {x : Slt} {c : Int} {l : List Int} : saysS x c l = true ↔ x.c = c ∧ x.l = l := by
 rw [saysS, sameS_iff]; simp
def len40B (n : Nat) : Bool := decide (n ≤ 40)
theorem rfew_any (xs xc xu ys yc yu : Int) (A : Option Addr) (n p : Nat) (B : Option Addr) (m q : Nat) (w : World) (hn : n ≤ 9223372036854775807) (hm : m ≤ 9223372036854775807) :
  Calls Tryz.prog 53 #[.agg #[.int .i64 xs, .int .i64 xc, .slice A n p, .int .u64 xu, .int .i64 ys, .int .i64 yc, .slice B m q, .int .u64 yu]] w fun e w' => e = .returned (.bool (len40B n && len40B m)) ∧ Below w.heap.size w w' := by
 by_cases h1 : n ≤ 40
 ·have e1 : len40B n = true := decide_eq_true h1
  have d1 : decide ((n : Int) ≤ 40) = true := decide_eq_true (by omega)
  by_cases h2 : m ≤ 40
  ·have e2 : len40B m = true := decide_eq_true h2
   have d2 : decide ((m : Int) ≤ 40) = true := decide_eq_true (by omega)
   rw [e1, e2]
   clear e1 e2
   go_enter Tryz.func53, Tryz.ntmps53
   go_wp2_with fail
   go_ret
   exact ⟨rfl, belt⟩
  ·have e2 : len40B m = false := decide_eq_false h2
   have d2 : decide ((m : Int) ≤ 40) = false := decide_eq_false (by omega)
   rw [e1, e2]
   clear e1 e2
   go_enter Tryz.func53, Tryz.ntmps53
   go_wp2_with fail
   go_ret
   exact ⟨rfl, belt⟩
 ·have e1 : len40B n = false := decide_eq_false h1
  have d1 : decide ((n : Int) ≤ 40) = false := decide_eq_false (by omega)
  rw [e1, Bool.false_and]
  clear e1
  go_enter Tryz.func53, Tryz.ntmps53
  go_wp2_with fail
  go_ret
  exact ⟨rfl, belt⟩
set_option maxHeartbeats 1000000 in
theorem rmake_long (s c : Int) (A : Option Addr) (cap n : Nat) (w : World) (hn : 500 < n) (hm : n ≤ 9223372036854775807) :
  Calls Tryz.prog 91 #[.int .i64 s, .int .i64 c, .slice A n cap] w (SlotErr Slt.zero 2 w) := by
 have i1 : (500 : Int) < (n : Int) := by omega
 go_enter Tryz.func91, Tryz.ntmps91
 go_wp2_with fail
 refine bodyPost_ret (v := .tuple #[.agg #[.int .i64 0, .int .i64 0, .slice none 0 0, .int .u64 0], .int .i64 2]) (by simp [results, Tryz.results91, go_sem]) rfl (slotErr_zero belt)
set_option maxHeartbeats 4000000 in
theorem rmake_ok (s c : Int) (A : Option Addr) (cap n : Nat) (l : List Int) (hln : l.length = n) (w : World) (hs : -9223372036854775808 ≤ s ∧ s ≤ 9223372036854775807) (hc : -9223372036854775808 ≤ c ∧ c ≤ 9223372036854775807) (hl : IntsAt w A .i64 l) (hn : n ≤ 500) (hf : Fit l) (hF : fldB s c l = true) :
  Calls Tryz.prog 91 #[.int .i64 s, .int .i64 c, .slice A n cap] w (SlotErr (Slt.made s c l) 0 w) := by
 obtain ⟨i0, hi, hz0, hz1, hz2⟩ := info_parts infoI64
 have i1 : ¬ (500 : Int) < (n : Int) := by omega
 have b1 : Below w.heap.size w ((w.alloc (.cells #[.int .i64 0, .int .i64 0, .slice none 0 0, .int .u64 0] 45)).alloc (.cells #[.int .i64 s, .int .i64 c, .slice none 0 0, .int .u64 0] 45)) := ((Below.refl _ _).alloc (Nat.le_refl _) _).alloc (by simp) _
 have q1 := fun W X x (h : IntsAt W X .i64 l) => rfields_any s c 0 X x n l hln W h (by omega)
 rw [hF] at q1
 have q2 := fun W X x (h : IntsAt W X .i64 l) => rsum_any s c 0 X x n l hln W hs hc h (by omega) hf
 have mad : Slt.made s c l = ⟨s, c, l, sumS s c l⟩ := rfl
 generalize sumS s c l = U at *
 generalize Slt.made s c l = M at *
 have l1 := hl.below b1
 have ⟨Hhs, Hhc, Hhl, Hhf, Hhln, HhF, Hb1, Hq1⟩ := hid8 hs hc hl hf hln hF b1 q1; clear hs hc hl hf hln hF b1 q1; have ⟨Hq2, Hmad, Hl1⟩ := hid3 q2 mad l1; clear q2 mad l1
 go_enter Tryz.func91, Tryz.ntmps91
 go_wp2_with (at_builtin; refine wp_app_at _ rfl (.tmp 17) (.tmp 18) _ rfl (w.heap.size + 2) 3 i0 _ 8 Tryz.underlying42 hi hz0 hz1 hz2 rfl .i64 none 0 0 [] rfl rfl (OwnInts.nil _ _ _ _) A cap n l Hhln.out rfl Hl1.out ?_ ?_ ?_ ?_)
 all_goals try omega
 all_goals try (simp; done)
 intro A2 c2 w2 ho2 hg2 hB2
 have hbw2 := below_of_grown_none hg2
 clear hg2 hB2
 have Hho2 := Lib.hid ho2; clear ho2
 have hsw2 := hbw2.size; (try simp only [World.size_alloc, World.heap_drewN, World.size_setCell, heap_drew] at hsw2)
 have gw2 : Below w.heap.size w w2 := belt
 obtain ⟨kw2x0x0, fw2x0x0, kw2x0x1, fw2x0x1, kw2x0x2, fw2x0x2, kw2x0x3, fw2x0x3⟩ := kf4 hbw2 w.heap.size
 have zw2x0 : w.heap.size < w2.heap.size := by omega
 obtain ⟨kw2x1x0, fw2x1x0, kw2x1x1, fw2x1x1, kw2x1x2, fw2x1x2, kw2x1x3, fw2x1x3⟩ := kf4 hbw2 (w.heap.size + 1)
 have zw2x1 : w.heap.size + 1 < w2.heap.size := by omega
 have Hhbw2 := Lib.hid hbw2; clear hbw2
 have ho3 := Hho2.out.set (p := ⟨w.heap.size + 1, 2, none⟩) (by simp) (.slice A2 n c2)
 have q1 := Hq1.out _ A2 c2 ho3.ints
 have ⟨Hq1, Hho3⟩ := hid2 q1 ho3; clear q1 ho3
 go_wp2_with fail
 refine (Hq1.out).mono ?_; rintro e w3 ⟨rfl, hbw3⟩
 have hsw3 := hbw3.size; (try simp only [World.size_alloc, World.heap_drewN, World.size_setCell, heap_drew] at hsw3)
 have gw3 : Below w.heap.size w w3 := belt
 obtain ⟨kw3x0x0, fw3x0x0, kw3x0x1, fw3x0x1, kw3x0x2, fw3x0x2, kw3x0x3, fw3x0x3⟩ := kf4 hbw3 w.heap.size
 have zw3x0 : w.heap.size < w3.heap.size := by omega
 obtain ⟨kw3x1x0, fw3x1x0, kw3x1x1, fw3x1x1, kw3x1x2, fw3x1x2, kw3x1x3, fw3x1x3⟩ := kf4 hbw3 (w.heap.size + 1)
 have zw3x1 : w.heap.size + 1 < w3.heap.size := by omega
 have Hhbw3 := Lib.hid hbw3; clear hbw3
 clear gw2 kw2x0x0 fw2x0x0 kw2x0x1 fw2x0x1 kw2x0x2 fw2x0x2 kw2x0x3 fw2x0x3 kw2x1x0 fw2x1x0 kw2x1x1 fw2x1x1 kw2x1x2 fw2x1x2 kw2x1x3 fw2x1x3
 have ho4 := Hho3.out.below Hhbw3.out
 have q2 := Hq2.out _ A2 c2 ho4.ints
 have ⟨Hq2, Hho4⟩ := hid2 q2 ho4; clear q2 ho4
 go_wp2_with fail
 refine (Hq2.out).mono ?_; rintro e w4 ⟨rfl, hbw4⟩
 have hsw4 := hbw4.size; (try simp only [World.size_alloc, World.heap_drewN, World.size_setCell, heap_drew] at hsw4)
 have gw4 : Below w.heap.size w w4 := belt
 obtain ⟨kw4x0x0, fw4x0x0, kw4x0x1, fw4x0x1, kw4x0x2, fw4x0x2, kw4x0x3, fw4x0x3⟩ := kf4 hbw4 w.heap.size
 have zw4x0 : w.heap.size < w4.heap.size := by omega
 obtain ⟨kw4x1x0, fw4x1x0, kw4x1x1, fw4x1x1, kw4x1x2, fw4x1x2, kw4x1x3, fw4x1x3⟩ := kf4 hbw4 (w.heap.size + 1)
 have zw4x1 : w.heap.size + 1 < w4.heap.size := by omega
 have Hhbw4 := Lib.hid hbw4; clear hbw4
 clear gw3 kw3x0x0 fw3x0x0 kw3x0x1 fw3x0x1 kw3x0x2 fw3x0x2 kw3x0x3 fw3x0x3 kw3x1x0 fw3x1x0 kw3x1x1 fw3x1x1 kw3x1x2 fw3x1x2 kw3x1x3 fw3x1x3
 have ho5 := Hho4.out.below Hhbw4.out
 have Hho5 := Lib.hid ho5; clear ho5
 go_wp2_with fail
 rw [Hmad.out]
 refine bodyPost_ret (v := .tuple #[.agg #[.int .i64 s, .int .i64 c, .slice A2 n c2, .int .u64 U], .int .i64 0]) (by simp [results, Tryz.results91, go_sem, *]) rfl ⟨A2, c2, by rw [Hhln.out], ?_, belt⟩
 refine OwnInts.base_le ?_ (show w.heap.size ≤ w.heap.size + 2 by omega)
 repeat (refine OwnInts.set ?_ (by simp) _)
 simpa using Hho5.out
set_option maxHeartbeats 4000000 in
theorem rmake_bad (s c : Int) (A : Option Addr) (cap n : Nat) (l : List Int) (hln : l.length = n) (w : World) (hs : -9223372036854775808 ≤ s ∧ s ≤ 9223372036854775807) (hc : -9223372036854775808 ≤ c ∧ c ≤ 9223372036854775807) (hl : IntsAt w A .i64 l) (hn : n ≤ 500) (hf : Fit l) (hF : fldB s c l = false) :
  Calls Tryz.prog 91 #[.int .i64 s, .int .i64 c, .slice A n cap] w (SlotErr Slt.zero 1 w) := by
 obtain ⟨i0, hi, hz0, hz1, hz2⟩ := info_parts infoI64
 have i1 : ¬ (500 : Int) < (n : Int) := by omega
 have b1 : Below w.heap.size w ((w.alloc (.cells #[.int .i64 0, .int .i64 0, .slice none 0 0, .int .u64 0] 45)).alloc (.cells #[.int .i64 s, .int .i64 c, .slice none 0 0, .int .u64 0] 45)) := ((Below.refl _ _).alloc (Nat.le_refl _) _).alloc (by simp) _
 have q1 := fun W X x (h : IntsAt W X .i64 l) => rfields_any s c 0 X x n l hln W h (by omega)
 rw [hF] at q1
 have q2 := fun W X x (h : IntsAt W X .i64 l) => rsum_any s c 0 X x n l hln W hs hc h (by omega) hf
 have mad : Slt.made s c l = ⟨s, c, l, sumS s c l⟩ := rfl
 generalize sumS s c l = U at *
 generalize Slt.made s c l = M at *
 have l1 := hl.below b1
 have ⟨Hhs, Hhc, Hhl, Hhf, Hhln, HhF, Hb1, Hq1⟩ := hid8 hs hc hl hf hln hF b1 q1; clear hs hc hl hf hln hF b1 q1; have ⟨Hq2, Hmad, Hl1⟩ := hid3 q2 mad l1; clear q2 mad l1
 go_enter Tryz.func91, Tryz.ntmps91
 go_wp2_with (at_builtin; refine wp_app_at _ rfl (.tmp 17) (.tmp 18) _ rfl (w.heap.size + 2) 3 i0 _ 8 Tryz.underlying42 hi hz0 hz1 hz2 rfl .i64 none 0 0 [] rfl rfl (OwnInts.nil _ _ _ _) A cap n l Hhln.out rfl Hl1.out ?_ ?_ ?_ ?_)
 all_goals try omega
 all_goals try (simp; done)
 intro A2 c2 w2 ho2 hg2 hB2
 have hbw2 := below_of_grown_none hg2
 clear hg2 hB2
 have Hho2 := Lib.hid ho2; clear ho2
 have hsw2 := hbw2.size; (try simp only [World.size_alloc, World.heap_drewN, World.size_setCell, heap_drew] at hsw2)
 have gw2 : Below w.heap.size w w2 := belt
 obtain ⟨kw2x0x0, fw2x0x0, kw2x0x1, fw2x0x1, kw2x0x2, fw2x0x2, kw2x0x3, fw2x0x3⟩ := kf4 hbw2 w.heap.size
 have zw2x0 : w.heap.size < w2.heap.size := by omega
 obtain ⟨kw2x1x0, fw2x1x0, kw2x1x1, fw2x1x1, kw2x1x2, fw2x1x2, kw2x1x3, fw2x1x3⟩ := kf4 hbw2 (w.heap.size + 1)
 have zw2x1 : w.heap.size + 1 < w2.heap.size := by omega
 have Hhbw2 := Lib.hid hbw2; clear hbw2
 have ho3 := Hho2.out.set (p := ⟨w.heap.size + 1, 2, none⟩) (by simp) (.slice A2 n c2)
 have q1 := Hq1.out _ A2 c2 ho3.ints
 have ⟨Hq1, Hho3⟩ := hid2 q1 ho3; clear q1 ho3
 go_wp2_with fail
 refine (Hq1.out).mono ?_; rintro e w3 ⟨rfl, hbw3⟩
 have hsw3 := hbw3.size; (try simp only [World.size_alloc, World.heap_drewN, World.size_setCell, heap_drew] at hsw3)
 have gw3 : Below w.heap.size w w3 := belt
 obtain ⟨kw3x0x0, fw3x0x0, kw3x0x1, fw3x0x1, kw3x0x2, fw3x0x2, kw3x0x3, fw3x0x3⟩ := kf4 hbw3 w.heap.size
 have zw3x0 : w.heap.size < w3.heap.size := by omega
 obtain ⟨kw3x1x0, fw3x1x0, kw3x1x1, fw3x1x1, kw3x1x2, fw3x1x2, kw3x1x3, fw3x1x3⟩ := kf4 hbw3 (w.heap.size + 1)
 have zw3x1 : w.heap.size + 1 < w3.heap.size := by omega
 have Hhbw3 := Lib.hid hbw3; clear hbw3
 clear gw2 kw2x0x0 fw2x0x0 kw2x0x1 fw2x0x1 kw2x0x2 fw2x0x2 kw2x0x3 fw2x0x3 kw2x1x0 fw2x1x0 kw2x1x1 fw2x1x1 kw2x1x2 fw2x1x2 kw2x1x3 fw2x1x3
 have ho4 := Hho3.out.below Hhbw3.out
 clear ho4
 go_wp2_with fail
 refine bodyPost_ret (v := .tuple #[.agg #[.int .i64 0, .int .i64 0, .slice none 0 0, .int .u64 0], .int .i64 1]) (by simp [results, Tryz.results91, go_sem, *]) rfl (slotErr_zero belt)
end Go.Proofs.YtclgncaghiinhaaGreatDoor

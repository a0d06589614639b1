/- Contracts of the reference of slot: Write, one case of which slot is the best. -/
import Derived.Test.YtclgncaghiinhaaGreatDoorT7
import Derived.Test.YtclgncaghiinhaaGreatDoorT10
set_option linter.unusedSimpArgs false
set_option linter.unusedVariables false
set_option maxRecDepth 100000
namespace Go.Proofs.YtclgncaghiinhaaGreatDoor
open Go.RowKit
set_option maxHeartbeats 8000000 in
theorem rwrite_ok0 (x y : Slt) (c at_ : Int) (A : Option Addr) (n p : Nat) (B : Option Addr) (m q : Nat) (D : Option Addr) (k r : Nat) (l : List Int) (hlk : l.length = k) (w : World) (hx : SlotIs w A n x) (hy : SlotIs w B m y) (hc : -9223372036854775808 ≤ c ∧ c ≤ 9223372036854775807) (hl : IntsAt w D .i64 l) (hk : k ≤ 500) (hf : Fit l)
  (hE : bestB x y = true) (hI : bestI x y = 0) (hF : fldB 0 c l = true) (h3 : at_ = 0 ∨ at_ = 1 ∨ at_ = 2 ∨ at_ = 3) (hS : x.s ≠ 1000000000) (hS0 : 0 ≤ x.s ∧ x.s ≤ 1000000000) (hw : wrE x y c l at_ = 0) :
  Calls Tryz.prog 68 #[.agg #[.int .i64 x.s, .int .i64 x.c, .slice A n p, .int .u64 x.u, .int .i64 y.s, .int .i64 y.c, .slice B m q, .int .u64 y.u], .int .i64 c, .slice D k r, .int .i64 at_] w (SlotsErr (wr0 x y c l at_) (wr1 x y c l at_) 0 w) := by
 have b1 : Below w.heap.size w ((w.alloc (.cells #[.int .i64 x.s, .int .i64 x.c, .slice A n p, .int .u64 x.u, .int .i64 y.s, .int .i64 y.c, .slice B m q, .int .u64 y.u] 46)).alloc (.cells #[.int .i64 0, .int .i64 0, .slice none 0 0, .int .u64 0, .int .i64 0, .int .i64 0, .slice none 0 0, .int .u64 0] 46)) := ((Below.refl _ _).alloc (Nat.le_refl _) _).alloc (by simp) _
 have q3 := rbest_any x y A n p B m q _ (hx.below b1) (hy.below b1)
 rw [hE, hI] at q3
 have q1 := fun W (hb : Below w.heap.size w W) => rmake_ok 0 c D r k l hlk W (by omega) hc (hl.below hb) hk hf hF
 have d1 : decide (at_ < 0) = false := decide_eq_false (by omega)
 have d2 : decide (3 < at_) = false := decide_eq_false (by omega)
 have q4 := fun W X cx (h : IntsAt W X .i64 l) => rsum_any (x.s + 1) c (sumS 0 c l) X cx k l hlk W (by omega) hc h (by omega) hf
 have mad : Slt.made 0 c l = ⟨0, c, l, sumS 0 c l⟩ := rfl
 have e0 := (wr_eq0 hw).1
 have e1 := (wr_eq0 hw).2
 have ei : into0 x y = false := by simp [into0, hE, hI]
 have et : topS x y = x.s := by simp [topS, hE, hI]
 have eS : ∀ a, wrS x y c l a = ⟨(x.s + 1), c, l, if a = 1 then (sumS (x.s + 1) c l + 1) % 18446744073709551616 else sumS (x.s + 1) c l⟩ := fun a => by rw [wrS, et]
 simp only [ei] at e0 e1
 have u1 := sumS_in (x.s + 1) c l
 have u10 := u1.1
 have u11 := u1.2
 generalize sumS (x.s + 1) c l = U at *
 rw [mad] at q1
 generalize sumS 0 c l = U0 at *
 generalize wr0 x y c l at_ = Z0 at *
 generalize wr1 x y c l at_ = Z1 at *
 have xs := hx.s; have xs0 := xs.1; have xs1 := xs.2
 have ys := hy.s; have ys0 := ys.1; have ys1 := ys.2
 have hS1 : (x.s == 1000000000) = false := by rw [beq_eq_false_iff_ne]; exact hS
 have hS2 := hS0.1
 have hS3 := hS0.2
 have ⟨Hhx, Hhy, Hhc, Hhl, Hhf, HhE, HhI, Hb1⟩ := hid8 hx hy hc hl hf hE hI b1; clear hx hy hc hl hf hE hI b1; have ⟨Hq1, Hq3, Hhlk, HhF, Hh3, HhS, HhS0, Hq4⟩ := hid8 q1 q3 hlk hF h3 hS hS0 q4; clear q1 q3 hlk hF h3 hS hS0 q4; have ⟨Hmad, He0, He1, Hei, Het, HeS, Hhw, Hu1⟩ := hid8 mad e0 e1 ei et eS hw u1; clear mad e0 e1 ei et eS hw u1; have ⟨Hxs, Hys⟩ := hid2 xs ys; clear xs ys
 go_enter Tryz.func68, Tryz.ntmps68
 go_wp2_with fail
 refine (Hq3.out).mono ?_; rintro e w2 ⟨rfl, hbw2⟩
 have hsw2 := hbw2.size; (try simp only [World.size_alloc, World.heap_drewN, World.size_setCell, heap_drew] at hsw2)
 have gw2 : Below w.heap.size w w2 := belt
 obtain ⟨kw2x0x0, fw2x0x0, kw2x0x1, fw2x0x1, kw2x0x2, fw2x0x2, kw2x0x3, fw2x0x3, kw2x0x4, fw2x0x4, kw2x0x5, fw2x0x5, kw2x0x6, fw2x0x6, kw2x0x7, fw2x0x7⟩ := kf8 hbw2 w.heap.size
 have zw2x0 : w.heap.size < w2.heap.size := by omega
 obtain ⟨kw2x1x0, fw2x1x0, kw2x1x1, fw2x1x1, kw2x1x2, fw2x1x2, kw2x1x3, fw2x1x3, kw2x1x4, fw2x1x4, kw2x1x5, fw2x1x5, kw2x1x6, fw2x1x6, kw2x1x7, fw2x1x7⟩ := kf8 hbw2 (w.heap.size + 1)
 have zw2x1 : w.heap.size + 1 < w2.heap.size := by omega
 have Hhbw2 := Lib.hid hbw2; clear hbw2
 have q1 := Hq1.out w2 gw2
 unfold SlotErr at q1
 dsimp only at q1
 rw [Hhlk.out] at q1
 have Hq1 := Lib.hid q1; clear q1
 go_wp2_with fail
 refine (Hq1.out).mono ?_; rintro e w3 ⟨X, cx, rfl, ho, hbw3⟩
 have hsw3 := hbw3.size; (try simp only [World.size_alloc, World.heap_drewN, World.size_setCell, heap_drew] at hsw3)
 have gw3 : Below w.heap.size w w3 := belt
 obtain ⟨kw3x0x0, fw3x0x0, kw3x0x1, fw3x0x1, kw3x0x2, fw3x0x2, kw3x0x3, fw3x0x3, kw3x0x4, fw3x0x4, kw3x0x5, fw3x0x5, kw3x0x6, fw3x0x6, kw3x0x7, fw3x0x7⟩ := kf8 hbw3 w.heap.size
 have zw3x0 : w.heap.size < w3.heap.size := by omega
 obtain ⟨kw3x1x0, fw3x1x0, kw3x1x1, fw3x1x1, kw3x1x2, fw3x1x2, kw3x1x3, fw3x1x3, kw3x1x4, fw3x1x4, kw3x1x5, fw3x1x5, kw3x1x6, fw3x1x6, kw3x1x7, fw3x1x7⟩ := kf8 hbw3 (w.heap.size + 1)
 have zw3x1 : w.heap.size + 1 < w3.heap.size := by omega
 have Hhbw3 := Lib.hid hbw3; clear hbw3
 clear gw2 kw2x0x0 fw2x0x0 kw2x0x1 fw2x0x1 kw2x0x2 fw2x0x2 kw2x0x3 fw2x0x3 kw2x0x4 fw2x0x4 kw2x0x5 fw2x0x5 kw2x0x6 fw2x0x6 kw2x0x7 fw2x0x7 kw2x1x0 fw2x1x0 kw2x1x1 fw2x1x1 kw2x1x2 fw2x1x2 kw2x1x3 fw2x1x3 kw2x1x4 fw2x1x4 kw2x1x5 fw2x1x5 kw2x1x6 fw2x1x6 kw2x1x7 fw2x1x7
 have hne1 : w.heap.size ≠ w3.heap.size := by omega
 have hne2 : w3.heap.size ≠ w.heap.size := by omega
 have hne3 : w.heap.size + 1 ≠ w3.heap.size := by omega
 have hne4 : w3.heap.size ≠ w.heap.size + 1 := by omega
 have sg := (seg_own ho).alloc (.cells #[.int .i64 (x.s + 1), .int .i64 c, .slice X k cx, .int .u64 U0] 45)
 have q4 := Hq4.out _ X cx sg.ints
 have ⟨Hsg, Hho, Hq4⟩ := hid3 sg ho q4; clear sg ho q4
 go_wp2_with fail
 refine (Hq4.out).mono ?_; rintro e w4 ⟨rfl, hbw4⟩
 have hsw4 := hbw4.size; (try simp only [World.size_alloc, World.heap_drewN, World.size_setCell, heap_drew] at hsw4)
 have gw4 : Below w.heap.size w w4 := belt
 obtain ⟨kw4x0x0, fw4x0x0, kw4x0x1, fw4x0x1, kw4x0x2, fw4x0x2, kw4x0x3, fw4x0x3, kw4x0x4, fw4x0x4, kw4x0x5, fw4x0x5, kw4x0x6, fw4x0x6, kw4x0x7, fw4x0x7⟩ := kf8 hbw4 w.heap.size
 have zw4x0 : w.heap.size < w4.heap.size := by omega
 obtain ⟨kw4x1x0, fw4x1x0, kw4x1x1, fw4x1x1, kw4x1x2, fw4x1x2, kw4x1x3, fw4x1x3, kw4x1x4, fw4x1x4, kw4x1x5, fw4x1x5, kw4x1x6, fw4x1x6, kw4x1x7, fw4x1x7⟩ := kf8 hbw4 (w.heap.size + 1)
 have zw4x1 : w.heap.size + 1 < w4.heap.size := by omega
 obtain ⟨kw4x2x0, fw4x2x0, kw4x2x1, fw4x2x1, kw4x2x2, fw4x2x2, kw4x2x3, fw4x2x3⟩ := kf4 hbw4 w3.heap.size
 have zw4x2 : w3.heap.size < w4.heap.size := by omega
 have Hhbw4 := Lib.hid hbw4; clear hbw4
 clear gw3 kw3x0x0 fw3x0x0 kw3x0x1 fw3x0x1 kw3x0x2 fw3x0x2 kw3x0x3 fw3x0x3 kw3x0x4 fw3x0x4 kw3x0x5 fw3x0x5 kw3x0x6 fw3x0x6 kw3x0x7 fw3x0x7 kw3x1x0 fw3x1x0 kw3x1x1 fw3x1x1 kw3x1x2 fw3x1x2 kw3x1x3 fw3x1x3 kw3x1x4 fw3x1x4 kw3x1x5 fw3x1x5 kw3x1x6 fw3x1x6 kw3x1x7 fw3x1x7
 have sg4 := Hsg.out.below Hhbw4.out
 have Hsg4 := Lib.hid sg4; clear sg4
 go_upto_region 16 with (fail)
 obtain ⟨w5, hew5⟩ : ∃ W : World, w4.setCell ⟨w3.heap.size, 3, none⟩ (.int .u64 U) = W := ⟨_, rfl⟩
 rw [hew5]
 have hsw5 := congrArg (fun W : World => W.heap.size) hew5
 simp only [World.size_alloc, World.heap_drewN, World.size_setCell, heap_drew] at hsw5
 have Hhew5 := Lib.hid hew5; clear hew5
 have gw5 : Below w.heap.size w w5 := by rw [← Hhew5.out]; exact belt
 obtain ⟨kw5x0x0, fw5x0x0, kw5x0x1, fw5x0x1, kw5x0x2, fw5x0x2, kw5x0x3, fw5x0x3, kw5x0x4, fw5x0x4, kw5x0x5, fw5x0x5, kw5x0x6, fw5x0x6, kw5x0x7, fw5x0x7⟩ := nf8 Hhew5.out w.heap.size
 have zw5x0 : w.heap.size < w5.heap.size := by omega
 obtain ⟨kw5x1x0, fw5x1x0, kw5x1x1, fw5x1x1, kw5x1x2, fw5x1x2, kw5x1x3, fw5x1x3, kw5x1x4, fw5x1x4, kw5x1x5, fw5x1x5, kw5x1x6, fw5x1x6, kw5x1x7, fw5x1x7⟩ := nf8 Hhew5.out (w.heap.size + 1)
 have zw5x1 : w.heap.size + 1 < w5.heap.size := by omega
 obtain ⟨kw5x2x0, fw5x2x0, kw5x2x1, fw5x2x1, kw5x2x2, fw5x2x2, kw5x2x3, fw5x2x3⟩ := nf4 Hhew5.out w3.heap.size
 have zw5x2 : w3.heap.size < w5.heap.size := by omega
 clear gw4 kw4x0x0 fw4x0x0 kw4x0x1 fw4x0x1 kw4x0x2 fw4x0x2 kw4x0x3 fw4x0x3 kw4x0x4 fw4x0x4 kw4x0x5 fw4x0x5 kw4x0x6 fw4x0x6 kw4x0x7 fw4x0x7 kw4x1x0 fw4x1x0 kw4x1x1 fw4x1x1 kw4x1x2 fw4x1x2 kw4x1x3 fw4x1x3 kw4x1x4 fw4x1x4 kw4x1x5 fw4x1x5 kw4x1x6 fw4x1x6 kw4x1x7 fw4x1x7 kw4x2x0 fw4x2x0 kw4x2x1 fw4x2x1 kw4x2x2 fw4x2x2 kw4x2x3 fw4x2x3
 have hsz2 : w.heap.size + 2 ≤ w2.heap.size := by omega
 have sg5 : Seg w5 w2.heap.size w3.heap.size X l := by
  rw [← Hhew5.out]
  exact Hsg4.out.set (p := ⟨w3.heap.size, 3, none⟩) (.inr (Nat.le_refl _)) _
 have Hsg5 := Lib.hid sg5; clear sg5
 have h3 := Hh3.out
 clear Hh3 d1 d2
 rcases h3 with rfl | rfl | rfl | rfl
 ·go_wp2_with fail
  have hz0 : Z0 = x := by rw [He0.out]; simp
  have hz1 : Z1 = y := by rw [He1.out]; simp
  refine bodyPost_ret (v := .tuple #[.agg #[.int .i64 x.s, .int .i64 x.c, .slice A n p, .int .u64 x.u, .int .i64 y.s, .int .i64 y.c, .slice B m q, .int .u64 y.u], .int .i64 0]) (by simp [results, Tryz.results68, go_sem, *]) rfl ?_
  have sF := Hsg5.out
  generalize hFW : (World.setCell _ _ _) = F
  have gF : Below w.heap.size w F := by rw [← hFW]; exact belt
  have sF : Seg F w2.heap.size w3.heap.size X l := by
   rw [← hFW]
   repeat (refine Seg.set ?_ (by first | (left; simp; done) | (left; simp; omega) | (left; (try simp only []); omega) | (right; simp; done)) _)
   exact Hsg5.out
  rw [hz0, hz1]
  exact ⟨_, _, _, _, by (try dsimp only); rw [Hhx.out.len, Hhy.out.len], (Hhx.out.ints.below gF), (Hhy.out.ints.below gF), gF⟩
 ·go_wp2_with fail
  have hz0 : Z0 = x := by rw [He0.out]; simp
  have hz1 : Z1 = ⟨(x.s + 1), c, l, (U + 1) % 18446744073709551616⟩ := by rw [He1.out, HeS.out]; simp
  refine bodyPost_ret (v := .tuple #[.agg #[.int .i64 x.s, .int .i64 x.c, .slice A n p, .int .u64 x.u, .int .i64 (x.s + 1), .int .i64 c, .slice X k cx, .int .u64 (IntKind.u64.wrap (U + 1))], .int .i64 0]) (by simp [results, Tryz.results68, go_sem, *]) rfl ?_
  have sF := Hsg5.out
  generalize hFW : (World.setCell _ _ _) = F
  have gF : Below w.heap.size w F := by rw [← hFW]; exact belt
  have sF : Seg F w2.heap.size w3.heap.size X l := by
   rw [← hFW]
   repeat (refine Seg.set ?_ (by first | (left; simp; done) | (left; simp; omega) | (left; (try simp only []); omega) | (right; simp; done)) _)
   exact Hsg5.out
  rw [hz0, hz1]
  exact ⟨_, _, _, _, by (try dsimp only); rw [Hhx.out.len, Hhlk.out, IntKind.wrap_u64], (Hhx.out.ints.below gF), sF.ints, gF⟩
 ·go_wp2_with fail
  have hz0 : Z0 = x := by rw [He0.out]; simp
  have hz1 : Z1 = ⟨(x.s + 1), c, l, U⟩ := by rw [He1.out, HeS.out]; simp
  refine bodyPost_ret (v := .tuple #[.agg #[.int .i64 x.s, .int .i64 x.c, .slice A n p, .int .u64 x.u, .int .i64 (x.s + 1), .int .i64 c, .slice X k cx, .int .u64 U], .int .i64 0]) (by simp [results, Tryz.results68, go_sem, *]) rfl ?_
  have sF := Hsg5.out
  generalize hFW : (World.setCell _ _ _) = F
  have gF : Below w.heap.size w F := by rw [← hFW]; exact belt
  have sF : Seg F w2.heap.size w3.heap.size X l := by
   rw [← hFW]
   repeat (refine Seg.set ?_ (by first | (left; simp; done) | (left; simp; omega) | (left; (try simp only []); omega) | (right; simp; done)) _)
   exact Hsg5.out
  rw [hz0, hz1]
  exact ⟨_, _, _, _, by (try dsimp only); rw [Hhx.out.len, Hhlk.out], (Hhx.out.ints.below gF), sF.ints, gF⟩
 ·go_wp2_with fail
  have hz0 : Z0 = x := by rw [He0.out]; simp
  have hz1 : Z1 = ⟨(x.s + 1), c, l, U⟩ := by rw [He1.out, HeS.out]; simp
  refine bodyPost_ret (v := .tuple #[.agg #[.int .i64 x.s, .int .i64 x.c, .slice A n p, .int .u64 x.u, .int .i64 (x.s + 1), .int .i64 c, .slice X k cx, .int .u64 U], .int .i64 0]) (by simp [results, Tryz.results68, go_sem, *]) rfl ?_
  have sF := Hsg5.out
  generalize hFW : (World.setCell _ _ _) = F
  have gF : Below w.heap.size w F := by rw [← hFW]; exact belt
  have sF : Seg F w2.heap.size w3.heap.size X l := by
   rw [← hFW]
   repeat (refine Seg.set ?_ (by first | (left; simp; done) | (left; simp; omega) | (left; (try simp only []); omega) | (right; simp; done)) _)
   exact Hsg5.out
  rw [hz0, hz1]
  exact ⟨_, _, _, _, by (try dsimp only); rw [Hhx.out.len, Hhlk.out], (Hhx.out.ints.below gF), sF.ints, gF⟩
set_option maxHeartbeats 8000000 in
theorem rwrite_make0 (x y : Slt) (c at_ : Int) (A : Option Addr) (n p : Nat) (B : Option Addr) (m q : Nat) (D : Option Addr) (k r : Nat) (l : List Int) (hlk : l.length = k) (w : World) (hx : SlotIs w A n x) (hy : SlotIs w B m y) (hc : -9223372036854775808 ≤ c ∧ c ≤ 9223372036854775807) (hl : IntsAt w D .i64 l) (hf : Fit l)
  (hE : bestB x y = true) (hI : bestI x y = 0) (EE : Int) (hEE : (EE != 0) = true) (hm : ∀ W, Below w.heap.size w W → Calls Tryz.prog 91 #[.int .i64 0, .int .i64 c, .slice D k r] W (SlotErr Slt.zero EE W)) :
  Calls Tryz.prog 68 #[.agg #[.int .i64 x.s, .int .i64 x.c, .slice A n p, .int .u64 x.u, .int .i64 y.s, .int .i64 y.c, .slice B m q, .int .u64 y.u], .int .i64 c, .slice D k r, .int .i64 at_] w (SlotsErr Slt.zero Slt.zero EE w) := by
 have b1 : Below w.heap.size w ((w.alloc (.cells #[.int .i64 x.s, .int .i64 x.c, .slice A n p, .int .u64 x.u, .int .i64 y.s, .int .i64 y.c, .slice B m q, .int .u64 y.u] 46)).alloc (.cells #[.int .i64 0, .int .i64 0, .slice none 0 0, .int .u64 0, .int .i64 0, .int .i64 0, .slice none 0 0, .int .u64 0] 46)) := ((Below.refl _ _).alloc (Nat.le_refl _) _).alloc (by simp) _
 have q3 := rbest_any x y A n p B m q _ (hx.below b1) (hy.below b1)
 rw [hE, hI] at q3
 have q1 := hm
 have ⟨Hhx, Hhy, Hhc, Hhl, Hhf, HhE, HhI, Hb1⟩ := hid8 hx hy hc hl hf hE hI b1; clear hx hy hc hl hf hE hI b1; have ⟨Hq1, Hq3, Hhlk, Hhm⟩ := hid4 q1 q3 hlk hm; clear q1 q3 hlk hm
 go_enter Tryz.func68, Tryz.ntmps68
 go_wp2_with fail
 refine (Hq3.out).mono ?_; rintro e w2 ⟨rfl, hbw2⟩
 have hsw2 := hbw2.size; (try simp only [World.size_alloc, World.heap_drewN, World.size_setCell, heap_drew] at hsw2)
 have gw2 : Below w.heap.size w w2 := belt
 obtain ⟨kw2x0x0, fw2x0x0, kw2x0x1, fw2x0x1, kw2x0x2, fw2x0x2, kw2x0x3, fw2x0x3, kw2x0x4, fw2x0x4, kw2x0x5, fw2x0x5, kw2x0x6, fw2x0x6, kw2x0x7, fw2x0x7⟩ := kf8 hbw2 w.heap.size
 have zw2x0 : w.heap.size < w2.heap.size := by omega
 obtain ⟨kw2x1x0, fw2x1x0, kw2x1x1, fw2x1x1, kw2x1x2, fw2x1x2, kw2x1x3, fw2x1x3, kw2x1x4, fw2x1x4, kw2x1x5, fw2x1x5, kw2x1x6, fw2x1x6, kw2x1x7, fw2x1x7⟩ := kf8 hbw2 (w.heap.size + 1)
 have zw2x1 : w.heap.size + 1 < w2.heap.size := by omega
 have Hhbw2 := Lib.hid hbw2; clear hbw2
 have q1 := Hq1.out w2 gw2
 unfold SlotErr at q1
 dsimp only [Slt.zero] at q1
 try rw [Hhlk.out] at q1
 have Hq1 := Lib.hid q1; clear q1
 go_wp2_with fail
 refine (Hq1.out).mono ?_; rintro e w3 ⟨X, cx, rfl, ho, hbw3⟩
 have hsw3 := hbw3.size; (try simp only [World.size_alloc, World.heap_drewN, World.size_setCell, heap_drew] at hsw3)
 have gw3 : Below w.heap.size w w3 := belt
 obtain ⟨kw3x0x0, fw3x0x0, kw3x0x1, fw3x0x1, kw3x0x2, fw3x0x2, kw3x0x3, fw3x0x3, kw3x0x4, fw3x0x4, kw3x0x5, fw3x0x5, kw3x0x6, fw3x0x6, kw3x0x7, fw3x0x7⟩ := kf8 hbw3 w.heap.size
 have zw3x0 : w.heap.size < w3.heap.size := by omega
 obtain ⟨kw3x1x0, fw3x1x0, kw3x1x1, fw3x1x1, kw3x1x2, fw3x1x2, kw3x1x3, fw3x1x3, kw3x1x4, fw3x1x4, kw3x1x5, fw3x1x5, kw3x1x6, fw3x1x6, kw3x1x7, fw3x1x7⟩ := kf8 hbw3 (w.heap.size + 1)
 have zw3x1 : w.heap.size + 1 < w3.heap.size := by omega
 have Hhbw3 := Lib.hid hbw3; clear hbw3
 clear gw2 kw2x0x0 fw2x0x0 kw2x0x1 fw2x0x1 kw2x0x2 fw2x0x2 kw2x0x3 fw2x0x3 kw2x0x4 fw2x0x4 kw2x0x5 fw2x0x5 kw2x0x6 fw2x0x6 kw2x0x7 fw2x0x7 kw2x1x0 fw2x1x0 kw2x1x1 fw2x1x1 kw2x1x2 fw2x1x2 kw2x1x3 fw2x1x3 kw2x1x4 fw2x1x4 kw2x1x5 fw2x1x5 kw2x1x6 fw2x1x6 kw2x1x7 fw2x1x7
 go_wp2_with fail
 refine bodyPost_ret (v := .tuple #[.agg #[.int .i64 0, .int .i64 0, .slice none 0 0, .int .u64 0, .int .i64 0, .int .i64 0, .slice none 0 0, .int .u64 0], .int .i64 EE]) (by simp [results, Tryz.results68, go_sem, *]) rfl (slotsErr_zero belt)
set_option maxHeartbeats 8000000 in
theorem rwrite_arg0 (x y : Slt) (c at_ : Int) (A : Option Addr) (n p : Nat) (B : Option Addr) (m q : Nat) (D : Option Addr) (k r : Nat) (l : List Int) (hlk : l.length = k) (w : World) (hx : SlotIs w A n x) (hy : SlotIs w B m y) (hc : -9223372036854775808 ≤ c ∧ c ≤ 9223372036854775807) (hl : IntsAt w D .i64 l) (hk : k ≤ 500) (hf : Fit l)
    (hE : bestB x y = true) (hI : bestI x y = 0) (hF : fldB 0 c l = true) (h3 : ¬ (0 ≤ at_ ∧ at_ ≤ 3)) :
    Calls Tryz.prog 68 #[.agg #[.int .i64 x.s, .int .i64 x.c, .slice A n p, .int .u64 x.u, .int .i64 y.s, .int .i64 y.c, .slice B m q, .int .u64 y.u], .int .i64 c, .slice D k r, .int .i64 at_] w (SlotsErr Slt.zero Slt.zero 1 w) := by
  have b1 : Below w.heap.size w ((w.alloc (.cells #[.int .i64 x.s, .int .i64 x.c, .slice A n p, .int .u64 x.u, .int .i64 y.s, .int .i64 y.c, .slice B m q, .int .u64 y.u] 46)).alloc (.cells #[.int .i64 0, .int .i64 0, .slice none 0 0, .int .u64 0, .int .i64 0, .int .i64 0, .slice none 0 0, .int .u64 0] 46)) := ((Below.refl _ _).alloc (Nat.le_refl _) _).alloc (by simp) _
  have q3 := rbest_any x y A n p B m q _ (hx.below b1) (hy.below b1)
  rw [hE, hI] at q3
  have q1 := fun W (hb : Below w.heap.size w W) => rmake_ok 0 c D r k l hlk W (by omega) hc (hl.below hb) hk hf hF
  rcases Int.lt_or_le at_ 0 with ha | ha
  all_goals
    have hh := h3
    clear h3
    first
    | have d1 : decide (at_ < 0) = true := decide_eq_true ha
    | (have d1 : decide (at_ < 0) = false := decide_eq_false (by omega)
       have d2 : decide (3 < at_) = true := decide_eq_true (by omega))
    have ⟨Hhx, Hhy, Hhc, Hhl, Hhf, HhE, HhI, Hb1⟩ := hid8 hx hy hc hl hf hE hI b1; clear hx hy hc hl hf hE hI b1; have ⟨Hq1, Hq3, Hhlk, HhF, Hhh, Hha⟩ := hid6 q1 q3 hlk hF hh ha; clear q1 q3 hlk hF hh ha
    go_enter Tryz.func68, Tryz.ntmps68
    go_wp2_with fail
    refine (Hq3.out).mono ?_; rintro e w2 ⟨rfl, hbw2⟩
    have hsw2 := hbw2.size; (try simp only [World.size_alloc, World.heap_drewN, World.size_setCell, heap_drew] at hsw2)
    have gw2 : Below w.heap.size w w2 := belt
    obtain ⟨kw2x0x0, fw2x0x0, kw2x0x1, fw2x0x1, kw2x0x2, fw2x0x2, kw2x0x3, fw2x0x3, kw2x0x4, fw2x0x4, kw2x0x5, fw2x0x5, kw2x0x6, fw2x0x6, kw2x0x7, fw2x0x7⟩ := kf8 hbw2 w.heap.size
    have zw2x0 : w.heap.size < w2.heap.size := by omega
    obtain ⟨kw2x1x0, fw2x1x0, kw2x1x1, fw2x1x1, kw2x1x2, fw2x1x2, kw2x1x3, fw2x1x3, kw2x1x4, fw2x1x4, kw2x1x5, fw2x1x5, kw2x1x6, fw2x1x6, kw2x1x7, fw2x1x7⟩ := kf8 hbw2 (w.heap.size + 1)
    have zw2x1 : w.heap.size + 1 < w2.heap.size := by omega
    have Hhbw2 := Lib.hid hbw2; clear hbw2
    have q1 := Hq1.out w2 gw2
    unfold SlotErr at q1
    dsimp only [Slt.made] at q1
    try rw [Hhlk.out] at q1
    have Hq1 := Lib.hid q1; clear q1
    go_wp2_with fail
    refine (Hq1.out).mono ?_; rintro e w3 ⟨X, cx, rfl, ho, hbw3⟩
    have hsw3 := hbw3.size; (try simp only [World.size_alloc, World.heap_drewN, World.size_setCell, heap_drew] at hsw3)
    have gw3 : Below w.heap.size w w3 := belt
    obtain ⟨kw3x0x0, fw3x0x0, kw3x0x1, fw3x0x1, kw3x0x2, fw3x0x2, kw3x0x3, fw3x0x3, kw3x0x4, fw3x0x4, kw3x0x5, fw3x0x5, kw3x0x6, fw3x0x6, kw3x0x7, fw3x0x7⟩ := kf8 hbw3 w.heap.size
    have zw3x0 : w.heap.size < w3.heap.size := by omega
    obtain ⟨kw3x1x0, fw3x1x0, kw3x1x1, fw3x1x1, kw3x1x2, fw3x1x2, kw3x1x3, fw3x1x3, kw3x1x4, fw3x1x4, kw3x1x5, fw3x1x5, kw3x1x6, fw3x1x6, kw3x1x7, fw3x1x7⟩ := kf8 hbw3 (w.heap.size + 1)
    have zw3x1 : w.heap.size + 1 < w3.heap.size := by omega
    have Hhbw3 := Lib.hid hbw3; clear hbw3
    clear gw2 kw2x0x0 fw2x0x0 kw2x0x1 fw2x0x1 kw2x0x2 fw2x0x2 kw2x0x3 fw2x0x3 kw2x0x4 fw2x0x4 kw2x0x5 fw2x0x5 kw2x0x6 fw2x0x6 kw2x0x7 fw2x0x7 kw2x1x0 fw2x1x0 kw2x1x1 fw2x1x1 kw2x1x2 fw2x1x2 kw2x1x3 fw2x1x3 kw2x1x4 fw2x1x4 kw2x1x5 fw2x1x5 kw2x1x6 fw2x1x6 kw2x1x7 fw2x1x7
    go_wp2_with fail
    refine bodyPost_ret (v := .tuple #[.agg #[.int .i64 0, .int .i64 0, .slice none 0 0, .int .u64 0, .int .i64 0, .int .i64 0, .slice none 0 0, .int .u64 0], .int .i64 1]) (by simp [results, Tryz.results68, go_sem, *]) rfl (slotsErr_zero belt)
set_option maxHeartbeats 8000000 in
theorem rwrite_range0 (x y : Slt) (c at_ : Int) (A : Option Addr) (n p : Nat) (B : Option Addr) (m q : Nat) (D : Option Addr) (k r : Nat) (l : List Int) (hlk : l.length = k) (w : World) (hx : SlotIs w A n x) (hy : SlotIs w B m y) (hc : -9223372036854775808 ≤ c ∧ c ≤ 9223372036854775807) (hl : IntsAt w D .i64 l) (hk : k ≤ 500) (hf : Fit l)
  (hE : bestB x y = true) (hI : bestI x y = 0) (hF : fldB 0 c l = true) (h3 : 0 ≤ at_ ∧ at_ ≤ 3) (hS : x.s = 1000000000) :
  Calls Tryz.prog 68 #[.agg #[.int .i64 x.s, .int .i64 x.c, .slice A n p, .int .u64 x.u, .int .i64 y.s, .int .i64 y.c, .slice B m q, .int .u64 y.u], .int .i64 c, .slice D k r, .int .i64 at_] w (SlotsErr Slt.zero Slt.zero 3 w) := by
 have b1 : Below w.heap.size w ((w.alloc (.cells #[.int .i64 x.s, .int .i64 x.c, .slice A n p, .int .u64 x.u, .int .i64 y.s, .int .i64 y.c, .slice B m q, .int .u64 y.u] 46)).alloc (.cells #[.int .i64 0, .int .i64 0, .slice none 0 0, .int .u64 0, .int .i64 0, .int .i64 0, .slice none 0 0, .int .u64 0] 46)) := ((Below.refl _ _).alloc (Nat.le_refl _) _).alloc (by simp) _
 have q3 := rbest_any x y A n p B m q _ (hx.below b1) (hy.below b1)
 rw [hE, hI] at q3
 have q1 := fun W (hb : Below w.heap.size w W) => rmake_ok 0 c D r k l hlk W (by omega) hc (hl.below hb) hk hf hF
 have d1 : decide (at_ < 0) = false := decide_eq_false (by omega)
 have d2 : decide (3 < at_) = false := decide_eq_false (by omega)
 have hS1 : (x.s == 1000000000) = true := by rw [hS]; rfl
 have ⟨Hhx, Hhy, Hhc, Hhl, Hhf, HhE, HhI, Hb1⟩ := hid8 hx hy hc hl hf hE hI b1; clear hx hy hc hl hf hE hI b1; have ⟨Hq1, Hq3, Hhlk, HhF, Hh3, HhS⟩ := hid6 q1 q3 hlk hF h3 hS; clear q1 q3 hlk hF h3 hS
 go_enter Tryz.func68, Tryz.ntmps68
 go_wp2_with fail
 refine (Hq3.out).mono ?_; rintro e w2 ⟨rfl, hbw2⟩
 have hsw2 := hbw2.size; (try simp only [World.size_alloc, World.heap_drewN, World.size_setCell, heap_drew] at hsw2)
 have gw2 : Below w.heap.size w w2 := belt
 obtain ⟨kw2x0x0, fw2x0x0, kw2x0x1, fw2x0x1, kw2x0x2, fw2x0x2, kw2x0x3, fw2x0x3, kw2x0x4, fw2x0x4, kw2x0x5, fw2x0x5, kw2x0x6, fw2x0x6, kw2x0x7, fw2x0x7⟩ := kf8 hbw2 w.heap.size
 have zw2x0 : w.heap.size < w2.heap.size := by omega
 obtain ⟨kw2x1x0, fw2x1x0, kw2x1x1, fw2x1x1, kw2x1x2, fw2x1x2, kw2x1x3, fw2x1x3, kw2x1x4, fw2x1x4, kw2x1x5, fw2x1x5, kw2x1x6, fw2x1x6, kw2x1x7, fw2x1x7⟩ := kf8 hbw2 (w.heap.size + 1)
 have zw2x1 : w.heap.size + 1 < w2.heap.size := by omega
 have Hhbw2 := Lib.hid hbw2; clear hbw2
 have q1 := Hq1.out w2 gw2
 unfold SlotErr at q1
 dsimp only [Slt.made] at q1
 try rw [Hhlk.out] at q1
 have Hq1 := Lib.hid q1; clear q1
 go_wp2_with fail
 refine (Hq1.out).mono ?_; rintro e w3 ⟨X, cx, rfl, ho, hbw3⟩
 have hsw3 := hbw3.size; (try simp only [World.size_alloc, World.heap_drewN, World.size_setCell, heap_drew] at hsw3)
 have gw3 : Below w.heap.size w w3 := belt
 obtain ⟨kw3x0x0, fw3x0x0, kw3x0x1, fw3x0x1, kw3x0x2, fw3x0x2, kw3x0x3, fw3x0x3, kw3x0x4, fw3x0x4, kw3x0x5, fw3x0x5, kw3x0x6, fw3x0x6, kw3x0x7, fw3x0x7⟩ := kf8 hbw3 w.heap.size
 have zw3x0 : w.heap.size < w3.heap.size := by omega
 obtain ⟨kw3x1x0, fw3x1x0, kw3x1x1, fw3x1x1, kw3x1x2, fw3x1x2, kw3x1x3, fw3x1x3, kw3x1x4, fw3x1x4, kw3x1x5, fw3x1x5, kw3x1x6, fw3x1x6, kw3x1x7, fw3x1x7⟩ := kf8 hbw3 (w.heap.size + 1)
 have zw3x1 : w.heap.size + 1 < w3.heap.size := by omega
 have Hhbw3 := Lib.hid hbw3; clear hbw3
 clear gw2 kw2x0x0 fw2x0x0 kw2x0x1 fw2x0x1 kw2x0x2 fw2x0x2 kw2x0x3 fw2x0x3 kw2x0x4 fw2x0x4 kw2x0x5 fw2x0x5 kw2x0x6 fw2x0x6 kw2x0x7 fw2x0x7 kw2x1x0 fw2x1x0 kw2x1x1 fw2x1x1 kw2x1x2 fw2x1x2 kw2x1x3 fw2x1x3 kw2x1x4 fw2x1x4 kw2x1x5 fw2x1x5 kw2x1x6 fw2x1x6 kw2x1x7 fw2x1x7
 go_wp2_with fail
 refine bodyPost_ret (v := .tuple #[.agg #[.int .i64 0, .int .i64 0, .slice none 0 0, .int .u64 0, .int .i64 0, .int .i64 0, .slice none 0 0, .int .u64 0], .int .i64 3]) (by simp [results, Tryz.results68, go_sem, *]) rfl (slotsErr_zero belt)
end Go.Proofs.YtclgncaghiinhaaGreatDoor
